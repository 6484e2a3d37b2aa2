/- One text of: Gw Gx Gy. -/
import Derived.Test.YteppdlkmjgladaaGreatQGv
namespace Go.Proofs.YteppdlkmjgladaaGreat
open Go.RowKit Go.Proofs Go.Maps
set_option linter.unusedVariables false
set_option linter.unusedSimpArgs false
theorem zA43 {α : Type} (l : List α) (i : Nat) (a : α) : l.toArray.setIfInBounds i a = (l.set i a).toArray := by simp
theorem zB43 {α : Type} (x a : α) (l : List α) : (x :: l).set 0 a = a :: l := rfl
theorem zC43 {α : Type} (x a : α) (l : List α) (n : Nat) : (x :: l).set (n + 1) a = x :: l.set n a := rfl

def okN (x : Int) : Prop := 0 ≤ x ∧ x ≤ 549755813888
instance (x : Int) : Decidable (okN x) := inferInstanceAs (Decidable (_ ∧ _))
set_option maxHeartbeats 400000 in
theorem wrong_calls (x : Int) (w : World) : Calls Tryz.prog 56 #[.int .i64 x] w fun e w' => e = .returned (.bool (!decide (okN x))) ∧ w' = w := by
 by_cases h1 : x < 0
 ·have hd : decide (okN x) = false := decide_eq_false (fun h => by have := h.1; omega)
  rw [hd]
  go_enter Tryz.func56, Tryz.ntmps56
  go_wp2
  go_ret
  exact ⟨rfl, rfl⟩
 ·by_cases h2 : 549755813888 < x
  ·have hd : decide (okN x) = false := decide_eq_false (fun h => by have := h.2; omega)
   rw [hd]
   go_enter Tryz.func56, Tryz.ntmps56
   go_wp2
   go_ret
   exact ⟨rfl, rfl⟩
  ·have hd : decide (okN x) = true := decide_eq_true ⟨by omega, by omega⟩
   rw [hd]
   go_enter Tryz.func56, Tryz.ntmps56
   go_wp2
   go_ret
   exact ⟨rfl, rfl⟩
set_option maxHeartbeats 1000000 in
theorem ixwrong_calls (A : Option Addr) (n c : Nat) (l : List Int) (w : World) (hn : l.length = n) (hnn : n ≤ 1000) (h : Reads w w.heap.size 1 A n (l.map (Value.int .i64))) :
  Calls Tryz.prog 104 #[.slice A n c, .func (.func 56) #[] #[]] w fun e w' => (∃ z : Int, e = .returned (.int .i64 z) ∧ (decide (0 ≤ z) = false → ∀ x ∈ l, okN x)) ∧ ∃ q, w' = w.drewN q := by
 have hen : ∀ args w, (callFunc 56 args).run Tryz.prog w = .ok (.enter 56 args) w := enters_of Tryz.func56 (by kernel_rfl) rfl
 go_enter Tryz.func104, Tryz.ntmps104
 go_wp2
 go_loopw [5, 8, 10, 11, 12, 13, 14, 15, 16, 17, 18] (fun _ i _ _ _ _ _ _ _ _ _ wr => ∃ k q : Nat, k ≤ n ∧ i = .int .i64 k ∧ wr = w.drewN q ∧ Hid (∀ j (hj : j < l.length), j < k → okN l[j])) (fun _ i _ _ _ _ _ _ _ _ _ _ => n - (Go.RowKit.intOf i).toNat)
 case atStart => exact ⟨0, 0, Nat.zero_le _, rfl, rfl, hide fun j _ hj => by omega⟩
 case round =>
  obtain ⟨k, q, hk, rfl, rfl, HNO⟩ := hrel
  by_cases hlt : k < n
  ·obtain ⟨b, o, rfl, _, hc⟩ := h.at_ (by omega)
   have hkx : k < l.length := by omega
   have g := hc k (.int .i64 l[k]) (by simp [hkx])
   have i1 : (k : Int) < n := by omega
   obtain ⟨x, hx⟩ : ∃ x, l[k] = x := ⟨_, rfl⟩
   rw [hx] at g
   have HX := hide hx
   have HN := hide hn
   have HH := hide h
   clear hc hx h hn
   go_wp2_with fail
   go_at_fn 56
   refine (wrong_calls x _).mono ?_
   rintro e w2 ⟨rfl, rfl⟩
   by_cases hs : okN x
   ·rw [decide_eq_true hs]
    have HS := hide hs
    clear hs
    go_wp2
    go_roundw
    case rel =>
     refine ⟨k + 1, q, by omega, by go_num, rfl, hide fun j hj hjk => ?_⟩
     rcases Nat.lt_or_ge j k with h1 | h1
     ·exact HNO.out j hj h1
     ·obtain rfl : j = k := by omega
      rw [HX.out]
      exact HS.out
    case measure => simp [Go.RowKit.intOf]; omega
   ·rw [decide_eq_false hs]
    clear hs
    go_wp2
    go_ret
    exact ⟨⟨k, rfl, fun h => by have := of_decide_eq_false h; omega⟩, q, rfl⟩
  ·have e : k = n := by omega
   subst e
   have HN := hide hn
   clear hn h
   go_wp2
   go_ret
   exact ⟨⟨-1, rfl, fun _ x hx => by
    obtain ⟨j, hj, rfl⟩ := List.getElem_of_mem hx
    exact HNO.out j hj (by rw [← HN.out]; exact hj)⟩, q, rfl⟩
def CF (l : List Int) (e : Ending) : Prop := ∃ r : Bool, e = .returned (.bool r) ∧ (r = false → ∀ x ∈ l, okN x)
set_option maxHeartbeats 1000000 in
theorem hasWrong_calls (A : Option Addr) (n c : Nat) (l : List Int) (w : World) (hn : l.length = n) (hnn : n ≤ 1000) (h : Reads w w.heap.size 1 A n (l.map (Value.int .i64))) :
  Calls Tryz.prog 57 #[.slice A n c, .func (.func 56) #[] #[]] w fun e w' => CF l e ∧ ∃ q, w' = w.drewN q := by
 have HI := hide (ixwrong_calls A n c l w hn hnn h)
 clear h
 go_enter Tryz.func57, Tryz.ntmps57
 go_wp2_with fail
 with_reducible refine HI.out.mono ?_
 rintro e w2 ⟨⟨z, rfl, hz⟩, q, rfl⟩
 obtain ⟨r, hr⟩ : ∃ r, decide (0 ≤ z) = r := ⟨_, rfl⟩
 rw [hr] at hz
 have HZ := hide hz
 clear hz HI
 go_wp2
 go_ret
 exact ⟨⟨r, rfl, HZ.out⟩, q, rfl⟩
def deedG (k : Int) : Option Nat := if k = 1 then some 51 else if k = 2 then some 52 else if k = 3 then some 53 else if k = 4 then some 54 else if k = 5 then some 55 else none
def deedF (k : Int) : Option Value := (deedG k).map fun g => .func (.func g) #[] #[]
def deedN (k : Int) : Option Int := if k = 1 then some 3 else if k = 2 then some 2 else if k = 3 then some 4 else if k = 4 then some 3 else if k = 5 then some 3 else none
theorem deed_enters {k : Int} {g : Nat} (hg : deedG k = some g) : ∀ args w, (callFunc g args).run Tryz.prog w = .ok (.enter g args) w := by
 unfold deedG at hg
 split at hg
 ·injection hg with hg; subst hg; exact enters_of Tryz.func51 (by kernel_rfl) rfl
 split at hg
 ·injection hg with hg; subst hg; exact enters_of Tryz.func52 (by kernel_rfl) rfl
 split at hg
 ·injection hg with hg; subst hg; exact enters_of Tryz.func53 (by kernel_rfl) rfl
 split at hg
 ·injection hg with hg; subst hg; exact enters_of Tryz.func54 (by kernel_rfl) rfl
 split at hg
 ·injection hg with hg; subst hg; exact enters_of Tryz.func55 (by kernel_rfl) rfl
 cases hg
theorem run_fnil (w : World) (g : Nat) : (binOp .eql 123 (.func (.func g) #[] #[]) .nilFunc).run Tryz.prog w = .ok (.bool false) w := by
 have h : ∀ d : Nat, (Op.equalIn (d + 1) 123 (.func (.func g) #[] #[]) .nilFunc).run Tryz.prog w = .ok false w := fun d => by
  simp [Op.equalIn, run_underlying Tryz.underlying123]
 simp only [binOp]
 simp [Op.equal, Op.maxDepth, h 9999]
theorem run_nilnil (w : World) : (binOp .eql 123 .nilFunc .nilFunc).run Tryz.prog w = .ok (.bool true) w := by
 have h : ∀ d : Nat, (Op.equalIn (d + 1) 123 .nilFunc .nilFunc).run Tryz.prog w = .ok true w := fun d => by
  simp [Op.equalIn, run_underlying Tryz.underlying123]
 simp only [binOp]
 simp [Op.equal, Op.maxDepth, h 9999]
structure MsgW (W : World) (A1 : Option Addr) (N : List Int) (c1 : Nat) (A2 : Option Addr) (B : List Nat) (c2 : Nat) (A3 : Option Addr) (m3 : Nat) : Prop where
 n : Reads W W.heap.size 1 A1 N.length (N.map (Value.int .i64))
 b : TB W A2 B
 bc : B.length ≤ c2
 l : LB W A3 m3
 m : m3 ≤ 10
section
variable {W w w' w0 w1 w2 : World} {nb u j g p : Nat} {q q1 q' : Gl} {G G1 : Gd} {A1 A2 A3 : Option Addr} {N : List Int} {B : List Nat} {c1 c2 c3 m3 : Nat}
theorem MsgW.nu (h : MsgW W A1 N c1 A2 B c2 A3 m3) (h0 : 0 < N.length) : ∃ b o, A1 = some ⟨b, o, none⟩ ∧ NU W b o N := by
 obtain ⟨b, o, rfl, hb, hc⟩ := h.n.at_ h0
 refine ⟨b, o, rfl, fun w' hbe j x hx => ?_⟩
 have h1 := hc j (.int .i64 x) (by rw [List.getElem?_map, hx]; rfl)
 exact (hbe.cell (p := ⟨b, o + j, none⟩) hb).trans h1
theorem deed_calls (h : GP w nb q G) (hA : GA W w nb q) (hi : GI u G) (hu : u ≤ 850) (hV : VltOk G.m.V g) (hg : g + 4398046511104 < 2 ^ 60) (fr : Int) (hfr : 0 ≤ fr ∧ fr ≤ 15) (k : Int) {f : Nat} (hf : deedG k = some f) (hk : deedN k = some (N.length : Int)) (hN : ∀ x ∈ N, okN x) (hm : MsgW W A1 N c1 A2 B c2 A3 m3) :
  Calls Tryz.prog f #[.pointer (some ⟨nb, 0, none⟩), .int .i64 fr, .agg #[.int .i64 k, .slice A1 N.length c1, .slice A2 B.length c2, .slice A3 m3 c3]] w fun e w' => e = .returned (.tuple #[]) ∧ GV w w' nb q G (u + 5) (g + 2199023255552) := by
 have up : ∀ {u' g'} {w'}, u' ≤ u + 5 → g' ≤ g + 2199023255552 → GV w w' nb q G u' g' → GV w w' nb q G (u + 5) (g + 2199023255552) := fun hu hg hh => GV.first (GS.stay (Below.refl _ _)).gt hh rfl (Int.le_refl _) (Int.le_refl _) hu hg
 unfold deedG at hf
 unfold deedN at hk
 have hL := hm.l
 split at hf
 ·injection hf with hf; subst hf
  rename_i hk1; rw [if_pos hk1] at hk; injection hk with hk
  match N, hk, hN, hm with
  |[n0, n1, n2], _, hN, hm =>
   obtain ⟨b, o, rfl, hn⟩ := hm.nu (by simp)
   refine (gvote_calls h hA hi (by omega) hV (by omega) fr hfr k n0 n1 n2 (hN n0 (by simp)) hn c1 A2 A3 B.length m3 c2 c3).mono ?_
   rintro e w' ⟨rfl, hw⟩
   exact ⟨rfl, up (by omega) (by omega) hw.gv⟩
 split at hf
 ·injection hf with hf; subst hf
  rename_i h1 hk1; rw [if_neg h1, if_pos hk1] at hk; injection hk with hk
  match N, hk, hN, hm with
  |[n0, n1], _, hN, hm =>
   obtain ⟨b, o, rfl, hn⟩ := hm.nu (by simp)
   refine (gvoteOk_calls h hA hi (by omega) hV (by omega) fr hfr k n0 n1 hn c1 A2 A3 B.length m3 c2 c3).mono ?_
   rintro e w' ⟨rfl, hw⟩
   exact ⟨rfl, up (by omega) (by omega) hw⟩
 split at hf
 ·injection hf with hf; subst hf
  rename_i h1 h2 hk1; rw [if_neg h1, if_neg h2, if_pos hk1] at hk; injection hk with hk
  match N, hk, hN, hm with
  |[n0, n1, n2, n3], _, hN, hm =>
   obtain ⟨b, o, rfl, hn⟩ := hm.nu (by simp)
   refine (gappends_calls h hA hi (by omega) hV (by omega) fr hfr k n0 n1 n2 n3 (hN n1 (by simp)) (hN n3 (by simp)) hn c1 A2 A3 B.length m3 c2 c3 hm.m hm.l).mono ?_
   rintro e w' ⟨rfl, hw⟩
   exact ⟨rfl, up (by omega) (by omega) hw.gv⟩
 split at hf
 ·injection hf with hf; subst hf
  rename_i h1 h2 h3 hk1; rw [if_neg h1, if_neg h2, if_neg h3, if_pos hk1] at hk; injection hk with hk
  match N, hk, hN, hm with
  |[n0, n1, n2], _, hN, hm =>
   obtain ⟨b, o, rfl, hn⟩ := hm.nu (by simp)
   refine (gappOk_calls h hA hi (by omega) hV fr hfr k n0 n1 n2 (hN n2 (by simp)) hn c1 A2 A3 B.length m3 c2 c3).mono ?_
   rintro e w' ⟨rfl, hw⟩
   exact ⟨rfl, up (by omega) (by omega) hw.gv⟩
 split at hf
 ·injection hf with hf; subst hf
  rename_i h1 h2 h3 h4 hk1; rw [if_neg h1, if_neg h2, if_neg h3, if_neg h4, if_pos hk1] at hk; injection hk with hk
  match N, hk, hN, hm with
  |[n0, n1, n2], _, hN, hm =>
   obtain ⟨b, o, rfl, hn⟩ := hm.nu (by simp)
   obtain ⟨a1, e1⟩ : ∃ a : Nat, n1 = a := ⟨n1.toNat, by have := (hN n1 (by simp)).1; omega⟩
   obtain ⟨a2, e2⟩ : ∃ a : Nat, n2 = a := ⟨n2.toNat, by have := (hN n2 (by simp)).1; omega⟩
   subst e1
   subst e2
   refine (ginstall_calls h hA hi (by omega) hV (by omega) fr hfr k n0 a1 a2 (by have := (hN a1 (by simp)).2; omega) (by have := (hN a2 (by simp)).2; omega) hn c1 hm.b hm.bc A3 m3 c3 hm.m hm.l).mono ?_
   rintro e w' ⟨rfl, hw⟩
   exact ⟨rfl, up (by omega) (by omega) hw.gv⟩
 cases hf
end
end Go.Proofs.YteppdlkmjgladaaGreat

namespace Go.Proofs.YteppdlkmjgladaaGreat
open Go.RowKit Go.Proofs Go.Maps
set_option linter.unusedVariables false
set_option linter.unusedSimpArgs false

def deedC (k : Int) : Option Value := (deedN k).map (.int .i64)
theorem deeds_made (w0 : World) : ∃ w1 w2 w3 w4 w5 : World, (Instr.mapUpdate 124 (.map (some w0.heap.size)) (.int .i64 1) (.func (.func 51) #[] #[])).run Tryz.prog (w0.alloc (.map #[] 0)) = .ok () w1 ∧ (Instr.mapUpdate 124 (.map (some w0.heap.size)) (.int .i64 2) (.func (.func 52) #[] #[])).run Tryz.prog w1 = .ok () w2 ∧ (Instr.mapUpdate 124 (.map (some w0.heap.size)) (.int .i64 3) (.func (.func 53) #[] #[])).run Tryz.prog w2 = .ok () w3 ∧ (Instr.mapUpdate 124 (.map (some w0.heap.size)) (.int .i64 4) (.func (.func 54) #[] #[])).run Tryz.prog w3 = .ok () w4 ∧ (Instr.mapUpdate 124 (.map (some w0.heap.size)) (.int .i64 5) (.func (.func 55) #[] #[])).run Tryz.prog w4 = .ok () w5 ∧ GM w5 w0.heap.size 5 deedF ∧ Below w0.heap.size w0 w5 := by
 have q0 := (Below.refl w0.heap.size w0).alloc (Nat.le_refl _) (.map #[] 0)
 obtain ⟨w1, e1, g1, c1⟩ := (GM.made w0).put (mt := 124) (k := 1) (by unfold i64ok; omega) Tryz.underlying124 (.func (.func 51) #[] #[]) (by omega)
 replace g1 := g1.congr (c' := 1) (by simp [updV]) (fun _ _ => rfl)
 have q1 := Chg.onto q0 q0.size c1 (fun x hx => by simp at hx; omega)
 obtain ⟨w2, e2, g2, c2⟩ := g1.put (mt := 124) (k := 2) (by unfold i64ok; omega) Tryz.underlying124 (.func (.func 52) #[] #[]) (by omega)
 replace g2 := g2.congr (c' := 2) (by simp [updV]) (fun _ _ => rfl)
 have q2 := Chg.onto q1 q1.size c2 (fun x hx => by simp at hx; omega)
 obtain ⟨w3, e3, g3, c3⟩ := g2.put (mt := 124) (k := 3) (by unfold i64ok; omega) Tryz.underlying124 (.func (.func 53) #[] #[]) (by omega)
 replace g3 := g3.congr (c' := 3) (by simp [updV]) (fun _ _ => rfl)
 have q3 := Chg.onto q2 q2.size c3 (fun x hx => by simp at hx; omega)
 obtain ⟨w4, e4, g4, c4⟩ := g3.put (mt := 124) (k := 4) (by unfold i64ok; omega) Tryz.underlying124 (.func (.func 54) #[] #[]) (by omega)
 replace g4 := g4.congr (c' := 4) (by simp [updV]) (fun _ _ => rfl)
 have q4 := Chg.onto q3 q3.size c4 (fun x hx => by simp at hx; omega)
 obtain ⟨w5, e5, g5, c5⟩ := g4.put (mt := 124) (k := 5) (by unfold i64ok; omega) Tryz.underlying124 (.func (.func 55) #[] #[]) (by omega)
 replace g5 := g5.congr (c' := 5) (by simp [updV]) (fun _ _ => rfl)
 have q5 := Chg.onto q4 q4.size c5 (fun x hx => by simp at hx; omega)
 refine ⟨w1, w2, w3, w4, w5, e1, e2, e3, e4, e5, g5.congr (c' := 5) (f' := deedF) rfl (fun k _ => ?_), q5⟩
 unfold deedF deedG updV
 by_cases h5 : k = 5
 ·subst h5; rfl
 by_cases h4 : k = 4
 ·subst h4; rfl
 by_cases h3 : k = 3
 ·subst h3; rfl
 by_cases h2 : k = 2
 ·subst h2; rfl
 by_cases h1 : k = 1
 ·subst h1; rfl
 simp [h1, h2, h3, h4, h5]
theorem counts_made (w0 : World) : ∃ w1 w2 w3 w4 w5 : World, (Instr.mapUpdate 91 (.map (some w0.heap.size)) (.int .i64 1) (.int .i64 3)).run Tryz.prog (w0.alloc (.map #[] 0)) = .ok () w1 ∧ (Instr.mapUpdate 91 (.map (some w0.heap.size)) (.int .i64 2) (.int .i64 2)).run Tryz.prog w1 = .ok () w2 ∧ (Instr.mapUpdate 91 (.map (some w0.heap.size)) (.int .i64 3) (.int .i64 4)).run Tryz.prog w2 = .ok () w3 ∧ (Instr.mapUpdate 91 (.map (some w0.heap.size)) (.int .i64 4) (.int .i64 3)).run Tryz.prog w3 = .ok () w4 ∧ (Instr.mapUpdate 91 (.map (some w0.heap.size)) (.int .i64 5) (.int .i64 3)).run Tryz.prog w4 = .ok () w5 ∧ GM w5 w0.heap.size 5 deedC ∧ Below w0.heap.size w0 w5 := by
 have q0 := (Below.refl w0.heap.size w0).alloc (Nat.le_refl _) (.map #[] 0)
 obtain ⟨w1, e1, g1, c1⟩ := (GM.made w0).put (mt := 91) (k := 1) (by unfold i64ok; omega) Tryz.underlying91 (.int .i64 3) (by omega)
 replace g1 := g1.congr (c' := 1) (by simp [updV]) (fun _ _ => rfl)
 have q1 := Chg.onto q0 q0.size c1 (fun x hx => by simp at hx; omega)
 obtain ⟨w2, e2, g2, c2⟩ := g1.put (mt := 91) (k := 2) (by unfold i64ok; omega) Tryz.underlying91 (.int .i64 2) (by omega)
 replace g2 := g2.congr (c' := 2) (by simp [updV]) (fun _ _ => rfl)
 have q2 := Chg.onto q1 q1.size c2 (fun x hx => by simp at hx; omega)
 obtain ⟨w3, e3, g3, c3⟩ := g2.put (mt := 91) (k := 3) (by unfold i64ok; omega) Tryz.underlying91 (.int .i64 4) (by omega)
 replace g3 := g3.congr (c' := 3) (by simp [updV]) (fun _ _ => rfl)
 have q3 := Chg.onto q2 q2.size c3 (fun x hx => by simp at hx; omega)
 obtain ⟨w4, e4, g4, c4⟩ := g3.put (mt := 91) (k := 4) (by unfold i64ok; omega) Tryz.underlying91 (.int .i64 3) (by omega)
 replace g4 := g4.congr (c' := 4) (by simp [updV]) (fun _ _ => rfl)
 have q4 := Chg.onto q3 q3.size c4 (fun x hx => by simp at hx; omega)
 obtain ⟨w5, e5, g5, c5⟩ := g4.put (mt := 91) (k := 5) (by unfold i64ok; omega) Tryz.underlying91 (.int .i64 3) (by omega)
 replace g5 := g5.congr (c' := 5) (by simp [updV]) (fun _ _ => rfl)
 have q5 := Chg.onto q4 q4.size c5 (fun x hx => by simp at hx; omega)
 refine ⟨w1, w2, w3, w4, w5, e1, e2, e3, e4, e5, g5.congr (c' := 5) (f' := deedC) rfl (fun k _ => ?_), q5⟩
 unfold deedC deedN updV
 by_cases h5 : k = 5
 ·subst h5; rfl
 by_cases h4 : k = 4
 ·subst h4; rfl
 by_cases h3 : k = 3
 ·subst h3; rfl
 by_cases h2 : k = 2
 ·subst h2; rfl
 by_cases h1 : k = 1
 ·subst h1; rfl
 simp [h1, h2, h3, h4, h5]
theorem deedN_of {k : Int} {g : Nat} (h : deedG k = some g) : ∃ m : Nat, deedN k = some (m : Int) ∧ 2 ≤ m ∧ m ≤ 4 := by
 unfold deedG at h
 unfold deedN
 split at h
 ·rename_i h1; rw [if_pos h1]; exact ⟨3, rfl, by omega, by omega⟩
 split at h
 ·rename_i h1 h2; rw [if_neg h1, if_pos h2]; exact ⟨2, rfl, by omega, by omega⟩
 split at h
 ·rename_i h1 h2 h3; rw [if_neg h1, if_neg h2, if_pos h3]; exact ⟨4, rfl, by omega, by omega⟩
 split at h
 ·rename_i h1 h2 h3 h4; rw [if_neg h1, if_neg h2, if_neg h3, if_pos h4]; exact ⟨3, rfl, by omega, by omega⟩
 split at h
 ·rename_i h1 h2 h3 h4 h5; rw [if_neg h1, if_neg h2, if_neg h3, if_neg h4, if_pos h5]; exact ⟨3, rfl, by omega, by omega⟩
 cases h
end Go.Proofs.YteppdlkmjgladaaGreat

namespace Go.Proofs.YteppdlkmjgladaaGreat
open Go.RowKit Go.Proofs Go.Maps
set_option linter.unusedVariables false
set_option linter.unusedSimpArgs false

section
variable {W w w' w0 w1 w2 : World} {nb u j g p : Nat} {q q1 q' : Gl} {G G1 : Gd} {A1 A2 A3 : Option Addr} {N : List Int} {B : List Nat} {c1 c2 c3 m3 : Nat}
set_option maxHeartbeats 8000000 in
set_option maxRecDepth 100000 in
theorem ghandle_calls (h : GP w nb q G) (hA : GA W w nb q) (hi : GI u G) (hu : u ≤ 840) (hV : VltOk G.m.V g) (hg : g + 4398046511200 < 2 ^ 60) (fr : Int) (k : Int) (hk : i64ok k) (hm : MsgW W A1 N c1 A2 B c2 A3 m3) :
  Calls Tryz.prog 19 #[.pointer (some ⟨nb, 0, none⟩), .int .i64 fr, .agg #[.int .i64 k, .slice A1 N.length c1, .slice A2 B.length c2, .slice A3 m3 c3]] w fun e w' => e = .returned (.tuple #[]) ∧ GV w w' nb q G (u + 6) (g + 2199023255600) := by
 obtain ⟨n1, hn1⟩ : ∃ n, N.length = n := ⟨_, rfl⟩
 obtain ⟨bl, hbl⟩ : ∃ n, B.length = n := ⟨_, rfl⟩
 rw [hn1, hbl]
 obtain ⟨w0, hw0⟩ : ∃ w0, w.alloc (.cells #[.int .i64 k, .slice A1 n1 c1, .slice A2 bl c2, .slice A3 m3 c3] 52) = w0 := ⟨_, rfl⟩
 obtain ⟨xb, hxb⟩ : ∃ xb, w.heap.size = xb := ⟨_, rfl⟩
 have hb0 : Below w.heap.size w w0 := hw0 ▸ belowL (Below.refl _ _) _
 have bX : Blk w0 xb 52 [.int .i64 k, .slice A1 n1 c1, .slice A2 bl c2, .slice A3 m3 c3] := by rw [← hw0, ← hxb]; exact Blk.new rfl
 obtain ⟨a1, a2, a3, a4, wD, e1, e2, e3, e4, e5, gD, hbD⟩ := deeds_made w0
 obtain ⟨b1, b2, b3, b4, w1, d1, d2, d3, d4, d5, gC, hbC⟩ := counts_made wD
 have hmm := @run_makeMap Tryz.prog
 have hb1 : Below w.heap.size w w1 := belowA hbC (belowA hbD hb0)
 have gD1 := gD.below hbC
 have hlk := gD1.look (mt := 124) hk Tryz.underlying124 (z := .nilFunc) (by simp [Tryz.zeroValue123])
 have hlc := gC.look (mt := 91) hk Tryz.underlying91 (z := .int .i64 0) (by simp [Tryz.zeroValue3])
 have hA1 := hA.low hb1
 have h1 := h.below hb1
 have bX1 := (bX.below hbD).below hbC
 have hxq : xb ∉ gt nb q := fun hx => by have := h.lt xb (List.mem_append_left _ hx); omega
 have HW := hide (And.intro hw0 hxb)
 have HST : Hid (∀ w', Below w1.heap.size w1 w' → GV w w' nb q G (u + 6) (g + 2199023255600)) := hide (fun w' hb => (GW.stay h (hi.up (show u ≤ u + 6 by omega)) (hV.up (by omega)) (belowA hb hb1)).gv)
 have y2 : w1.cell? ⟨nb, 2, none⟩ = some (.bool G.dead) := h1.blk.cell 2
 have y0 : w1.cell? ⟨nb, 0, none⟩ = some (.int .i64 G.id) := h1.blk.cell 0
 have x0 : w1.cell? ⟨xb, 0, none⟩ = some (.int .i64 k) := bX1.cell 0
 have x1 : w1.cell? ⟨xb, 1, none⟩ = some (.slice A1 n1 c1) := bX1.cell 1
 have x0' : w0.cell? ⟨xb, 0, none⟩ = some (.int .i64 k) := bX.cell 0
 have H := hide (And.intro h1 (And.intro hb1 (And.intro hi (And.intro hV (And.intro hg (And.intro hm (And.intro hA1 (And.intro bX1 (And.intro hxq (And.intro hn1 hbl))))))))))
 clear h h1 hA hA1 hi hV hg hm hb0 hb1 bX bX1 gD gC gD1 hbD hbC hw0 hxb hxq hn1 hbl hk x0'
 go_enter Tryz.func19, Tryz.ntmps19
 go_upto_region 1 with fail
 (try rw [HW.out.1])
 (try rw [HW.out.2])
 go_upto_region 3 with fail
 clear e1 e2 e3 e4 e5 d1 d2 d3 d4 d5 hmm
 obtain ⟨md, hmd⟩ : ∃ md, w0.heap.size = md := ⟨_, rfl⟩
 obtain ⟨mc, hmc⟩ : ∃ mc, wD.heap.size = mc := ⟨_, rfl⟩
 rw [hmd] at hlk
 rw [hmc] at hlc
 rw [hmd, hmc]
 clear hmd hmc
 have nn1 := run_fnil
 have nn2 := run_nilnil
 cases hd : G.dead with
 |true =>
  rw [hd] at y2
  obtain ⟨fv, hfv⟩ : ∃ fv, (deedF k).getD Value.nilFunc = fv := ⟨_, rfl⟩
  rw [hfv] at hlk
  clear hd hfv
  go_wp2
  refine bodyPost_ret (results_none rfl _ _ _) rfl ?_
  exact ⟨rfl, HST.out _ (Below.refl _ _)⟩
 |false =>
  rw [hd] at y2
  clear hd
  cases hg : deedG k with
  |none =>
   have e1 : (deedF k).getD Value.nilFunc = Value.nilFunc := by unfold deedF; rw [hg]; rfl
   rw [e1] at hlk
   clear e1 hg
   go_wp2
   refine bodyPost_ret (results_none rfl _ _ _) rfl ?_
   exact ⟨rfl, HST.out _ (Below.refl _ _)⟩
  |some f =>
   have e1 : (deedF k).getD Value.nilFunc = .func (.func f) #[] #[] := by unfold deedF; rw [hg]; rfl
   obtain ⟨m, hmN, hm2, hm4⟩ := deedN_of hg
   have e2 : (deedC k).getD (.int .i64 0) = .int .i64 m := by unfold deedC; rw [hmN]; rfl
   rw [e1] at hlk
   rw [e2] at hlc
   have HG := hide (And.intro hg (And.intro hmN (And.intro hm2 hm4)))
   clear e1 e2 hg hmN hm2 hm4 nn2
   by_cases h1 : n1 = m
   ·have u1 : ((n1 : Int) != (m : Int)) = false := by simp [h1]
    by_cases h2 : fr < 0
    ·skip
     go_wp2
     refine bodyPost_ret (results_none rfl _ _ _) rfl ?_
     exact ⟨rfl, HST.out _ (Below.refl _ _)⟩
    ·by_cases h3 : 15 < fr
     ·skip
      go_wp2
      refine bodyPost_ret (results_none rfl _ _ _) rfl ?_
      exact ⟨rfl, HST.out _ (Below.refl _ _)⟩
     ·by_cases h4 : fr = G.id
      ·have u4 : (fr == G.id) = true := by simp [h4]
       clear h4
       go_wp2
       refine bodyPost_ret (results_none rfl _ _ _) rfl ?_
       exact ⟨rfl, HST.out _ (Below.refl _ _)⟩
      ·have u4 : (fr == G.id) = false := by simpa using h4
       have HFR := hide (show 0 ≤ fr ∧ fr ≤ 15 by omega)
       have HWR := hide (hasWrong_calls A1 n1 c1 N w1 H.out.2.2.2.2.2.2.2.2.2.1 (by have := HG.out; omega) (by have := H.out.2.2.2.2.2.1.n; rw [H.out.2.2.2.2.2.2.2.2.2.1] at this; exact (this.below H.out.2.2.2.2.2.2.1.be).more H.out.2.2.2.2.2.2.1.be.size))
       have HN1 := hide h1
       clear h1 h4
       go_upto_region 4 with fail
       go_wp2_with fail
       with_reducible refine HWR.out.mono ?_
       rintro e w2 ⟨⟨r, rfl, hr⟩, q2, rfl⟩
       have HR := hide hr
       have hb2 := below_drewN (Below.refl w1.heap.size w1) q2
       obtain ⟨w2, hw2⟩ : ∃ w2, w1.drewN q2 = w2 := ⟨_, rfl⟩
       rw [hw2] at hb2 ⊢
       have HB2 := hide hb2
       clear hr hb2 hw2 HWR y2 y0 x0 x1 hlk hlc h2 h3 u4 u1
       cases r with
       |true =>
        go_wp2
        refine bodyPost_ret (results_none rfl _ _ _) rfl ?_
        exact ⟨rfl, HST.out _ HB2.out⟩
       |false =>
        have hN : ∀ x ∈ N, okN x := HR.out rfl
        have hn0l : 0 < N.length := by rw [H.out.2.2.2.2.2.2.2.2.2.1, HN1.out]; have := HG.out.2.2.1; omega
        obtain ⟨b, o, rfl, hnu⟩ := H.out.2.2.2.2.2.1.nu hn0l
        obtain ⟨n0, hn0⟩ : ∃ n0, N[0]? = some n0 := ⟨_, List.getElem?_eq_getElem hn0l⟩
        have HNU := hide (And.intro hnu (And.intro hn0 (hN n0 (List.mem_of_getElem? hn0))))
        clear hn0l hnu hn0
        have h2 := H.out.1.below HB2.out
        have bX2 := H.out.2.2.2.2.2.2.2.1.below HB2.out
        have y13 : w2.cell? ⟨nb, 13, none⟩ = some (.int .i64 G.role) := h2.blk.cell 13
        have y14 : w2.cell? ⟨nb, 14, none⟩ = some (.int .i64 G.leader) := h2.blk.cell 14
        have y15 : w2.cell? ⟨nb, 15, none⟩ = some (.int .i64 G.quiet) := h2.blk.cell 15
        have x0 : w2.cell? ⟨xb, 0, none⟩ = some (.int .i64 k) := bX2.cell 0
        have HN := hide hN
        clear hN h2 bX2
        by_cases hk1 : k = 1
        ·have v1 : (k == 1) = true := by simp [hk1]
         by_cases hr2 : G.role = 2
         ·have v2 : (G.role == 2) = true := by simp [hr2]
          clear hk1 hr2
          go_wp2
          refine bodyPost_ret (results_none rfl _ _ _) rfl ?_
          exact ⟨rfl, HST.out _ HB2.out⟩
         ·have v2 : (G.role == 2) = false := by simpa using hr2
          by_cases hl : G.leader = -1
          ·have v3 : (G.leader != -1) = false := by simp [hl]
           clear hk1 hr2 hl
           go_upto_region 6 with fail
           clear y13 y14 y15 x0
           have hp1 : 0 < n1 := by rw [HN1.out]; have := HG.out.2.2.1; omega
           have hp2 : (0 : Int) < n1 := by omega
           have h2 := H.out.1.below HB2.out
           have bX2 := H.out.2.2.2.2.2.2.2.1.below HB2.out
           have hA2 := H.out.2.2.2.2.2.2.1.low HB2.out
           have r2 := Below.refl w2.heap.size w2
           have x1 := bX2.rule 1 _ rfl
           have y3 := h2.blk.rule 3 _ rfl
           have y4 := h2.blk.rule 4 _ rfl
           have p0 : ∀ w', Below w2.heap.size w2 w' → w'.cell? ⟨b, o, none⟩ = some (.int .i64 n0) := fun w' hb => HNU.out.1.at_ hA2.be hb 0 HNU.out.2.1
           obtain ⟨T, hT⟩ : ∃ T, (if G.bt < n0 then n0 else G.bt) = T := ⟨_, rfl⟩
           obtain ⟨Z, hZ⟩ : ∃ Z, (if G.bt < n0 then -1 else G.bv) = Z := ⟨_, rfl⟩
           have hbt := H.out.2.2.1.bt
           have hbv := H.out.2.2.1.bv
           have hn0 := HNU.out.2.2
           unfold okN at hn0
           have hTb : G.bt ≤ T ∧ 0 ≤ T ∧ T ≤ 1099511627776 + u := by split at hT <;> omega
           have hZb : -1 ≤ Z ∧ Z ≤ 15 := by split at hZ <;> omega
           have HSE := hide (fun (wz : World) => bsee_calls (w := wz) G.bt G.bv n0)
           rw [hT, hZ] at HSE
           have HKE := hide (fun (w' : World) (hb : Below w2.heap.size w2 w') => gkeep_calls (h2.below hb) H.out.2.2.2.1 (by have := H.out.2.2.2.2.1; omega) T Z (by omega) (by omega))
           have HTZ := hide (And.intro hTb hZb)
           have H2 := hide (And.intro h2 (And.intro bX2 hA2))
           clear h2 bX2 hA2 hT hZ hbt hbv hn0 hTb hZb
           refine lxR (fun w' => Below w2.heap.size w2 w') [10] 0 [(2, 0), (2, 1), (2, 2), (2, 3), (0, 4), (2, 5), (0, 6), (2, 7), (0, 8), (1, 9), (3, 10)] #[true, true, true, true, true, true, true, true, true, true, true] (by kernel_rfl) (by kernel_rfl) (by decide) (by kernel_rfl) (by kernel_rfl) (fun _ _ _ _ _ h => h) (by (first | exact r2.drew | exact hbs')) (fun hS0 => ?_)
           simp only [List.map_cons, List.map_nil, List.getElem?_toArray, List.getElem?_cons_succ, List.getElem?_cons_zero]
           (iterate 4 ((apply lxP (by rfl); (focus (intro w; go_simp; (try with_reducible rfl); done)); simp only [Act.put, zA43, zB43, zC43]))); (apply lxT (by rfl); (focus (intro w hw; (try dsimp only at hw); go_simp; (try with_reducible rfl); done)); simp only [Act.put, zA43, zB43, zC43]); (apply lxP (by rfl); (focus (intro w; go_simp; (try with_reducible rfl); done)); simp only [Act.put, zA43, zB43, zC43]); (apply lxT (by rfl); (focus (intro w hw; (try dsimp only at hw); go_simp; (try with_reducible rfl); done)); simp only [Act.put, zA43, zB43, zC43]); (apply lxP (by rfl); (focus (intro w; go_simp; (try with_reducible rfl); done)); simp only [Act.put, zA43, zB43, zC43]); (apply lxT (by rfl); (focus (intro w hw; (try dsimp only at hw); go_simp; (try with_reducible rfl); done)); simp only [Act.put, zA43, zB43, zC43]); (refine lxE (by rfl) ?_; go_simp; (first | (go_at_call 59; (with_reducible refine (HSE.out _).mono ?_); rintro e w4 ⟨rfl, hbs⟩; have hbs' : Below w2.heap.size w2 w4 := belowA hbs (by first | exact r2.drew | exact r2)) | (go_at_call 58; (with_reducible refine (HKE.out _ hbs').mono ?_); rintro e w5 ⟨q5, r5, ld5, V5, d5, rfl, h5, hok5, hs5, _⟩)); refine lxB (by (first | exact r2.drew | exact hbs')) (fun hS1 => ?_)); (refine lxF (by rfl) ?_; go_simp; (first | (go_at_call 59; (with_reducible refine (HSE.out _).mono ?_); rintro e w4 ⟨rfl, hbs⟩; have hbs' : Below w2.heap.size w2 w4 := belowA hbs (by first | exact r2.drew | exact r2)) | (go_at_call 58; (with_reducible refine (HKE.out _ hbs').mono ?_); rintro e w5 ⟨q5, r5, ld5, V5, d5, rfl, h5, hok5, hs5, _⟩)))
           refine lxN (fun _ => wqD (by kernel_rfl) ?_ _)
           have hs25 : GS w2 w5 nb q q5 := (GS.stay hbs').trans hs5
           have hi5 : GI (u + 1) (Gd.vlt { G with bt := T, bv := Z, role := r5, leader := ld5 } V5 d5) := H.out.2.2.1.kept (by have := HTZ.out; omega) HTZ.out.2
           have hs05 : GS w w5 nb q q5 := (GS.stay (belowA HB2.out H.out.2.1)).trans hs25
           have bX5 := H2.out.2.1.chg hs25.c H.out.2.2.2.2.2.2.2.2.1
           clear hp1 hp2
           have hA5 := H2.out.2.2.step hs25
           cases d5 with
           |true =>
            have HF : Hid (GV w w5 nb q G (u + 6) (g + 2199023255600)) := hide ⟨q5, _, h5, hi5.up (by omega), hok5.up (by omega), rfl, HTZ.out.1.1, Int.le_refl _, hs05.gt⟩
            clear h5 hok5 hs5 hs25 hi5 hs05 bX5 hA5 hbs hbs' x1 y3 y4 p0 hS0 hS1 HKE HSE
            go_wp2
            go_end0
            exact ⟨rfl, HF.out⟩
           |false =>
            have z0 : w5.cell? ⟨xb, 0, none⟩ = some (.int .i64 k) := bX5.cell 0
            have z1 : w5.cell? ⟨xb, 1, none⟩ = some (.slice (some ⟨b, o, none⟩) n1 c1) := bX5.cell 1
            have z2 : w5.cell? ⟨xb, 2, none⟩ = some (.slice A2 bl c2) := bX5.cell 2
            have z3 : w5.cell? ⟨xb, 3, none⟩ = some (.slice A3 m3 c3) := bX5.cell 3
            have hnl := H.out.2.2.2.2.2.2.2.2.2.1
            have hbl := H.out.2.2.2.2.2.2.2.2.2.2
            have hDC := deed_calls h5 hA5 hi5 (by omega) (show VltOk V5 (g + 1) from hok5) (by have := H.out.2.2.2.2.1; omega) fr HFR.out k HG.out.1 (by rw [hnl, HN1.out]; exact HG.out.2.1) HN.out H.out.2.2.2.2.2.1 (c3 := c3)
            rw [hnl, hbl] at hDC
            have HDC := hide hDC
            have HS5 := hide hs05.gt
            have hen := deed_enters HG.out.1
            have HLE := hide HTZ.out.1.1
            clear h5 hok5 hs5 hs25 hi5 hs05 bX5 hA5 hbs hbs' x1 y3 y4 p0 hS0 hS1 HKE HSE hnl hbl hDC
            go_wp2_with fail
            go_at_fn f
            refine HDC.out.mono ?_
            rintro e w6 ⟨rfl, hv6⟩
            have HF : Hid (GV w w6 nb q G (u + 6) (g + 2199023255600)) := hide (GV.first HS5.out hv6 rfl HLE.out (Int.le_refl _) (by omega) (by omega))
            clear hv6 HDC hen z0 z1 z2 z3
            go_wp2
            go_end0
            exact ⟨rfl, HF.out⟩
          ·have v3 : (G.leader != -1) = true := by simpa using hl
           by_cases hq : G.quiet ≤ 12
           ·clear hk1 hr2 hl
            go_wp2
            refine bodyPost_ret (results_none rfl _ _ _) rfl ?_
            exact ⟨rfl, HST.out _ HB2.out⟩
           ·clear hk1 hr2 hl
            go_upto_region 6 with fail
            clear y13 y14 y15 x0
            have hp1 : 0 < n1 := by rw [HN1.out]; have := HG.out.2.2.1; omega
            have hp2 : (0 : Int) < n1 := by omega
            have h2 := H.out.1.below HB2.out
            have bX2 := H.out.2.2.2.2.2.2.2.1.below HB2.out
            have hA2 := H.out.2.2.2.2.2.2.1.low HB2.out
            have r2 := Below.refl w2.heap.size w2
            have x1 := bX2.rule 1 _ rfl
            have y3 := h2.blk.rule 3 _ rfl
            have y4 := h2.blk.rule 4 _ rfl
            have p0 : ∀ w', Below w2.heap.size w2 w' → w'.cell? ⟨b, o, none⟩ = some (.int .i64 n0) := fun w' hb => HNU.out.1.at_ hA2.be hb 0 HNU.out.2.1
            obtain ⟨T, hT⟩ : ∃ T, (if G.bt < n0 then n0 else G.bt) = T := ⟨_, rfl⟩
            obtain ⟨Z, hZ⟩ : ∃ Z, (if G.bt < n0 then -1 else G.bv) = Z := ⟨_, rfl⟩
            have hbt := H.out.2.2.1.bt
            have hbv := H.out.2.2.1.bv
            have hn0 := HNU.out.2.2
            unfold okN at hn0
            have hTb : G.bt ≤ T ∧ 0 ≤ T ∧ T ≤ 1099511627776 + u := by split at hT <;> omega
            have hZb : -1 ≤ Z ∧ Z ≤ 15 := by split at hZ <;> omega
            have HSE := hide (fun (wz : World) => bsee_calls (w := wz) G.bt G.bv n0)
            rw [hT, hZ] at HSE
            have HKE := hide (fun (w' : World) (hb : Below w2.heap.size w2 w') => gkeep_calls (h2.below hb) H.out.2.2.2.1 (by have := H.out.2.2.2.2.1; omega) T Z (by omega) (by omega))
            have HTZ := hide (And.intro hTb hZb)
            have H2 := hide (And.intro h2 (And.intro bX2 hA2))
            clear h2 bX2 hA2 hT hZ hbt hbv hn0 hTb hZb
            refine lxR (fun w' => Below w2.heap.size w2 w') [10] 0 [(2, 0), (2, 1), (2, 2), (2, 3), (0, 4), (2, 5), (0, 6), (2, 7), (0, 8), (1, 9), (3, 10)] #[true, true, true, true, true, true, true, true, true, true, true] (by kernel_rfl) (by kernel_rfl) (by decide) (by kernel_rfl) (by kernel_rfl) (fun _ _ _ _ _ h => h) (by (first | exact r2.drew | exact hbs')) (fun hS0 => ?_)
            simp only [List.map_cons, List.map_nil, List.getElem?_toArray, List.getElem?_cons_succ, List.getElem?_cons_zero]
            (iterate 4 ((apply lxP (by rfl); (focus (intro w; go_simp; (try with_reducible rfl); done)); simp only [Act.put, zA43, zB43, zC43]))); (apply lxT (by rfl); (focus (intro w hw; (try dsimp only at hw); go_simp; (try with_reducible rfl); done)); simp only [Act.put, zA43, zB43, zC43]); (apply lxP (by rfl); (focus (intro w; go_simp; (try with_reducible rfl); done)); simp only [Act.put, zA43, zB43, zC43]); (apply lxT (by rfl); (focus (intro w hw; (try dsimp only at hw); go_simp; (try with_reducible rfl); done)); simp only [Act.put, zA43, zB43, zC43]); (apply lxP (by rfl); (focus (intro w; go_simp; (try with_reducible rfl); done)); simp only [Act.put, zA43, zB43, zC43]); (apply lxT (by rfl); (focus (intro w hw; (try dsimp only at hw); go_simp; (try with_reducible rfl); done)); simp only [Act.put, zA43, zB43, zC43]); (refine lxE (by rfl) ?_; go_simp; (first | (go_at_call 59; (with_reducible refine (HSE.out _).mono ?_); rintro e w4 ⟨rfl, hbs⟩; have hbs' : Below w2.heap.size w2 w4 := belowA hbs (by first | exact r2.drew | exact r2)) | (go_at_call 58; (with_reducible refine (HKE.out _ hbs').mono ?_); rintro e w5 ⟨q5, r5, ld5, V5, d5, rfl, h5, hok5, hs5, _⟩)); refine lxB (by (first | exact r2.drew | exact hbs')) (fun hS1 => ?_)); (refine lxF (by rfl) ?_; go_simp; (first | (go_at_call 59; (with_reducible refine (HSE.out _).mono ?_); rintro e w4 ⟨rfl, hbs⟩; have hbs' : Below w2.heap.size w2 w4 := belowA hbs (by first | exact r2.drew | exact r2)) | (go_at_call 58; (with_reducible refine (HKE.out _ hbs').mono ?_); rintro e w5 ⟨q5, r5, ld5, V5, d5, rfl, h5, hok5, hs5, _⟩)))
            refine lxN (fun _ => wqD (by kernel_rfl) ?_ _)
            have hs25 : GS w2 w5 nb q q5 := (GS.stay hbs').trans hs5
            have hi5 : GI (u + 1) (Gd.vlt { G with bt := T, bv := Z, role := r5, leader := ld5 } V5 d5) := H.out.2.2.1.kept (by have := HTZ.out; omega) HTZ.out.2
            have hs05 : GS w w5 nb q q5 := (GS.stay (belowA HB2.out H.out.2.1)).trans hs25
            have bX5 := H2.out.2.1.chg hs25.c H.out.2.2.2.2.2.2.2.2.1
            clear hp1 hp2
            have hA5 := H2.out.2.2.step hs25
            cases d5 with
            |true =>
             have HF : Hid (GV w w5 nb q G (u + 6) (g + 2199023255600)) := hide ⟨q5, _, h5, hi5.up (by omega), hok5.up (by omega), rfl, HTZ.out.1.1, Int.le_refl _, hs05.gt⟩
             clear h5 hok5 hs5 hs25 hi5 hs05 bX5 hA5 hbs hbs' x1 y3 y4 p0 hS0 hS1 HKE HSE
             go_wp2
             go_end0
             exact ⟨rfl, HF.out⟩
            |false =>
             have z0 : w5.cell? ⟨xb, 0, none⟩ = some (.int .i64 k) := bX5.cell 0
             have z1 : w5.cell? ⟨xb, 1, none⟩ = some (.slice (some ⟨b, o, none⟩) n1 c1) := bX5.cell 1
             have z2 : w5.cell? ⟨xb, 2, none⟩ = some (.slice A2 bl c2) := bX5.cell 2
             have z3 : w5.cell? ⟨xb, 3, none⟩ = some (.slice A3 m3 c3) := bX5.cell 3
             have hnl := H.out.2.2.2.2.2.2.2.2.2.1
             have hbl := H.out.2.2.2.2.2.2.2.2.2.2
             have hDC := deed_calls h5 hA5 hi5 (by omega) (show VltOk V5 (g + 1) from hok5) (by have := H.out.2.2.2.2.1; omega) fr HFR.out k HG.out.1 (by rw [hnl, HN1.out]; exact HG.out.2.1) HN.out H.out.2.2.2.2.2.1 (c3 := c3)
             rw [hnl, hbl] at hDC
             have HDC := hide hDC
             have HS5 := hide hs05.gt
             have hen := deed_enters HG.out.1
             have HLE := hide HTZ.out.1.1
             clear h5 hok5 hs5 hs25 hi5 hs05 bX5 hA5 hbs hbs' x1 y3 y4 p0 hS0 hS1 HKE HSE hnl hbl hDC
             go_wp2_with fail
             go_at_fn f
             refine HDC.out.mono ?_
             rintro e w6 ⟨rfl, hv6⟩
             have HF : Hid (GV w w6 nb q G (u + 6) (g + 2199023255600)) := hide (GV.first HS5.out hv6 rfl HLE.out (Int.le_refl _) (by omega) (by omega))
             clear hv6 HDC hen z0 z1 z2 z3
             go_wp2
             go_end0
             exact ⟨rfl, HF.out⟩
        ·have v1 : (k == 1) = false := by simpa using hk1
         clear hk1
         go_upto_region 6 with fail
         clear y13 y14 y15 x0
         have hp1 : 0 < n1 := by rw [HN1.out]; have := HG.out.2.2.1; omega
         have hp2 : (0 : Int) < n1 := by omega
         have h2 := H.out.1.below HB2.out
         have bX2 := H.out.2.2.2.2.2.2.2.1.below HB2.out
         have hA2 := H.out.2.2.2.2.2.2.1.low HB2.out
         have r2 := Below.refl w2.heap.size w2
         have x1 := bX2.rule 1 _ rfl
         have y3 := h2.blk.rule 3 _ rfl
         have y4 := h2.blk.rule 4 _ rfl
         have p0 : ∀ w', Below w2.heap.size w2 w' → w'.cell? ⟨b, o, none⟩ = some (.int .i64 n0) := fun w' hb => HNU.out.1.at_ hA2.be hb 0 HNU.out.2.1
         obtain ⟨T, hT⟩ : ∃ T, (if G.bt < n0 then n0 else G.bt) = T := ⟨_, rfl⟩
         obtain ⟨Z, hZ⟩ : ∃ Z, (if G.bt < n0 then -1 else G.bv) = Z := ⟨_, rfl⟩
         have hbt := H.out.2.2.1.bt
         have hbv := H.out.2.2.1.bv
         have hn0 := HNU.out.2.2
         unfold okN at hn0
         have hTb : G.bt ≤ T ∧ 0 ≤ T ∧ T ≤ 1099511627776 + u := by split at hT <;> omega
         have hZb : -1 ≤ Z ∧ Z ≤ 15 := by split at hZ <;> omega
         have HSE := hide (fun (wz : World) => bsee_calls (w := wz) G.bt G.bv n0)
         rw [hT, hZ] at HSE
         have HKE := hide (fun (w' : World) (hb : Below w2.heap.size w2 w') => gkeep_calls (h2.below hb) H.out.2.2.2.1 (by have := H.out.2.2.2.2.1; omega) T Z (by omega) (by omega))
         have HTZ := hide (And.intro hTb hZb)
         have H2 := hide (And.intro h2 (And.intro bX2 hA2))
         clear h2 bX2 hA2 hT hZ hbt hbv hn0 hTb hZb
         refine lxR (fun w' => Below w2.heap.size w2 w') [10] 0 [(2, 0), (2, 1), (2, 2), (2, 3), (0, 4), (2, 5), (0, 6), (2, 7), (0, 8), (1, 9), (3, 10)] #[true, true, true, true, true, true, true, true, true, true, true] (by kernel_rfl) (by kernel_rfl) (by decide) (by kernel_rfl) (by kernel_rfl) (fun _ _ _ _ _ h => h) (by (first | exact r2.drew | exact hbs')) (fun hS0 => ?_)
         simp only [List.map_cons, List.map_nil, List.getElem?_toArray, List.getElem?_cons_succ, List.getElem?_cons_zero]
         (iterate 4 ((apply lxP (by rfl); (focus (intro w; go_simp; (try with_reducible rfl); done)); simp only [Act.put, zA43, zB43, zC43]))); (apply lxT (by rfl); (focus (intro w hw; (try dsimp only at hw); go_simp; (try with_reducible rfl); done)); simp only [Act.put, zA43, zB43, zC43]); (apply lxP (by rfl); (focus (intro w; go_simp; (try with_reducible rfl); done)); simp only [Act.put, zA43, zB43, zC43]); (apply lxT (by rfl); (focus (intro w hw; (try dsimp only at hw); go_simp; (try with_reducible rfl); done)); simp only [Act.put, zA43, zB43, zC43]); (apply lxP (by rfl); (focus (intro w; go_simp; (try with_reducible rfl); done)); simp only [Act.put, zA43, zB43, zC43]); (apply lxT (by rfl); (focus (intro w hw; (try dsimp only at hw); go_simp; (try with_reducible rfl); done)); simp only [Act.put, zA43, zB43, zC43]); (refine lxE (by rfl) ?_; go_simp; (first | (go_at_call 59; (with_reducible refine (HSE.out _).mono ?_); rintro e w4 ⟨rfl, hbs⟩; have hbs' : Below w2.heap.size w2 w4 := belowA hbs (by first | exact r2.drew | exact r2)) | (go_at_call 58; (with_reducible refine (HKE.out _ hbs').mono ?_); rintro e w5 ⟨q5, r5, ld5, V5, d5, rfl, h5, hok5, hs5, _⟩)); refine lxB (by (first | exact r2.drew | exact hbs')) (fun hS1 => ?_)); (refine lxF (by rfl) ?_; go_simp; (first | (go_at_call 59; (with_reducible refine (HSE.out _).mono ?_); rintro e w4 ⟨rfl, hbs⟩; have hbs' : Below w2.heap.size w2 w4 := belowA hbs (by first | exact r2.drew | exact r2)) | (go_at_call 58; (with_reducible refine (HKE.out _ hbs').mono ?_); rintro e w5 ⟨q5, r5, ld5, V5, d5, rfl, h5, hok5, hs5, _⟩)))
         refine lxN (fun _ => wqD (by kernel_rfl) ?_ _)
         have hs25 : GS w2 w5 nb q q5 := (GS.stay hbs').trans hs5
         have hi5 : GI (u + 1) (Gd.vlt { G with bt := T, bv := Z, role := r5, leader := ld5 } V5 d5) := H.out.2.2.1.kept (by have := HTZ.out; omega) HTZ.out.2
         have hs05 : GS w w5 nb q q5 := (GS.stay (belowA HB2.out H.out.2.1)).trans hs25
         have bX5 := H2.out.2.1.chg hs25.c H.out.2.2.2.2.2.2.2.2.1
         clear hp1 hp2
         have hA5 := H2.out.2.2.step hs25
         cases d5 with
         |true =>
          have HF : Hid (GV w w5 nb q G (u + 6) (g + 2199023255600)) := hide ⟨q5, _, h5, hi5.up (by omega), hok5.up (by omega), rfl, HTZ.out.1.1, Int.le_refl _, hs05.gt⟩
          clear h5 hok5 hs5 hs25 hi5 hs05 bX5 hA5 hbs hbs' x1 y3 y4 p0 hS0 hS1 HKE HSE
          go_wp2
          go_end0
          exact ⟨rfl, HF.out⟩
         |false =>
          have z0 : w5.cell? ⟨xb, 0, none⟩ = some (.int .i64 k) := bX5.cell 0
          have z1 : w5.cell? ⟨xb, 1, none⟩ = some (.slice (some ⟨b, o, none⟩) n1 c1) := bX5.cell 1
          have z2 : w5.cell? ⟨xb, 2, none⟩ = some (.slice A2 bl c2) := bX5.cell 2
          have z3 : w5.cell? ⟨xb, 3, none⟩ = some (.slice A3 m3 c3) := bX5.cell 3
          have hnl := H.out.2.2.2.2.2.2.2.2.2.1
          have hbl := H.out.2.2.2.2.2.2.2.2.2.2
          have hDC := deed_calls h5 hA5 hi5 (by omega) (show VltOk V5 (g + 1) from hok5) (by have := H.out.2.2.2.2.1; omega) fr HFR.out k HG.out.1 (by rw [hnl, HN1.out]; exact HG.out.2.1) HN.out H.out.2.2.2.2.2.1 (c3 := c3)
          rw [hnl, hbl] at hDC
          have HDC := hide hDC
          have HS5 := hide hs05.gt
          have hen := deed_enters HG.out.1
          have HLE := hide HTZ.out.1.1
          clear h5 hok5 hs5 hs25 hi5 hs05 bX5 hA5 hbs hbs' x1 y3 y4 p0 hS0 hS1 HKE HSE hnl hbl hDC
          go_wp2_with fail
          go_at_fn f
          refine HDC.out.mono ?_
          rintro e w6 ⟨rfl, hv6⟩
          have HF : Hid (GV w w6 nb q G (u + 6) (g + 2199023255600)) := hide (GV.first HS5.out hv6 rfl HLE.out (Int.le_refl _) (by omega) (by omega))
          clear hv6 HDC hen z0 z1 z2 z3
          go_wp2
          go_end0
          exact ⟨rfl, HF.out⟩
   ·have u1 : ((n1 : Int) != (m : Int)) = true := by simp; omega
    clear h1
    go_wp2
    refine bodyPost_ret (results_none rfl _ _ _) rfl ?_
    exact ⟨rfl, HST.out _ (Below.refl _ _)⟩
end
end Go.Proofs.YteppdlkmjgladaaGreat
