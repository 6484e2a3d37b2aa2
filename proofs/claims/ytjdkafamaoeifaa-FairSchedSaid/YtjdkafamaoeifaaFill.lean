/- dotterellaw12.fill; small words on charges. -/
import Derived.Test.YtjdkafamaoeifaaSch8
import Derived.Test.YtjdkafamaoeifaaOpenP
namespace Go.Proofs.Ytjdkafamaoeifaa
open Go.RowKit Go.Proofs Go.Maps
set_option linter.unusedVariables false
set_option linter.unusedSimpArgs false

theorem add_plain {a b : Int} (a0 : 0 ≤ a) (b0 : 0 ≤ b) (h : a + b ≤ 2305843009213693952) : add a b = a + b := by
  unfold add
  rw [hold_in a0 (by omega), hold_in b0 (by omega), hold_in (by omega) h]
theorem quo_bd {w : Int} (h : 1 ≤ w) : 0 ≤ 67108864 / w ∧ 67108864 / w ≤ 67108864 :=
  ⟨Int.ediv_nonneg (by decide) (by omega), Int.ediv_le_self _ (by decide)⟩
theorem times_one {a : Int} (a0 : 0 ≤ a) (a1 : a ≤ 2305843009213693952) : times a 1 = a := by
  rw [times_hold, hold_in a0 a1, hold_in (a := 1) (by decide) (by decide), Int.mul_one, hold_in a0 a1]
theorem times_zero (a : Int) : times a 0 = 0 := by
  rw [times_hold, hold_in (a := 0) (by decide) (by decide), Int.mul_zero]
  rfl
theorem done_zero : done_ 0 = 0 := rfl
def its (k : Nat) : List It := (List.range k).map fun (j : Nat) => ⟨(j : Int), 0, 0⟩
theorem its_length (k : Nat) : (its k).length = k := by simp [its]
theorem its_succ (k : Nat) : its (k + 1) = its k ++ [⟨(k : Int), 0, 0⟩] := by simp [its, List.range_succ]
theorem its_plain {k : Nat} {x : It} (h : x ∈ its k) : x.delta = 0 ∧ x.rho = 0 := by
  obtain ⟨j, _, rfl⟩ := List.mem_map.1 h
  exact ⟨rfl, rfl⟩
set_option maxHeartbeats 4000000 in
set_option maxRecDepth 100000 in
theorem fill_calls {W w : World} {L : List (Nat × TypeId × Array Value)} {ps : Nat} {X : List Fl} (i : Nat) (f : Fl) (id now : Int) (h : Sch W L w ps X) (hX : X.length ≤ 900) (hi : i < X.length) (hf : X[i] = f) (hid : f.id = id) (hq0 : f.q = []) :
    Calls Try.prog 14 #[.pointer (some ⟨ps, 0, none⟩), .int .i64 id, .int .i64 now] w fun e w' =>
      e = .returned (.bool true) ∧ Sch W L w' ps (X.set i ⟨f.id, f.ver, f.p, wake f.c (at_ now) (leastP X), its 3⟩) := by
  have H := hide h

  have HQ := hide hq0

  have HX := hide hX
  clear h hq0 hX
  go_enter Try.func14, Try.ntmps14
  go_wp2
  go_loopw [7] (fun kv wr => ∃ k : Nat, k ≤ 3 ∧ kv = .int .i64 k ∧ ((k = 0 ∧ Sch W L wr ps X) ∨ (0 < k ∧ Sch W L wr ps (X.set i ⟨f.id, f.ver, f.p, wake f.c (at_ now) (leastP X), its k⟩)))) (fun kv _ => 3 - (intOf kv).toNat)
  case atStart => exact ⟨0, by omega, rfl, Or.inl ⟨rfl, H.out⟩⟩
  case round =>
    obtain ⟨k, hk, rfl, hs⟩ := hrel
    by_cases hlt : k < 3
    · have i1 : (k : Int) < 3 := by omega
      rcases hs with ⟨hk0, hs⟩ | ⟨hk0, hs⟩
      · have HC := hide (push_first_s i f id now ⟨(k : Int), 0, 0⟩ hs HX.out hi hf hid HQ.out)
        have HK := hide hk0
        clear hs hk0
        go_wp2_with fail
        refine HC.out.mono ?_
        rintro e w1 ⟨rfl, h1⟩
        have h1' : Sch W L w1 ps (X.set i ⟨f.id, f.ver, f.p, wake f.c (at_ now) (leastP X), its (k + 1)⟩) := by
          rw [HQ.out] at h1
          rw [HK.out] at h1 ⊢
          exact h1
        have H1 := hide h1'
        clear h1 h1' HC
        go_wp2
        go_roundw
        case rel => exact ⟨k + 1, by omega, by go_num, Or.inr ⟨by omega, H1.out⟩⟩
        case measure => simp [intOf]; omega
      · have HC := hide (push_more_s i ⟨f.id, f.ver, f.p, wake f.c (at_ now) (leastP X), its k⟩ id now ⟨(k : Int), 0, 0⟩ hs (by rw [List.length_set]; exact HX.out) (by rw [List.length_set]; exact hi) (by simp) hid (by intro e; have := congrArg List.length e; rw [its_length] at this; simp at this; omega) (by rw [its_length]; omega))
        clear hs hk0
        go_wp2_with fail
        refine HC.out.mono ?_
        rintro e w1 ⟨rfl, h1⟩
        rw [List.set_set] at h1
        have h1' : Sch W L w1 ps (X.set i ⟨f.id, f.ver, f.p, wake f.c (at_ now) (leastP X), its (k + 1)⟩) := by
          rw [its_succ]; exact h1
        have H1 := hide h1'
        clear h1 h1' HC
        go_wp2
        go_roundw
        case rel => exact ⟨k + 1, by omega, by go_num, Or.inr ⟨by omega, H1.out⟩⟩
        case measure => simp [intOf]; omega
    · have e : k = 3 := by omega
      subst e
      have h3 : Sch W L wr ps (X.set i ⟨f.id, f.ver, f.p, wake f.c (at_ now) (leastP X), its 3⟩) := by
        rcases hs with ⟨h0, _⟩ | ⟨_, h⟩
        · omega
        · exact h
      have H3 := hide h3
      clear hs h3
      go_wp2
      go_ret
      exact ⟨rfl, H3.out⟩
end Go.Proofs.Ytjdkafamaoeifaa
