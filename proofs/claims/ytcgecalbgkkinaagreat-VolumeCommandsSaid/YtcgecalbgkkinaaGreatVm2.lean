/- The walks through slices.Index, Contains, IndexFunc, ContainsFunc, Clone at []int; volume.within, volume.has. -/
import Derived.Test.YtcgecalbgkkinaaGreatVm
import Derived.Deep.QuietTactic
import Derived.BigQuiet
namespace Go.Proofs.YtcgecalbgkkinaaGreat
open Go.RowKit Go.Proofs Go.Maps
set_option linter.unusedVariables false
set_option linter.unusedSimpArgs false

set_option maxHeartbeats 400000 in
theorem vwithin_calls (a b c : Int) (w : World) :
    Calls Tryz.prog 84 #[.int .i64 a, .int .i64 b, .int .i64 c] w fun e w' => e = .returned (.bool (within a b c)) ∧ w = w' := by
  go_enter Tryz.func84, Tryz.ntmps84
  go_wp2
  all_goals (go_ret; exact ⟨ret_bool (by unfold within; grind), rfl⟩)
set_option maxHeartbeats 1000000 in
theorem index_calls (A : Option Addr) (n c : Nat) (l : List Int) (s : Int) (w : World) (hn : l.length = n) (hnn : n ≤ 1099511627776) (h : Reads w w.heap.size 1 A n (l.map (Value.int .i64))) :
    Calls Tryz.prog 105 #[.slice A n c, .int .i64 s] w fun e w' => (∃ z : Int, e = .returned (.int .i64 z) ∧ decide (0 ≤ z) = l.contains s) ∧ ∃ q, w' = w.drewN q := by
  go_enter Tryz.func105, Tryz.ntmps105
  go_wp2
  go_loopw [5, 8] (fun _ i wr => ∃ k q : Nat, k ≤ n ∧ i = .int .i64 k ∧ wr = w.drewN q ∧ ∀ j (hj : j < l.length), j < k → l[j] ≠ s) (fun _ i _ => n - (intOf i).toNat)
  case atStart => exact ⟨0, 0, Nat.zero_le _, rfl, rfl, fun j _ hj => by omega⟩
  case round =>
    obtain ⟨k, q, hk, rfl, rfl, hno⟩ := hrel
    have HNO := hide hno
    clear hno
    by_cases hlt : k < n
    · obtain ⟨b, o, rfl, _, hc⟩ := h.at_ (by omega)
      have hkx : k < l.length := by omega
      have g := hc k (.int .i64 l[k]) (by simp [hkx])
      have i1 : (k : Int) < n := by omega
      obtain ⟨x, hx⟩ : ∃ x, l[k] = x := ⟨_, rfl⟩
      rw [hx] at g
      have HX := hide hx
      have HN := hide hn
      have HH := hide h
      clear hc hx h hn
      by_cases hs : s = x
      · have hs' : (s == x) = true := by simp [hs]
        have HS := hide hs
        clear hs
        go_wp2
        go_ret
        refine ⟨⟨k, rfl, ?_⟩, q, rfl⟩
        have hm : s ∈ l := by rw [HS.out, ← HX.out]; exact List.getElem_mem _
        simp [hm]
      · have hs' : (s == x) = false := by simp [hs]
        have HS := hide hs
        clear hs
        go_wp2
        go_roundw
        case rel =>
          refine ⟨k + 1, q, by omega, by go_num, rfl, fun j hj hjk => ?_⟩
          rcases Nat.lt_or_ge j k with h1 | h1
          · exact HNO.out j hj h1
          · obtain rfl : j = k := by omega
            rw [HX.out]
            exact fun e => HS.out e.symm
        case measure => simp [intOf]; omega
    · have e : k = n := by omega
      subst e
      have HN := hide hn
      clear hn h
      go_wp2
      go_ret
      refine ⟨⟨-1, rfl, ?_⟩, q, rfl⟩
      have hm : s ∉ l := fun hs => by
        obtain ⟨j, hj, e⟩ := List.getElem_of_mem hs
        exact HNO.out j hj (by rw [← HN.out]; exact hj) e
      simp [hm]
set_option maxHeartbeats 1000000 in
theorem contains_calls (A : Option Addr) (n c : Nat) (l : List Int) (s : Int) (w : World) (hn : l.length = n) (hnn : n ≤ 1099511627776) (h : Reads w w.heap.size 1 A n (l.map (Value.int .i64))) :
    Calls Tryz.prog 89 #[.slice A n c, .int .i64 s] w fun e w' => e = .returned (.bool (l.contains s)) ∧ ∃ q, w' = w.drewN q := by
  have H := hide (index_calls A n c l s w hn hnn h)
  clear hn h
  go_enter Tryz.func89, Tryz.ntmps89
  go_wp2_with fail
  refine H.out.mono ?_
  rintro e w' ⟨⟨z, rfl, hz⟩, q, rfl⟩
  have HZ := hide hz
  clear hz
  go_wp2
  go_ret
  exact ⟨ret_bool (by rw [← HZ.out]), q, rfl⟩
set_option maxHeartbeats 1000000 in
/-- slices.IndexFunc at whatever closure that leaves what lay -/
theorem indexF_calls (A : Option Addr) (n c : Nat) (l : List Int) (g : Nat) (lb : Array Value) (p : Int → Bool) (w : World) (eg : ∀ args w, (callFunc g args).run Tryz.prog w = .ok (.enter g args) w) (hn : l.length = n) (hnn : n ≤ 1099511627776)
    (h : Reads w w.heap.size 1 A n (l.map (Value.int .i64))) (hp : ∀ x ∈ l, ∀ W, Below w.heap.size w W → Calls Tryz.prog g (#[.int .i64 x] ++ lb) W fun e w' => e = .returned (.bool (p x)) ∧ Below w.heap.size w w') :
    Calls Tryz.prog 98 #[.slice A n c, .func (.func g) #[] lb] w fun e w' => (∃ z : Int, e = .returned (.int .i64 z) ∧ decide (0 ≤ z) = l.any p ∧ (z = -1 ∨ 0 ≤ z)) ∧ Below w.heap.size w w' := by
  have HP := hide hp
  clear hp
  go_enter Tryz.func98, Tryz.ntmps98
  go_wp2
  go_loopw [5, 8] (fun _ i wr => ∃ k : Nat, k ≤ n ∧ i = .int .i64 k ∧ Below w.heap.size w wr ∧ ∀ j (hj : j < l.length), j < k → p l[j] = false) (fun _ i _ => n - (intOf i).toNat)
  case atStart => exact ⟨0, Nat.zero_le _, rfl, Below.refl _ _, fun j _ hj => by omega⟩
  case round =>
    obtain ⟨k, hk, rfl, hb, hno⟩ := hrel
    have HNO := hide hno
    clear hno
    by_cases hlt : k < n
    · obtain ⟨b, o, rfl, hB, hc⟩ := h.at_ (by omega)
      have hkx : k < l.length := by omega
      have g0 : wr.cell? ⟨b, o + k, none⟩ = some (.int .i64 l[k]) := (hb.cell (p := ⟨b, o + k, none⟩) hB).trans (hc k (.int .i64 l[k]) (by simp [hkx]))
      have i1 : (k : Int) < n := by omega
      have HC := HP.out l[k] (List.getElem_mem _) wr hb
      obtain ⟨x, hx⟩ : ∃ x, l[k] = x := ⟨_, rfl⟩
      rw [hx] at g0 HC
      have HX := hide hx
      have HN := hide hn
      have HH := hide h
      have HCC := hide HC
      clear hc hx h hn HC
      go_wp2_with fail
      go_at_fn g
      refine HCC.out.mono ?_
      rintro e w1 ⟨rfl, hb1⟩
      cases hq : p x with
      | true =>
        have HQ := hide hq
        clear hq
        go_wp2
        go_ret
        refine ⟨⟨k, rfl, ?_, Or.inr (by omega)⟩, hb1⟩
        have hm : l.any p = true := List.any_eq_true.2 ⟨x, by rw [← HX.out]; exact List.getElem_mem _, HQ.out⟩
        simp [hm]
      | false =>
        have HQ := hide hq
        clear hq
        go_wp2
        go_roundw
        case rel =>
          refine ⟨k + 1, by omega, by go_num, hb1, fun j hj hjk => ?_⟩
          rcases Nat.lt_or_ge j k with h1 | h1
          · exact HNO.out j hj h1
          · obtain rfl : j = k := by omega
            rw [HX.out]
            exact HQ.out
        case measure => simp [intOf]; omega
    · have e : k = n := by omega
      subst e
      have HN := hide hn
      clear hn h
      go_wp2
      go_ret
      refine ⟨⟨-1, rfl, ?_, Or.inl rfl⟩, hb⟩
      have hm : l.any p = false := by
        rw [List.any_eq_false]
        intro x hx
        obtain ⟨j, hj, e⟩ := List.getElem_of_mem hx
        rw [← e, HNO.out j hj (by rw [← HN.out]; exact hj)]
        simp
      simp [hm]
set_option maxHeartbeats 1000000 in
theorem containsF_calls (A : Option Addr) (n c : Nat) (l : List Int) (g : Nat) (lb : Array Value) (p : Int → Bool) (w : World) (eg : ∀ args w, (callFunc g args).run Tryz.prog w = .ok (.enter g args) w) (hn : l.length = n) (hnn : n ≤ 1099511627776)
    (h : Reads w w.heap.size 1 A n (l.map (Value.int .i64))) (hp : ∀ x ∈ l, ∀ W, Below w.heap.size w W → Calls Tryz.prog g (#[.int .i64 x] ++ lb) W fun e w' => e = .returned (.bool (p x)) ∧ Below w.heap.size w w') :
    Calls Tryz.prog 71 #[.slice A n c, .func (.func g) #[] lb] w fun e w' => e = .returned (.bool (l.any p)) ∧ Below w.heap.size w w' := by
  have H := hide (indexF_calls A n c l g lb p w eg hn hnn h hp)
  clear hn h hp
  go_enter Tryz.func71, Tryz.ntmps71
  go_wp2_with fail
  refine H.out.mono ?_
  rintro e w' ⟨⟨z, rfl, hz, _⟩, hb⟩
  have HZ := hide hz
  clear hz
  go_wp2
  go_ret
  exact ⟨ret_bool (by rw [← HZ.out]), hb⟩
set_option maxHeartbeats 1000000 in
theorem vhas_calls (x : CkM) (s : Int) (no : List Nat) (w : World) (h1 : Sl w no x.A x.c x.k.me) (h2 : Sl w no x.B x.d x.k.jo) :
    Calls Tryz.prog 73 #[x.val, .int .i64 s] w fun e w' => e = .returned (.bool (x.k.has s)) ∧ Below w.heap.size w w' := by
  obtain ⟨⟨id, vol, ep, me, jo⟩, A, c, B, d⟩ := x
  have hb0 := (Below.refl w.heap.size w).alloc (Nat.le_refl _) (.cells #[.int .i64 id, .int .i64 vol, .int .i64 ep, .slice A me.length c, .slice B jo.length d] 47)
  obtain ⟨w0, hw0⟩ : ∃ w0, w.alloc (.cells #[.int .i64 id, .int .i64 vol, .int .i64 ep, .slice A me.length c, .slice B jo.length d] 47) = w0 := ⟨_, rfl⟩
  have hc3 : w0.cell? ⟨w.heap.size, 3, none⟩ = some (.slice A me.length c) := by rw [← hw0]; exact (Blk.new (cs := [.int .i64 id, .int .i64 vol, .int .i64 ep, .slice A me.length c, .slice B jo.length d]) rfl).cell 3
  have hc4 : ∀ q, (w0.drewN q).cell? ⟨w.heap.size, 4, none⟩ = some (.slice B jo.length d) := fun q => by rw [← hw0]; exact (Blk.new (cs := [.int .i64 id, .int .i64 vol, .int .i64 ep, .slice A me.length c, .slice B jo.length d]) rfl).cell 4
  have H1 := hide (contains_calls A me.length c me s w0 rfl (by have := h1.ln; simp at this; omega) (hw0 ▸ (h1.below hb0).rd))
  have H2 := hide (fun q => contains_calls B jo.length d jo s (w0.drewN q) rfl (by have := h2.ln; simp at this; omega) (hw0 ▸ (h2.below hb0).rd))
  rw [hw0] at hb0
  unfold CkM.val CkM.cells
  clear h1 h2
  go_enter Tryz.func73, Tryz.ntmps73
  go_wp2_with fail
  have HW := hide hw0
  clear hw0
  refine H1.out.mono ?_
  rintro e w1 ⟨rfl, q, rfl⟩
  cases hm : me.contains s with
  | true =>
    have HM := hide hm
    clear hm
    go_wp2
    go_ret
    exact ⟨ret_bool (by unfold Ck.has; rw [HM.out]; rfl), below_drewN hb0 _⟩
  | false =>
    have HM := hide hm
    clear hm
    go_wp2_with fail
    refine (H2.out q).mono ?_
    rintro e w1 ⟨rfl, q2, rfl⟩
    go_wp2
    go_ret
    exact ⟨ret_bool (by unfold Ck.has; rw [HM.out]; simp), below_drewN hb0 _⟩
end Go.Proofs.YtcgecalbgkkinaaGreat
