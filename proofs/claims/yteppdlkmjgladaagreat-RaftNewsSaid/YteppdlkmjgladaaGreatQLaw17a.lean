/- One text of: Law17a. -/
import Derived.Test.YteppdlkmjgladaaGreatQND
import Derived.Test.YteppdlkmjgladaaGreatQOpen
namespace Go.Proofs.YteppdlkmjgladaaGreat
open Go.ChangeShapes Go.WideShapes Go.ChangeAt Go.RowKit Go.Proofs Go.Maps
set_option linter.unusedVariables false
set_option linter.unusedSimpArgs false

/-- where a given slice lies -/
theorem okWide_at {P : Program} {w : World} {r : Reach} {base : Nat} {t e : TypeId} {A : Option Addr} {n c : Nat} (ht : P.underlying t = some (.slice e)) (h : Value.okWide P w r base t (.slice A n c)) : ∀ a, A = some a → a.spot = none ∧ a.block < w.heap.size := by
  intro a ha
  subst ha
  simp only [Value.okWide, ht, Cell.okWide, Cell.ok] at h
  obtain ⟨_, _, _, h1, row, cells, h2, _⟩ := h
  refine ⟨h1, ?_⟩
  unfold World.shape? at h2
  by_cases hl : a.block < w.heap.size
  · exact hl
  · rw [Array.getElem?_eq_none (Nat.not_lt.1 hl)] at h2
    cases h2
theorem sl_given {P : Program} {w : World} {r : Reach} {base : Nat} {t e : TypeId} {A : Option Addr} {c : Nat} {l : List Int} (ht : P.underlying t = some (.slice e)) (h : Value.okWide P w r base t (.slice A l.length c)) (h1 : l.length ≤ c) (h2 : l.length ≤ 1024) (hr : Reads w w.heap.size 1 A l.length (l.map (Value.int .i64))) : Sl w [] A c l :=
  ⟨h1, h2, hr, fun a ha => ⟨(okWide_at ht h a ha).1, by simp, (okWide_at ht h a ha).2⟩⟩
theorem Nd.new_is (id : Int) (V : Vlt) (l : List Int) : (Nd.new id V l).bt = 0 ∧ (Nd.new id V l).role = 0 ∧ (Nd.new id V l).leader = -1 ∧ (Nd.new id V l).commit = 0 ∧ (Nd.new id V l).told = 0 ∧ (Nd.new id V l).L = [] ∧ (Nd.new id V l).sm = l := by
  unfold Nd.new Nd.put
  split
  · exact ⟨rfl, rfl, rfl, rfl, rfl, rfl, rfl⟩
  · exact ⟨rfl, rfl, rfl, rfl, rfl, rfl, rfl⟩
set_option maxHeartbeats 1000000 in
theorem sameInts_yes (xs : List Int) (n : Nat) (A A' : Option Addr) (c c' : Nat) (w : World) (hn : xs.length = n) (h : Reads w w.heap.size 1 A n (xs.map (Value.int .i64))) (h' : Reads w w.heap.size 1 A' n (xs.map (Value.int .i64))) (hnn : n ≤ 1099511627776) :
    Calls Tryz.prog 15 #[.slice A n c, .slice A' n c'] w fun e w' => e = .returned (.bool true) ∧ ∃ n, w' = w.drewN n := by
  go_enter Tryz.func15, Tryz.ntmps15
  go_wp2
  go_loopw [5] (fun i wr => ∃ k q : Nat, k ≤ n ∧ i = .int .i64 k ∧ wr = w.drewN q) (fun i _ => n - (Go.RowKit.intOf i).toNat)
  case atStart => exact ⟨0, 0, Nat.zero_le _, rfl, rfl⟩
  case round =>
    obtain ⟨k, q, hk, rfl, rfl⟩ := hrel
    by_cases hlt : k < n
    · obtain ⟨b, o, rfl, _, hc⟩ := h.at_ (by omega)
      obtain ⟨b', o', rfl, _, hc'⟩ := h'.at_ (by omega)
      have hkx : k < xs.length := by omega
      have g := hc k (.int .i64 xs[k]) (by simp [hkx])
      have g' := hc' k (.int .i64 xs[k]) (by simp [hkx])
      have i1 : (k : Int) < n := by omega
      obtain ⟨x, hx⟩ : ∃ x, xs[k] = x := ⟨_, rfl⟩
      rw [hx] at g g'
      have HN := hide hn
      clear hc hc' hx h h' hn
      go_wp2
      go_quiet (fail)
      go_wp2
      go_roundw
      case rel => exact ⟨k + 1, _, by omega, by go_num, rfl⟩
      case measure => simp [Go.RowKit.intOf]; omega
    · have e : k = n := by omega
      subst e
      go_wp2
      go_ret
      exact ⟨rfl, q, rfl⟩
set_option maxHeartbeats 4000000 in
set_option maxRecDepth 100000 in
/-- THE WALK of RaftNews: whatever comes in, it answers true, and nothing that was there turns. -/
theorem raftNews_walk {H : Type} {enc : TypeId × Value → H} (W : World) (base : Nat) (v0 v1 : Value) (d0 d1 : DataW H) (p0 p1 : List MemPlace)
    (ok0 : Value.okWide Tryz.prog W .any base 3 v0) (h0 : DataW.Trod enc Tryz.prog W 0 (fun _ => true) true 3 v0 d0 p0)
    (ok1 : Value.okWide Tryz.prog W .any base 22 v1) (h1 : DataW.Trod enc Tryz.prog W 0 (fun _ => true) true 22 v1 d1 p1) :
    Calls Tryz.prog 3 #[v0, v1] W fun e w' => e = .returned (.bool true) ∧ Below W.heap.size W w' := by
  obtain ⟨id, rfl, rfl, rfl, wid⟩ := open_int Tryz.underlying3 ok0 h0
  obtain ⟨A, c, l, rfl, hlc, hcm, hwf, hr⟩ := open_intsR Tryz.underlying22 Tryz.underlying3 (by kernel_rfl) ok1 h1
  have hr0 : Below W.heap.size W W := Below.refl _ _
  by_cases hlen : l.length ≤ 20
  · have hsl : Sl W [] A c l := sl_given Tryz.underlying22 ok1 hlc (by omega) hr
    have l20 : (l.length : Int) ≤ 20 := by omega
    have HSL := hide hsl
    clear ok0 h0 ok1 h1 hlc hcm hwf hr hsl wid
    have HDN := dnew_calls 64 (by omega) (by omega) W
    rw [show ((64 : Nat) : Int) = 64 from rfl] at HDN
    have HDN := hide HDN
    go_enter Tryz.func3, Tryz.ntmps3
    go_wp2_with fail
    with_reducible refine HDN.out.mono ?_
    rintro e w1 ⟨d, F, rfl, hd1, hF1, hb1⟩
    have HO := vopen_calls hd1 (by simp [Dev.new])
    rw [vopen_new (by omega)] at HO
    have HO := hide HO
    have H1 := hide (And.intro hd1 (And.intro hF1 hb1))
    clear hd1 hF1 hb1 HDN
    go_wp2_with fail
    with_reducible refine HO.out.mono ?_
    rintro e w2 ⟨pv, rfl, _, hvo⟩
    obtain ⟨v, F2, rfl, hv2, hvm, hc2, hF2⟩ := hvo rfl
    have hb2 : Below W.heap.size W w2 := Chg.onto H1.out.2.2 H1.out.2.2.size hc2 H1.out.2.1
    have hf2 : ∀ x ∈ F2, W.heap.size ≤ x := fun x hx => (hF2 x hx).elim (H1.out.2.1 x) (fun h => Nat.le_trans H1.out.2.2.size h)
    have HVM := hide hvm
    have H2 := hide (And.intro hb2 hf2)
    clear hv2 hvm hc2 hF2 hb2 hf2 HO hvo
    by_cases hok : 0 ≤ id ∧ id ≤ 15 ∧ (l.length = 0 ∨ RightP l)
    · have HNW := nnew_calls HVM.out ((Vlt.first_well (n := 64) (by omega) (by omega)).ok) (by omega) rfl (HSL.out.below H2.out.1) id ⟨hok.1, hok.2.1⟩ hok.2.2
      have HNW := hide HNW
      have a1 : 0 ≤ id := hok.1
      have a2 : id ≤ 15 := hok.2.1
      have HOK := hide hok.2.2
      clear hok
      go_wp2_with fail
      by_cases hl0 : l.length = 0
      · have z0 : ((l.length : Int) == 0) = true := by rw [beq_iff_eq]; omega
        clear hl0
        with_reducible refine HNW.out.mono ?_
        rintro e w4 ⟨nb, p, Fl, Fv, rfl, hn3, _, hc3, hf3⟩
        have hb3 : Below W.heap.size W w4 := Chg.onto H2.out.1 H2.out.1.size hc3 H2.out.2
        have hf3' : ∀ x ∈ ft nb p Fl Fv, W.heap.size ≤ x := fun x hx => (hf3 x hx).elim (H2.out.2 x) (fun h => Nat.le_trans H2.out.1.size h)
        obtain ⟨N, hN⟩ : ∃ N, Nd.new id (Vlt.first 64) l = N := ⟨_, rfl⟩
        have hNi := Nd.new_is id (Vlt.first 64) l
        rw [hN] at hn3 hNi
        have H4 := hide (And.intro hn3 (And.intro hb3 (And.intro hf3' hNi)))
        clear hn3 hc3 hf3 hf3' hb3 hN hNi HNW
        go_wp2_with fail
        with_reducible refine (nnew_nil _ _ _ _ _).mono ?_
        rintro e w5 ⟨rfl, rfl⟩
        have HS := nstatus_calls H4.out.1 (by rw [H4.out.2.2.2.2.2.2.2.2.1]; intro x hx; cases hx) (by rw [H4.out.2.2.2.2.2.2.2.2.1]; simp)
        obtain ⟨k1, k2, k3, k4, k5, k6, k7⟩ := H4.out.2.2.2
        rw [k1, k2, k3, k4, k6, k7] at HS
        have HS := hide HS
        clear k1 k2 k3 k4 k5 k6 k7
        go_wp2_with fail
        with_reducible refine HS.out.mono ?_
        rintro e w5 ⟨Am, cm, rfl, hm5, hb5⟩
        obtain ⟨w6, hw6⟩ : ∃ w6, w5.alloc (.cells #[.int .i64 0, .int .i64 0, .int .i64 (-1), .int .i64 0, .int .i64 0, .slice Am l.length cm] 35) = w6 := ⟨_, rfl⟩
        obtain ⟨xb, hxb⟩ : ∃ xb, w5.heap.size = xb := ⟨_, rfl⟩
        have bX : Blk w6 xb 35 [.int .i64 0, .int .i64 0, .int .i64 (-1), .int .i64 0, .int .i64 0, .slice Am l.length cm] := by rw [← hw6, ← hxb]; exact Blk.new rfl
        have hb56 : Below w5.heap.size w5 w6 := hw6 ▸ belowL (Below.refl _ _) _
        have hb46 := belowA hb56 hb5
        have hb06 := belowA hb46 H4.out.2.1
        have hn6 := H4.out.1.below hb46
        have ho6 : OwnI w4 w6 Am cm l := hm5.below hb56
        have HPR := hide (nprop_no hn6 (Or.inr (by rw [H4.out.2.2.2.2.1]; omega)) none 0 0)
        have HRE := hide (nrest_no hn6)
        have s0 : w6.cell? ⟨xb, 0, none⟩ = some (.int .i64 0) := bX.cell 0
        have s1 : w6.cell? ⟨xb, 1, none⟩ = some (.int .i64 0) := bX.cell 1
        have s2 : w6.cell? ⟨xb, 2, none⟩ = some (.int .i64 (-1)) := bX.cell 2
        have s3 : w6.cell? ⟨xb, 3, none⟩ = some (.int .i64 0) := bX.cell 3
        have s4 : w6.cell? ⟨xb, 4, none⟩ = some (.int .i64 0) := bX.cell 4
        have s5 : w6.cell? ⟨xb, 5, none⟩ = some (.slice Am l.length cm) := bX.cell 5
        have HSI := hide (sameInts_yes l l.length Am A cm c w6 rfl (ho6.sl (by omega) (no := []) (by simp)).rd (HSL.out.below hb06).rd (by omega))
        have H6 := hide (And.intro hn6 hb06)
        have HW := hide (And.intro hw6 hxb)
        clear hm5 hb5 hw6 hxb bX hb56 hb46 hb06 hn6 ho6 HS
        go_wp2_with fail
        rw [HW.out.1, HW.out.2]
        with_reducible refine HPR.out.mono ?_
        rintro e w7 ⟨rfl, rfl⟩
        clear HPR
        go_wp2_with fail
        with_reducible refine HRE.out.mono ?_
        rintro e w7 ⟨rfl, rfl⟩
        clear HRE
        go_wp2_with fail
        with_reducible refine HSI.out.mono ?_
        rintro e w7 ⟨rfl, q, rfl⟩
        have r7 := below_drewN (Below.refl w6.heap.size w6) q
        have HCH := hide (nchange_no (H6.out.1.below r7) (Or.inr (by rw [H4.out.2.2.2.2.1]; omega)) true 3)
        have HAP := hide (napplied_calls (tn := 0) (cn := 0) (H6.out.1.below r7) (by rw [H4.out.2.2.2.2.2.2.2.2.1]; intro x hx; cases hx) (by rw [H4.out.2.2.2.2.2.2.2.2.1]; simp) (H4.out.2.2.2.2.2.2.2.1) H4.out.2.2.2.2.2.2.1 (by omega) (by omega))
        have HR7 := hide (belowA r7 H6.out.2)
        clear r7 HSI s0 s1 s2 s3 s4 s5
        go_wp2_with fail
        with_reducible refine HCH.out.mono ?_
        rintro e w8 ⟨rfl, rfl⟩
        clear HCH
        go_wp2_with fail
        with_reducible refine HAP.out.mono ?_
        rintro e w8 ⟨A9, c9, X, rfl, _, hX, _, _, hc8⟩
        have hb8 : Below W.heap.size W w8 := Chg.onto HR7.out HR7.out.size hc8 (fun z hz => by rw [List.mem_singleton.1 hz]; exact H4.out.2.2.1 nb (ft_mem.2 (Or.inl rfl)))
        obtain rfl : X = [] := List.length_eq_zero_iff.1 hX
        have HA8 := hide (awake_calls w8)
        have HB8 := hide hb8
        clear hX hc8 hb8 HAP
        go_wp2_with fail
        with_reducible refine HA8.out.mono ?_
        rintro e w9 ⟨rfl, hb9⟩
        have HB9 := hide (belowA hb9 HB8.out)
        clear hb9 HA8
        go_wp2_with fail
        go_ret
        exact ⟨rfl, HB9.out⟩
      · have z0 : ((l.length : Int) == 0) = false := by rw [beq_eq_false_iff_ne]; omega
        have hrp : RightP l := HOK.out.resolve_left hl0
        have HRR0 := hide (fun (w' : World) (hb : Below W.heap.size W w') => rright_calls (HSL.out.below hb))
        rw [decide_eq_true hrp] at HRR0
        clear hl0 hrp
        with_reducible refine HNW.out.mono ?_
        rintro e w3 ⟨nb, p, Fl, Fv, rfl, hn3, _, hc3, hf3⟩
        have hb3 : Below W.heap.size W w3 := Chg.onto H2.out.1 H2.out.1.size hc3 H2.out.2
        have hf3' : ∀ x ∈ ft nb p Fl Fv, W.heap.size ≤ x := fun x hx => (hf3 x hx).elim (H2.out.2 x) (fun h => Nat.le_trans H2.out.1.size h)
        obtain ⟨N, hN⟩ : ∃ N, Nd.new id (Vlt.first 64) l = N := ⟨_, rfl⟩
        have hNi := Nd.new_is id (Vlt.first 64) l
        rw [hN] at hn3 hNi
        have H3 := hide (And.intro hn3 (And.intro hb3 (And.intro hf3' hNi)))
        clear hn3 hc3 hf3 hf3' hb3 hN hNi HNW
        have HRR := hide (HRR0.out _ H3.out.2.1)
        clear HRR0
        go_wp2_with fail
        with_reducible refine HRR.out.mono ?_
        rintro e w4 ⟨rfl, hb4⟩
        have hh := H3.out
        have H4 := hide (And.intro (hh.1.below hb4) (And.intro (belowA hb4 hh.2.1) hh.2.2))
        clear hb4 hh H3 HRR
        go_wp2_with fail
        with_reducible refine (nnew_nil _ _ _ _ _).mono ?_
        rintro e w5 ⟨rfl, rfl⟩
        have HS := nstatus_calls H4.out.1 (by rw [H4.out.2.2.2.2.2.2.2.2.1]; intro x hx; cases hx) (by rw [H4.out.2.2.2.2.2.2.2.2.1]; simp)
        obtain ⟨k1, k2, k3, k4, k5, k6, k7⟩ := H4.out.2.2.2
        rw [k1, k2, k3, k4, k6, k7] at HS
        have HS := hide HS
        clear k1 k2 k3 k4 k5 k6 k7
        go_wp2_with fail
        with_reducible refine HS.out.mono ?_
        rintro e w5 ⟨Am, cm, rfl, hm5, hb5⟩
        obtain ⟨w6, hw6⟩ : ∃ w6, w5.alloc (.cells #[.int .i64 0, .int .i64 0, .int .i64 (-1), .int .i64 0, .int .i64 0, .slice Am l.length cm] 35) = w6 := ⟨_, rfl⟩
        obtain ⟨xb, hxb⟩ : ∃ xb, w5.heap.size = xb := ⟨_, rfl⟩
        have bX : Blk w6 xb 35 [.int .i64 0, .int .i64 0, .int .i64 (-1), .int .i64 0, .int .i64 0, .slice Am l.length cm] := by rw [← hw6, ← hxb]; exact Blk.new rfl
        have hb56 : Below w5.heap.size w5 w6 := hw6 ▸ belowL (Below.refl _ _) _
        have hb46 := belowA hb56 hb5
        have hb06 := belowA hb46 H4.out.2.1
        have hn6 := H4.out.1.below hb46
        have ho6 : OwnI w4 w6 Am cm l := hm5.below hb56
        have HPR := hide (nprop_no hn6 (Or.inr (by rw [H4.out.2.2.2.2.1]; omega)) none 0 0)
        have HRE := hide (nrest_no hn6)
        have s0 : w6.cell? ⟨xb, 0, none⟩ = some (.int .i64 0) := bX.cell 0
        have s1 : w6.cell? ⟨xb, 1, none⟩ = some (.int .i64 0) := bX.cell 1
        have s2 : w6.cell? ⟨xb, 2, none⟩ = some (.int .i64 (-1)) := bX.cell 2
        have s3 : w6.cell? ⟨xb, 3, none⟩ = some (.int .i64 0) := bX.cell 3
        have s4 : w6.cell? ⟨xb, 4, none⟩ = some (.int .i64 0) := bX.cell 4
        have s5 : w6.cell? ⟨xb, 5, none⟩ = some (.slice Am l.length cm) := bX.cell 5
        have HSI := hide (sameInts_yes l l.length Am A cm c w6 rfl (ho6.sl (by omega) (no := []) (by simp)).rd (HSL.out.below hb06).rd (by omega))
        have H6 := hide (And.intro hn6 hb06)
        have HW := hide (And.intro hw6 hxb)
        clear hm5 hb5 hw6 hxb bX hb56 hb46 hb06 hn6 ho6 HS
        go_wp2_with fail
        rw [HW.out.1, HW.out.2]
        with_reducible refine HPR.out.mono ?_
        rintro e w7 ⟨rfl, rfl⟩
        clear HPR
        go_wp2_with fail
        with_reducible refine HRE.out.mono ?_
        rintro e w7 ⟨rfl, rfl⟩
        clear HRE
        go_wp2_with fail
        with_reducible refine HSI.out.mono ?_
        rintro e w7 ⟨rfl, q, rfl⟩
        have r7 := below_drewN (Below.refl w6.heap.size w6) q
        have HCH := hide (nchange_no (H6.out.1.below r7) (Or.inr (by rw [H4.out.2.2.2.2.1]; omega)) true 3)
        have HAP := hide (napplied_calls (tn := 0) (cn := 0) (H6.out.1.below r7) (by rw [H4.out.2.2.2.2.2.2.2.2.1]; intro x hx; cases hx) (by rw [H4.out.2.2.2.2.2.2.2.2.1]; simp) (H4.out.2.2.2.2.2.2.2.1) H4.out.2.2.2.2.2.2.1 (by omega) (by omega))
        have HR7 := hide (belowA r7 H6.out.2)
        clear r7 HSI s0 s1 s2 s3 s4 s5
        go_wp2_with fail
        with_reducible refine HCH.out.mono ?_
        rintro e w8 ⟨rfl, rfl⟩
        clear HCH
        go_wp2_with fail
        with_reducible refine HAP.out.mono ?_
        rintro e w8 ⟨A9, c9, X, rfl, _, hX, _, _, hc8⟩
        have hb8 : Below W.heap.size W w8 := Chg.onto HR7.out HR7.out.size hc8 (fun z hz => by rw [List.mem_singleton.1 hz]; exact H4.out.2.2.1 nb (ft_mem.2 (Or.inl rfl)))
        obtain rfl : X = [] := List.length_eq_zero_iff.1 hX
        have HA8 := hide (awake_calls w8)
        have HB8 := hide hb8
        clear hX hc8 hb8 HAP
        go_wp2_with fail
        with_reducible refine HA8.out.mono ?_
        rintro e w9 ⟨rfl, hb9⟩
        have HB9 := hide (belowA hb9 HB8.out)
        clear hb9 HA8
        go_wp2_with fail
        go_ret
        exact ⟨rfl, HB9.out⟩
    · have HNB := hide (nnew_bad (v := v) (HSL.out.below H2.out.1) id hok)
      have hcase : id < 0 ∨ (0 ≤ id ∧ 15 < id) ∨ (0 ≤ id ∧ id ≤ 15 ∧ l.length ≠ 0 ∧ ¬ RightP l) := by
        by_cases e1 : id < 0
        · exact Or.inl e1
        · by_cases e2 : 15 < id
          · exact Or.inr (Or.inl ⟨by omega, e2⟩)
          · exact Or.inr (Or.inr ⟨by omega, by omega, fun h => hok ⟨by omega, by omega, Or.inl h⟩, fun h => hok ⟨by omega, by omega, Or.inr h⟩⟩)
      clear hok
      rcases hcase with a1 | ⟨a1, a2⟩ | ⟨a1, a2, a3, a4⟩
      · have b1 : ¬ 0 ≤ id := by omega
        clear a1
        go_wp2_with fail
        with_reducible refine HNB.out.mono ?_
        rintro e w4 ⟨rfl, rfl⟩
        have HB4 := hide H2.out.1
        clear HNB
        go_wp2_with fail
        with_reducible refine (nnew_nil _ _ _ _ _).mono ?_
        rintro e w5 ⟨rfl, rfl⟩
        have HA := hide (fun w => awake_calls w)
        go_wp2_with fail
        with_reducible refine (HA.out _).mono ?_
        rintro e w9 ⟨rfl, hb9⟩
        have HB9 := hide (belowA hb9 HB4.out)
        clear hb9 HA
        go_wp2_with fail
        go_ret
        exact ⟨rfl, HB9.out⟩
      · have b1 : ¬ id ≤ 15 := by omega
        clear a2
        go_wp2_with fail
        with_reducible refine HNB.out.mono ?_
        rintro e w4 ⟨rfl, rfl⟩
        have HB4 := hide H2.out.1
        clear HNB
        go_wp2_with fail
        with_reducible refine (nnew_nil _ _ _ _ _).mono ?_
        rintro e w5 ⟨rfl, rfl⟩
        have HA := hide (fun w => awake_calls w)
        go_wp2_with fail
        with_reducible refine (HA.out _).mono ?_
        rintro e w9 ⟨rfl, hb9⟩
        have HB9 := hide (belowA hb9 HB4.out)
        clear hb9 HA
        go_wp2_with fail
        go_ret
        exact ⟨rfl, HB9.out⟩
      · have z0 : ((l.length : Int) == 0) = false := by rw [beq_eq_false_iff_ne]; omega
        have HRR := rright_calls (HSL.out.below H2.out.1)
        rw [decide_eq_false a4] at HRR
        have HRR := hide HRR
        clear a3 a4
        go_wp2_with fail
        with_reducible refine HNB.out.mono ?_
        rintro e w3 ⟨rfl, rfl⟩
        clear HNB
        go_wp2_with fail
        with_reducible refine HRR.out.mono ?_
        rintro e w4 ⟨rfl, hb4⟩
        have HB4 := hide (belowA hb4 H2.out.1)
        clear hb4 HRR
        go_wp2_with fail
        with_reducible refine (nnew_nil _ _ _ _ _).mono ?_
        rintro e w5 ⟨rfl, rfl⟩
        have HA := hide (fun w => awake_calls w)
        go_wp2_with fail
        with_reducible refine (HA.out _).mono ?_
        rintro e w9 ⟨rfl, hb9⟩
        have HB9 := hide (belowA hb9 HB4.out)
        clear hb9 HA
        go_wp2_with fail
        go_ret
        exact ⟨rfl, HB9.out⟩
  · have l20 : ¬ (l.length : Int) ≤ 20 := by omega
    clear ok0 h0 ok1 h1 hlc hcm hwf hr wid
    have HA := hide (awake_calls W)
    go_enter Tryz.func3, Tryz.ntmps3
    go_wp2_with fail
    with_reducible refine HA.out.mono ?_
    rintro e w1 ⟨rfl, hb1⟩
    go_wp2
    go_ret
    exact ⟨rfl, hb1⟩
end Go.Proofs.YteppdlkmjgladaaGreat
