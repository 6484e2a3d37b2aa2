/- The law SchedVersions of layer 12: for every input it answers true. No conditions. -/
import Derived.Test.YtjdkafamaoeifaaSch8
import Derived.Test.YtjdkafamaoeifaaOpenP
namespace Go.Proofs.Ytjdkafamaoeifaa
open Go.ChangeShapes Go.WideShapes Go.ChangeAt Go.RowKit Go.Proofs Go.Joins Go.Maps
set_option linter.unusedVariables false
set_option linter.unusedSimpArgs false

/-- the flow 4, or none -/
def V4 (X : List Fl) (last : Int) : Prop := (X = [] ∧ last = -1) ∨ ∃ f, X = [f] ∧ f.id = 4 ∧ last = f.ver ∧ 0 ≤ f.ver
theorem get_any {W w : World} {L : List (Nat × TypeId × Array Value)} {ps : Nat} {X : List Fl} {last : Int} (h : Sch W L w ps X) (hv : V4 X last) :
    Calls Try.prog 20 #[.pointer (some ⟨ps, 0, none⟩), .int .i64 4] w fun e w' =>
      ∃ (v0 : Int) (p0 : Pol) (c0 : Clk) (ok0 : Bool), e = .returned (.tuple #[.int .i64 v0, .agg #[.int .i64 p0.r, .int .i64 p0.w, .int .i64 p0.l, .int .i64 p0.b], .agg #[.int .i64 c0.r, .int .i64 c0.p, .int .i64 c0.l], .bool ok0]) ∧
        ((X = [] ∧ ok0 = false) ∨ (∃ f, X = [f] ∧ v0 = f.ver ∧ p0 = f.p ∧ ok0 = true)) ∧ Sch W L w' ps X := by
  rcases hv with ⟨rfl, _⟩ | ⟨f, rfl, hid, _⟩
  · refine (get_none_s 4 h (by unfold i64ok; omega) (by simp)).mono ?_
    rintro e w' ⟨rfl, h'⟩
    exact ⟨0, ⟨0, 0, 0, 0⟩, ⟨0, 0, 0⟩, false, rfl, Or.inl ⟨rfl, rfl⟩, h'⟩
  · refine (get_yes_s 0 f 4 h (by simp) rfl hid).mono ?_
    rintro e w' ⟨rfl, h'⟩
    exact ⟨f.ver, f.p, f.c, true, rfl, Or.inr ⟨f, rfl, rfl, rfl, rfl⟩, h'⟩
/-- what 'Set' does with flow 4 -/
theorem set_any {W w : World} {L : List (Nat × TypeId × Array Value)} {ps : Nat} {X : List Fl} {last v : Int} (p : Pol) (h : Sch W L w ps X) (hv : V4 X last) (hp : right p.r p.w p.l p.b = true) :
    Calls Try.prog 13 #[.pointer (some ⟨ps, 0, none⟩), .int .i64 4, .int .i64 v, .agg #[.int .i64 p.r, .int .i64 p.w, .int .i64 p.l, .int .i64 p.b]] w fun e w' =>
      ∃ r : Int, e = .returned (.int .i64 r) ∧ ((r = 1 ∧ v < 0 ∧ Sch W L w' ps X) ∨
      (r = 13 ∧ 0 ≤ v ∧ v < last ∧ (∃ f, X = [f]) ∧ Sch W L w' ps X) ∨
      (r = 0 ∧ 0 ≤ v ∧ last ≤ v ∧ ∃ f', f'.id = 4 ∧ f'.ver = v ∧ f'.p = p ∧ Sch W L w' ps [f'])) := by
  by_cases h0 : v < 0
  · exact (set_bad_s 4 v p h (Or.inr (Or.inl h0))).mono fun e w' ⟨he, h'⟩ => ⟨_, he, Or.inl ⟨rfl, h0, h'⟩⟩
  rcases hv with ⟨rfl, rfl⟩ | ⟨f, rfl, hid, rfl, hf0⟩
  · exact (set_new_s 4 v p h (by simp) (by simp) (by decide) (by decide) (by omega) hp).mono fun e w' ⟨he, h'⟩ => ⟨_, he, Or.inr (Or.inr ⟨rfl, by omega, by omega, ⟨4, v, p, ⟨0, 0, 0⟩, []⟩, rfl, rfl, rfl, h'⟩)⟩
  · by_cases h1 : v < f.ver
    · exact (set_old_s 0 f 4 v p h (by simp) rfl hid (by omega) h1 hp).mono fun e w' ⟨he, h'⟩ => ⟨_, he, Or.inr (Or.inl ⟨rfl, by omega, h1, ⟨f, rfl⟩, h'⟩)⟩
    · exact (set_up_s 0 f 4 v p h (by simp) rfl hid (by omega) (by omega) hp).mono fun e w' ⟨he, h'⟩ => ⟨_, he, Or.inr (Or.inr ⟨rfl, by omega, by omega, ⟨f.id, v, p, f.c, f.q⟩, hid, rfl, rfl, h'⟩)⟩
set_option maxHeartbeats 8000000 in
set_option maxRecDepth 100000 in
/-- THE WALK of SchedVersions: whatever comes in, it answers true, and nothing that was there turns. -/
theorem schedVersions_walk {H : Type} {enc : TypeId × Value → H} (W : World) (base : Nat) (v0 v1 v2 : Value) (d0 d1 d2 : DataW H) (p0 p1 p2 : List MemPlace)
    (ok0 : Value.okWide Try.prog W .any base 33 v0) (h0 : DataW.Trod enc Try.prog W 0 (fun _ => true) true 33 v0 d0 p0)
    (ok1 : Value.okWide Try.prog W .any base 29 v1) (h1 : DataW.Trod enc Try.prog W 0 (fun _ => true) true 29 v1 d1 p1)
    (ok2 : Value.okWide Try.prog W .any base 29 v2) (h2 : DataW.Trod enc Try.prog W 0 (fun _ => true) true 29 v2 d2 p2) :
    Calls Try.prog 7 #[v0, v1, v2] W fun e w' => e = .returned (.bool true) ∧ Below W.heap.size W w' := by
  obtain ⟨A0, c0, l, rfl, l0, m0, fw, R0⟩ := open_intsR Try.underlying33 Try.underlying3 (by kernel_rfl) ok0 h0
  obtain ⟨p, rfl, -, -, -, -⟩ := open_pol ok1 h1
  obtain ⟨q, rfl, -, -, -, -⟩ := open_pol ok2 h2
  clear ok0 h0 ok1 h1 ok2 h2
  unfold maxLen at m0
  have I0 := ((Inv.refl W).new (b := W.heap.size) (t := 29) (cs := #[.int .i64 p.r, .int .i64 p.w, .int .i64 p.l, .int .i64 p.b]) rfl).new (b := W.heap.size + 1) (t := 29) (cs := #[.int .i64 q.r, .int .i64 q.w, .int .i64 q.l, .int .i64 q.b]) (by simp)
  have HI0 := hide I0
  have HR0 := hide R0
  have HFW := hide fw
  clear I0 R0 fw
  by_cases n0 : l.length ≤ 60
  · have hn : ¬ (60 < (l.length : Int)) := by omega
    go_enter Try.func7, Try.ntmps7
    go_wp2_with fail
    with_reducible refine (rRight_calls _ _ _ _ _).mono ?_
    rintro e w1 ⟨rfl, hb1⟩
    have I1 := HI0.out.below hb1
    have b0 : w1.cell? ⟨W.heap.size + 1, 0, none⟩ = some (.int .i64 q.r) := I1.cell (List.Mem.head _) 0
    have b1 : w1.cell? ⟨W.heap.size + 1, 1, none⟩ = some (.int .i64 q.w) := I1.cell (List.Mem.head _) 1
    have b2 : w1.cell? ⟨W.heap.size + 1, 2, none⟩ = some (.int .i64 q.l) := I1.cell (List.Mem.head _) 2
    have b3 : w1.cell? ⟨W.heap.size + 1, 3, none⟩ = some (.int .i64 q.b) := I1.cell (List.Mem.head _) 3
    have HI1 := hide I1
    clear I1 hb1
    cases hrp : right p.r p.w p.l p.b
    · go_wp2_with fail
      have bI := HI1.out.base
      refine (awake12_calls _).mono ?_
      rintro e wa ⟨rfl, hba⟩
      go_wp2
      go_ret
      exact ⟨rfl, bI.trans (hba.mono bI.size)⟩
    go_wp2_with fail
    with_reducible refine (rRight_calls _ _ _ _ _).mono ?_
    rintro e w2 ⟨rfl, hb2⟩
    have HI2 := hide (HI1.out.below hb2)
    clear hb2 b0 b1 b2 b3
    cases hrq : right q.r q.w q.l q.b
    · go_wp2_with fail
      have bI := HI2.out.base
      refine (awake12_calls _).mono ?_
      rintro e wa ⟨rfl, hba⟩
      go_wp2
      go_ret
      exact ⟨rfl, bI.trans (hba.mono bI.size)⟩
    have HRP := hide hrp
    have HRQ := hide hrq
    have HN := hide (snew_s HI2.out)
    clear hrp hrq HI2 HI1 HI0
    go_wp2_with fail
    refine HN.out.mono ?_
    rintro e w3 ⟨ps, rfl, h3⟩
    have H3 := hide h3
    clear h3 HN
    go_wp2_with fail
    go_loopw [8, 9, 10, 11, 12, 13, 14, 15, 16, 17, 18, 19] (fun la i _ _ _ _ _ _ _ _ _ _ wr => ∃ (k : Nat) (X : List Fl) (last : Int), k ≤ l.length ∧ i = .int .i64 k ∧ la = .int .i64 last ∧ V4 X last ∧ Sch W [(W.heap.size + 1, 29, #[.int .i64 q.r, .int .i64 q.w, .int .i64 q.l, .int .i64 q.b]), (W.heap.size, 29, #[.int .i64 p.r, .int .i64 p.w, .int .i64 p.l, .int .i64 p.b])] wr ps X) (fun _ i _ _ _ _ _ _ _ _ _ _ _ => l.length - (intOf i).toNat)
    case atStart => exact ⟨0, [], -1, Nat.zero_le _, rfl, rfl, Or.inl ⟨rfl, rfl⟩, H3.out⟩
    case round =>
      obtain ⟨k, X, last, hk, rfl, rfl, hV, hS⟩ := hrel
      have HV := hide hV
      have HS := hide hS
      have HB := hide hS.base
      clear hV hS
      by_cases hlt : k < l.length
      · obtain ⟨b, o, rfl, hbB, hcell⟩ := HR0.out.at_ (by omega)
        have hcv : W.cell? ⟨b, o + k, none⟩ = some (.int .i64 l[k]) := hcell k _ (by simp [hlt])
        obtain ⟨v, hv⟩ : ∃ v, l[k] = v := ⟨_, rfl⟩
        rw [hv] at hcv
        have HCV := hide hcv
        have a0 : wr.cell? ⟨W.heap.size, 0, none⟩ = some (.int .i64 p.r) := HS.out.inv.cell (List.Mem.tail _ (List.Mem.head _)) 0
        have a1 : wr.cell? ⟨W.heap.size, 1, none⟩ = some (.int .i64 p.w) := HS.out.inv.cell (List.Mem.tail _ (List.Mem.head _)) 1
        have a2 : wr.cell? ⟨W.heap.size, 2, none⟩ = some (.int .i64 p.l) := HS.out.inv.cell (List.Mem.tail _ (List.Mem.head _)) 2
        have a3 : wr.cell? ⟨W.heap.size, 3, none⟩ = some (.int .i64 p.b) := HS.out.inv.cell (List.Mem.tail _ (List.Mem.head _)) 3
        have b0 : wr.cell? ⟨W.heap.size + 1, 0, none⟩ = some (.int .i64 q.r) := HS.out.inv.cell (List.Mem.head _) 0
        have b1 : wr.cell? ⟨W.heap.size + 1, 1, none⟩ = some (.int .i64 q.w) := HS.out.inv.cell (List.Mem.head _) 1
        have b2 : wr.cell? ⟨W.heap.size + 1, 2, none⟩ = some (.int .i64 q.l) := HS.out.inv.cell (List.Mem.head _) 2
        have b3 : wr.cell? ⟨W.heap.size + 1, 3, none⟩ = some (.int .i64 q.b) := HS.out.inv.cell (List.Mem.head _) 3
        have hq1 : W.heap.size + 1 < wr.heap.size := HS.out.inv.lt (List.Mem.head _)
        have i1 : (k : Int) < l.length := by omega
        clear hcell hcv hv
        cases hpar : ((k : Int) % 2 == 1)
        · have hU := HS.out.new (b := wr.heap.size) (t := 29) (cs := #[.int .i64 p.r, .int .i64 p.w, .int .i64 p.l, .int .i64 p.b]) rfl
          go_wp2_with fail
          obtain ⟨w1, hw1⟩ : ∃ w1, (wr.alloc (.cells #[.int .i64 p.r, .int .i64 p.w, .int .i64 p.l, .int .i64 p.b] 29)) = w1 := ⟨_, rfl⟩
          clear a0 a1 a2 a3 b0 b1 b2 b3
          rw [hw1] at hU ⊢
          have hsz1 : wr.heap.size < w1.heap.size := hU.inv.lt (List.Mem.head _)
          have HG1 := hide (get_any hU HV.out)
          clear hU hw1
          go_wp2_with fail
          refine HG1.out.mono ?_
          rintro e w2 ⟨v0, p0, k0, ok0, rfl, hx0, h2⟩
          have hsz2 : wr.heap.size < w2.heap.size := h2.inv.lt (List.Mem.head _)
          have h3 := (h2.new (b := w2.heap.size) (t := 29) (cs := #[.int .i64 p0.r, .int .i64 p0.w, .int .i64 p0.l, .int .i64 p0.b]) rfl).alloc (.cells #[.int .i64 k0.r, .int .i64 k0.p, .int .i64 k0.l] 51)
          have HX0 := hide hx0
          clear HG1 h2 hx0
          go_wp2_with fail
          obtain ⟨w3, hw3⟩ : ∃ w3, (w2.alloc (.cells #[.int .i64 p0.r, .int .i64 p0.w, .int .i64 p0.l, .int .i64 p0.b] 29)).alloc (.cells #[.int .i64 k0.r, .int .i64 k0.p, .int .i64 k0.l] 51) = w3 := ⟨_, rfl⟩
          rw [hw3] at h3 ⊢
          have cv : ∀ w', Below w3.heap.size w3 w' → w'.cell? ⟨b, o + k, none⟩ = some (.int .i64 v) := fun w' hb' => ((h3.base.trans (hb'.mono h3.base.size)).cell (p := ⟨b, o + k, none⟩) hbB).trans HCV.out
          have u0 : ∀ w', Below w3.heap.size w3 w' → w'.cell? ⟨wr.heap.size, 0, none⟩ = some (.int .i64 p.r) := fun w' hb' => (h3.inv.below hb').cell (List.Mem.tail _ (List.Mem.head _)) 0
          have u1 : ∀ w', Below w3.heap.size w3 w' → w'.cell? ⟨wr.heap.size, 1, none⟩ = some (.int .i64 p.w) := fun w' hb' => (h3.inv.below hb').cell (List.Mem.tail _ (List.Mem.head _)) 1
          have u2 : ∀ w', Below w3.heap.size w3 w' → w'.cell? ⟨wr.heap.size, 2, none⟩ = some (.int .i64 p.l) := fun w' hb' => (h3.inv.below hb').cell (List.Mem.tail _ (List.Mem.head _)) 2
          have u3 : ∀ w', Below w3.heap.size w3 w' → w'.cell? ⟨wr.heap.size, 3, none⟩ = some (.int .i64 p.b) := fun w' hb' => (h3.inv.below hb').cell (List.Mem.tail _ (List.Mem.head _)) 3
          have HS1 := hide (set_any (v := v) p h3.drew HV.out HRP.out)
          have r3 := Below.refl w3.heap.size w3
          clear h3 hw3
          refine region_lexg (fun w' => Below w3.heap.size w3 w') [6] 0 [(2, 0), (2, 1), (2, 2), (2, 3), (0, 4), (0, 5), (3, 6), (2, 7)] #[true, true, true, true, true, true, true, true] (by kernel_rfl) (by kernel_rfl) (by decide) (by kernel_rfl) (by kernel_rfl) (fun _ _ _ _ _ h => h) (by (exact r3.drew)) (fun hS0 => ?_)
          simp only [List.map_cons, List.map_nil, List.getElem?_toArray, List.getElem?_cons_succ, List.getElem?_cons_zero]
          (apply lexg_pure (by rfl); (focus (intro w; go_simp; (try with_reducible rfl); done)); simp only [Act.put, List.setIfInBounds_toArray, List.set_cons_zero, List.set_cons_succ])
          (apply lexg_pure (by rfl); (focus (intro w; go_simp; (try with_reducible rfl); done)); simp only [Act.put, List.setIfInBounds_toArray, List.set_cons_zero, List.set_cons_succ])
          (apply lexg_pure (by rfl); (focus (intro w; go_simp; (try with_reducible rfl); done)); simp only [Act.put, List.setIfInBounds_toArray, List.set_cons_zero, List.set_cons_succ])
          (apply lexg_pure (by rfl); (focus (intro w; go_simp; (try with_reducible rfl); done)); simp only [Act.put, List.setIfInBounds_toArray, List.set_cons_zero, List.set_cons_succ])
          (apply lexg_take (by rfl); (focus (intro w hw; (try dsimp only at hw); go_simp; (try with_reducible rfl); done)); simp only [Act.put, List.setIfInBounds_toArray, List.set_cons_zero, List.set_cons_succ])
          (apply lexg_take (by rfl); (focus (intro w hw; (try dsimp only at hw); go_simp; (try with_reducible rfl); done)); simp only [Act.put, List.setIfInBounds_toArray, List.set_cons_zero, List.set_cons_succ])
          (refine lexg_effN (by rfl) ?_; (go_simp; go_at_call 13; (refine HS1.out.mono ?_); rintro e w4 ⟨r4, rfl, hs4⟩); simp only [Act.put, List.setIfInBounds_toArray, List.set_cons_zero, List.set_cons_succ])
          (apply lexg_pure (by rfl); (focus (intro w; go_simp; (try with_reducible rfl); done)); simp only [Act.put, List.setIfInBounds_toArray, List.set_cons_zero, List.set_cons_succ])
          refine lexg_nil (fun _ => wpAnyG_done (by kernel_rfl) ?_ _)
          clear u0 u1 u2 u3 cv
          rcases hs4 with ⟨rfl, hv0, h4⟩ | ⟨rfl, hv0, hv1, ⟨f, hXf⟩, h4⟩ | ⟨rfl, hv0, hv1, f', hid', hver', hp', h4⟩
          · have HV0 := hide hv0
            have HG2 := hide (get_any h4 HV.out)
            have hsz4 : w2.heap.size < w4.heap.size := h4.inv.lt (List.Mem.head _)
            clear h4 hv0 HS1
            go_wp2_with fail
            refine HG2.out.mono ?_
            rintro e w5 ⟨v5, p5, k5, ok5, rfl, hx5, h5⟩
            have HX5 := hide hx5
            have hsz5 : w2.heap.size < w5.heap.size := h5.inv.lt (List.Mem.head _)
            have cv : w5.cell? ⟨b, o + k, none⟩ = some (.int .i64 v) := (h5.base.cell (p := ⟨b, o + k, none⟩) hbB).trans HCV.out
            have hb5 : b < w5.heap.size := by have := h5.base.size; omega
            have nb1 : ¬ (b = w5.heap.size) := by omega
            have nb2 : ¬ (b = w5.heap.size + 1) := by omega
            have nu1 : ¬ (wr.heap.size = w5.heap.size) := by omega
            have nu2 : ¬ (wr.heap.size = w5.heap.size + 1) := by omega
            have nw1 : ¬ (w2.heap.size = w5.heap.size) := by omega
            have nw2 : ¬ (w2.heap.size = w5.heap.size + 1) := by omega
            have x0 : w5.cell? ⟨wr.heap.size, 0, none⟩ = some (.int .i64 p.r) := h5.inv.cell (List.Mem.tail _ (List.Mem.head _)) 0
            have x1 : w5.cell? ⟨wr.heap.size, 1, none⟩ = some (.int .i64 p.w) := h5.inv.cell (List.Mem.tail _ (List.Mem.head _)) 1
            have x2 : w5.cell? ⟨wr.heap.size, 2, none⟩ = some (.int .i64 p.l) := h5.inv.cell (List.Mem.tail _ (List.Mem.head _)) 2
            have x3 : w5.cell? ⟨wr.heap.size, 3, none⟩ = some (.int .i64 p.b) := h5.inv.cell (List.Mem.tail _ (List.Mem.head _)) 3
            have y0 : w5.cell? ⟨w2.heap.size, 0, none⟩ = some (.int .i64 p0.r) := h5.inv.cell (List.Mem.head _) 0
            have y1 : w5.cell? ⟨w2.heap.size, 1, none⟩ = some (.int .i64 p0.w) := h5.inv.cell (List.Mem.head _) 1
            have y2 : w5.cell? ⟨w2.heap.size, 2, none⟩ = some (.int .i64 p0.l) := h5.inv.cell (List.Mem.head _) 2
            have y3 : w5.cell? ⟨w2.heap.size, 3, none⟩ = some (.int .i64 p0.b) := h5.inv.cell (List.Mem.head _) 3
            have H5 := hide h5
            have t0 : ¬ (0 ≤ v) := by have := HV0.out; omega
            clear hx5 h5 HG2 x0 x1 x2 x3 y0 y1 y2 y3 nu1 nu2 nw1 nw2 hsz1 hsz2 hsz4 hsz5
            cases ok5
            all_goals
              simp only []
              iterate 42 (first | go_values | go_skip | go_guarded | go_step | go_upon | go_in | go_back)
              simp only [List.append_eq, List.cons_append, List.nil_append]
              go_wp2
              go_roundw
              case rel =>
                refine ⟨k + 1, X, _, by omega, by go_num, rfl, ?_, ((H5.out.alloc _).alloc _).sub (fun z hz => List.mem_cons_of_mem _ (List.mem_cons_of_mem _ hz))⟩
                first
                | (rcases HX5.out with ⟨h, _⟩ | ⟨f, h, h1, h2, h3⟩
                   · exact HV.out
                   · cases h3)
                | (rcases HX5.out with ⟨h, h1⟩ | ⟨f, h, h1, h2, h3⟩
                   · cases h1
                   · rcases HV.out with ⟨h4, _⟩ | ⟨f', h4, h5, h6, h7⟩
                     · rw [h] at h4; cases h4
                     · rw [h] at h4
                       injection h4 with h4
                       subst h4
                       exact Or.inr ⟨f, h, h5, h1, h7⟩)
              case measure => simp [intOf]; omega
          · have HV0 := hide (And.intro hv0 hv1)
            have HG2 := hide (get_any h4 HV.out)
            have hsz4 : w2.heap.size < w4.heap.size := h4.inv.lt (List.Mem.head _)
            clear h4 hv0 hv1 HS1
            go_wp2_with fail
            refine HG2.out.mono ?_
            rintro e w5 ⟨v5, p5, k5, ok5, rfl, hx5, h5⟩
            have HX5 := hide hx5
            have hsz5 : w2.heap.size < w5.heap.size := h5.inv.lt (List.Mem.head _)
            have cv : w5.cell? ⟨b, o + k, none⟩ = some (.int .i64 v) := (h5.base.cell (p := ⟨b, o + k, none⟩) hbB).trans HCV.out
            have hb5 : b < w5.heap.size := by have := h5.base.size; omega
            have nb1 : ¬ (b = w5.heap.size) := by omega
            have nb2 : ¬ (b = w5.heap.size + 1) := by omega
            have nu1 : ¬ (wr.heap.size = w5.heap.size) := by omega
            have nu2 : ¬ (wr.heap.size = w5.heap.size + 1) := by omega
            have nw1 : ¬ (w2.heap.size = w5.heap.size) := by omega
            have nw2 : ¬ (w2.heap.size = w5.heap.size + 1) := by omega
            have x0 : w5.cell? ⟨wr.heap.size, 0, none⟩ = some (.int .i64 p.r) := h5.inv.cell (List.Mem.tail _ (List.Mem.head _)) 0
            have x1 : w5.cell? ⟨wr.heap.size, 1, none⟩ = some (.int .i64 p.w) := h5.inv.cell (List.Mem.tail _ (List.Mem.head _)) 1
            have x2 : w5.cell? ⟨wr.heap.size, 2, none⟩ = some (.int .i64 p.l) := h5.inv.cell (List.Mem.tail _ (List.Mem.head _)) 2
            have x3 : w5.cell? ⟨wr.heap.size, 3, none⟩ = some (.int .i64 p.b) := h5.inv.cell (List.Mem.tail _ (List.Mem.head _)) 3
            have y0 : w5.cell? ⟨w2.heap.size, 0, none⟩ = some (.int .i64 p0.r) := h5.inv.cell (List.Mem.head _) 0
            have y1 : w5.cell? ⟨w2.heap.size, 1, none⟩ = some (.int .i64 p0.w) := h5.inv.cell (List.Mem.head _) 1
            have y2 : w5.cell? ⟨w2.heap.size, 2, none⟩ = some (.int .i64 p0.l) := h5.inv.cell (List.Mem.head _) 2
            have y3 : w5.cell? ⟨w2.heap.size, 3, none⟩ = some (.int .i64 p0.b) := h5.inv.cell (List.Mem.head _) 3
            have H5 := hide h5
            have hall : ok5 = true ∧ p5 = p0 ∧ v5 = last ∧ V4 X v5 := by
              subst hXf
              rcases HX5.out with ⟨h, _⟩ | ⟨g, h, h1, h2, h3⟩
              · cases h
              · injection h with h; subst h
                rcases HX0.out with ⟨h', _⟩ | ⟨g', h', h1', h2', h3'⟩
                · cases h'
                · injection h' with h'; subst h'
                  rcases HV.out with ⟨h4, _⟩ | ⟨g2, h4, h5, h6, h7⟩
                  · cases h4
                  · injection h4 with h4; subst h4
                    exact ⟨h3, h2.trans h2'.symm, h1.trans h6.symm, Or.inr ⟨f, rfl, h5, h1, h7⟩⟩
            obtain ⟨rfl, rfl, rfl, hv5⟩ := hall
            have HV5 := hide hv5
            have t1 : ¬ (v5 ≤ v) := by have := HV0.out; omega
            clear hx5 h5 HG2 hv5 x0 x1 x2 x3 nu1 nu2 hsz1 hsz2 hsz4
            have nw3 : ¬ (w5.heap.size = w2.heap.size) := by omega
            have nw4 : ¬ (w5.heap.size + 1 = w2.heap.size) := by omega
            have nw5 : w2.heap.size < w5.heap.size + 1 := by omega
            simp only []
            iterate 42 (first | go_values | go_skip | go_guarded | go_step | go_upon | go_in | go_back)
            simp only [List.append_eq, List.cons_append, List.nil_append]
            go_wp2
            go_roundw
            case rel => exact ⟨k + 1, X, _, by omega, by go_num, rfl, HV5.out, ((H5.out.alloc _).alloc _).sub (fun z hz => List.mem_cons_of_mem _ (List.mem_cons_of_mem _ hz))⟩
            case measure => simp [intOf]; omega
          · have HV0 := hide (And.intro hv0 (And.intro hv1 (And.intro hid' (And.intro hver' hp'))))
            have hv4 : V4 [f'] v := Or.inr ⟨f', rfl, hid', hver'.symm, by rw [hver']; exact hv0⟩
            have HV4 := hide hv4
            have HG2 := hide (get_any h4 hv4)
            have hsz4 : w2.heap.size < w4.heap.size := h4.inv.lt (List.Mem.head _)
            clear h4 hv0 hv1 HS1 hid' hver' hp' hv4
            go_wp2_with fail
            refine HG2.out.mono ?_
            rintro e w5 ⟨v5, p5, k5, ok5, rfl, hx5, h5⟩
            have HX5 := hide hx5
            have hsz5 : w2.heap.size < w5.heap.size := h5.inv.lt (List.Mem.head _)
            have cv : w5.cell? ⟨b, o + k, none⟩ = some (.int .i64 v) := (h5.base.cell (p := ⟨b, o + k, none⟩) hbB).trans HCV.out
            have hb5 : b < w5.heap.size := by have := h5.base.size; omega
            have nb1 : ¬ (b = w5.heap.size) := by omega
            have nb2 : ¬ (b = w5.heap.size + 1) := by omega
            have nu1 : ¬ (wr.heap.size = w5.heap.size) := by omega
            have nu2 : ¬ (wr.heap.size = w5.heap.size + 1) := by omega
            have nw1 : ¬ (w2.heap.size = w5.heap.size) := by omega
            have nw2 : ¬ (w2.heap.size = w5.heap.size + 1) := by omega
            have x0 : w5.cell? ⟨wr.heap.size, 0, none⟩ = some (.int .i64 p.r) := h5.inv.cell (List.Mem.tail _ (List.Mem.head _)) 0
            have x1 : w5.cell? ⟨wr.heap.size, 1, none⟩ = some (.int .i64 p.w) := h5.inv.cell (List.Mem.tail _ (List.Mem.head _)) 1
            have x2 : w5.cell? ⟨wr.heap.size, 2, none⟩ = some (.int .i64 p.l) := h5.inv.cell (List.Mem.tail _ (List.Mem.head _)) 2
            have x3 : w5.cell? ⟨wr.heap.size, 3, none⟩ = some (.int .i64 p.b) := h5.inv.cell (List.Mem.tail _ (List.Mem.head _)) 3
            have y0 : w5.cell? ⟨w2.heap.size, 0, none⟩ = some (.int .i64 p0.r) := h5.inv.cell (List.Mem.head _) 0
            have y1 : w5.cell? ⟨w2.heap.size, 1, none⟩ = some (.int .i64 p0.w) := h5.inv.cell (List.Mem.head _) 1
            have y2 : w5.cell? ⟨w2.heap.size, 2, none⟩ = some (.int .i64 p0.l) := h5.inv.cell (List.Mem.head _) 2
            have y3 : w5.cell? ⟨w2.heap.size, 3, none⟩ = some (.int .i64 p0.b) := h5.inv.cell (List.Mem.head _) 3
            have H5 := hide h5
            have hall : ok5 = true ∧ p5 = p ∧ v5 = v := by
              rcases HX5.out with ⟨h, _⟩ | ⟨g, h, h1, h2, h3⟩
              · cases h
              · injection h with h; subst h
                exact ⟨h3, h2.trans HV0.out.2.2.2.2, h1.trans HV0.out.2.2.2.1⟩
            obtain ⟨rfl, rfl, rfl⟩ := hall
            have t1 : ¬ (v5 < last) := by have := HV0.out; omega
            have nu3 : ¬ (w5.heap.size = wr.heap.size) := by omega
            have nu4 : ¬ (w5.heap.size + 1 = wr.heap.size) := by omega
            have nu5 : wr.heap.size < w5.heap.size + 1 := by omega
            have nu6 : wr.heap.size < w5.heap.size := by omega
            clear hx5 h5 HG2 y0 y1 y2 y3 nw1 nw2 hsz1 hsz2 hsz4 hsz5
            simp only []
            iterate 42 (first | go_values | go_skip | go_guarded | go_step | go_upon | go_in | go_back)
            simp only [List.append_eq, List.cons_append, List.nil_append]
            go_wp2
            go_roundw
            case rel => exact ⟨k + 1, _, _, by omega, by go_num, rfl, HV4.out, ((H5.out.alloc _).alloc _).sub (fun z hz => List.mem_cons_of_mem _ (List.mem_cons_of_mem _ hz))⟩
            case measure => simp [intOf]; omega
        · have hU := HS.out.new (b := wr.heap.size) (t := 29) (cs := #[.int .i64 q.r, .int .i64 q.w, .int .i64 q.l, .int .i64 q.b]) rfl
          go_wp2_with fail
          obtain ⟨w1, hw1⟩ : ∃ w1, (wr.alloc (.cells #[.int .i64 q.r, .int .i64 q.w, .int .i64 q.l, .int .i64 q.b] 29)) = w1 := ⟨_, rfl⟩
          clear a0 a1 a2 a3 b0 b1 b2 b3
          rw [hw1] at hU ⊢
          have hsz1 : wr.heap.size < w1.heap.size := hU.inv.lt (List.Mem.head _)
          have HG1 := hide (get_any hU HV.out)
          clear hU hw1
          go_wp2_with fail
          refine HG1.out.mono ?_
          rintro e w2 ⟨v0, p0, k0, ok0, rfl, hx0, h2⟩
          have hsz2 : wr.heap.size < w2.heap.size := h2.inv.lt (List.Mem.head _)
          have h3 := (h2.new (b := w2.heap.size) (t := 29) (cs := #[.int .i64 p0.r, .int .i64 p0.w, .int .i64 p0.l, .int .i64 p0.b]) rfl).alloc (.cells #[.int .i64 k0.r, .int .i64 k0.p, .int .i64 k0.l] 51)
          have HX0 := hide hx0
          clear HG1 h2 hx0
          go_wp2_with fail
          obtain ⟨w3, hw3⟩ : ∃ w3, (w2.alloc (.cells #[.int .i64 p0.r, .int .i64 p0.w, .int .i64 p0.l, .int .i64 p0.b] 29)).alloc (.cells #[.int .i64 k0.r, .int .i64 k0.p, .int .i64 k0.l] 51) = w3 := ⟨_, rfl⟩
          rw [hw3] at h3 ⊢
          have cv : ∀ w', Below w3.heap.size w3 w' → w'.cell? ⟨b, o + k, none⟩ = some (.int .i64 v) := fun w' hb' => ((h3.base.trans (hb'.mono h3.base.size)).cell (p := ⟨b, o + k, none⟩) hbB).trans HCV.out
          have u0 : ∀ w', Below w3.heap.size w3 w' → w'.cell? ⟨wr.heap.size, 0, none⟩ = some (.int .i64 q.r) := fun w' hb' => (h3.inv.below hb').cell (List.Mem.tail _ (List.Mem.head _)) 0
          have u1 : ∀ w', Below w3.heap.size w3 w' → w'.cell? ⟨wr.heap.size, 1, none⟩ = some (.int .i64 q.w) := fun w' hb' => (h3.inv.below hb').cell (List.Mem.tail _ (List.Mem.head _)) 1
          have u2 : ∀ w', Below w3.heap.size w3 w' → w'.cell? ⟨wr.heap.size, 2, none⟩ = some (.int .i64 q.l) := fun w' hb' => (h3.inv.below hb').cell (List.Mem.tail _ (List.Mem.head _)) 2
          have u3 : ∀ w', Below w3.heap.size w3 w' → w'.cell? ⟨wr.heap.size, 3, none⟩ = some (.int .i64 q.b) := fun w' hb' => (h3.inv.below hb').cell (List.Mem.tail _ (List.Mem.head _)) 3
          have HS1 := hide (set_any (v := v) q h3.drew HV.out HRQ.out)
          have r3 := Below.refl w3.heap.size w3
          clear h3 hw3
          refine region_lexg (fun w' => Below w3.heap.size w3 w') [6] 0 [(2, 0), (2, 1), (2, 2), (2, 3), (0, 4), (0, 5), (3, 6), (2, 7)] #[true, true, true, true, true, true, true, true] (by kernel_rfl) (by kernel_rfl) (by decide) (by kernel_rfl) (by kernel_rfl) (fun _ _ _ _ _ h => h) (by (exact r3.drew)) (fun hS0 => ?_)
          simp only [List.map_cons, List.map_nil, List.getElem?_toArray, List.getElem?_cons_succ, List.getElem?_cons_zero]
          (apply lexg_pure (by rfl); (focus (intro w; go_simp; (try with_reducible rfl); done)); simp only [Act.put, List.setIfInBounds_toArray, List.set_cons_zero, List.set_cons_succ])
          (apply lexg_pure (by rfl); (focus (intro w; go_simp; (try with_reducible rfl); done)); simp only [Act.put, List.setIfInBounds_toArray, List.set_cons_zero, List.set_cons_succ])
          (apply lexg_pure (by rfl); (focus (intro w; go_simp; (try with_reducible rfl); done)); simp only [Act.put, List.setIfInBounds_toArray, List.set_cons_zero, List.set_cons_succ])
          (apply lexg_pure (by rfl); (focus (intro w; go_simp; (try with_reducible rfl); done)); simp only [Act.put, List.setIfInBounds_toArray, List.set_cons_zero, List.set_cons_succ])
          (apply lexg_take (by rfl); (focus (intro w hw; (try dsimp only at hw); go_simp; (try with_reducible rfl); done)); simp only [Act.put, List.setIfInBounds_toArray, List.set_cons_zero, List.set_cons_succ])
          (apply lexg_take (by rfl); (focus (intro w hw; (try dsimp only at hw); go_simp; (try with_reducible rfl); done)); simp only [Act.put, List.setIfInBounds_toArray, List.set_cons_zero, List.set_cons_succ])
          (refine lexg_effN (by rfl) ?_; (go_simp; go_at_call 13; (refine HS1.out.mono ?_); rintro e w4 ⟨r4, rfl, hs4⟩); simp only [Act.put, List.setIfInBounds_toArray, List.set_cons_zero, List.set_cons_succ])
          (apply lexg_pure (by rfl); (focus (intro w; go_simp; (try with_reducible rfl); done)); simp only [Act.put, List.setIfInBounds_toArray, List.set_cons_zero, List.set_cons_succ])
          refine lexg_nil (fun _ => wpAnyG_done (by kernel_rfl) ?_ _)
          clear u0 u1 u2 u3 cv
          rcases hs4 with ⟨rfl, hv0, h4⟩ | ⟨rfl, hv0, hv1, ⟨f, hXf⟩, h4⟩ | ⟨rfl, hv0, hv1, f', hid', hver', hp', h4⟩
          · have HV0 := hide hv0
            have HG2 := hide (get_any h4 HV.out)
            have hsz4 : w2.heap.size < w4.heap.size := h4.inv.lt (List.Mem.head _)
            clear h4 hv0 HS1
            go_wp2_with fail
            refine HG2.out.mono ?_
            rintro e w5 ⟨v5, p5, k5, ok5, rfl, hx5, h5⟩
            have HX5 := hide hx5
            have hsz5 : w2.heap.size < w5.heap.size := h5.inv.lt (List.Mem.head _)
            have cv : w5.cell? ⟨b, o + k, none⟩ = some (.int .i64 v) := (h5.base.cell (p := ⟨b, o + k, none⟩) hbB).trans HCV.out
            have hb5 : b < w5.heap.size := by have := h5.base.size; omega
            have nb1 : ¬ (b = w5.heap.size) := by omega
            have nb2 : ¬ (b = w5.heap.size + 1) := by omega
            have nu1 : ¬ (wr.heap.size = w5.heap.size) := by omega
            have nu2 : ¬ (wr.heap.size = w5.heap.size + 1) := by omega
            have nw1 : ¬ (w2.heap.size = w5.heap.size) := by omega
            have nw2 : ¬ (w2.heap.size = w5.heap.size + 1) := by omega
            have x0 : w5.cell? ⟨wr.heap.size, 0, none⟩ = some (.int .i64 q.r) := h5.inv.cell (List.Mem.tail _ (List.Mem.head _)) 0
            have x1 : w5.cell? ⟨wr.heap.size, 1, none⟩ = some (.int .i64 q.w) := h5.inv.cell (List.Mem.tail _ (List.Mem.head _)) 1
            have x2 : w5.cell? ⟨wr.heap.size, 2, none⟩ = some (.int .i64 q.l) := h5.inv.cell (List.Mem.tail _ (List.Mem.head _)) 2
            have x3 : w5.cell? ⟨wr.heap.size, 3, none⟩ = some (.int .i64 q.b) := h5.inv.cell (List.Mem.tail _ (List.Mem.head _)) 3
            have y0 : w5.cell? ⟨w2.heap.size, 0, none⟩ = some (.int .i64 p0.r) := h5.inv.cell (List.Mem.head _) 0
            have y1 : w5.cell? ⟨w2.heap.size, 1, none⟩ = some (.int .i64 p0.w) := h5.inv.cell (List.Mem.head _) 1
            have y2 : w5.cell? ⟨w2.heap.size, 2, none⟩ = some (.int .i64 p0.l) := h5.inv.cell (List.Mem.head _) 2
            have y3 : w5.cell? ⟨w2.heap.size, 3, none⟩ = some (.int .i64 p0.b) := h5.inv.cell (List.Mem.head _) 3
            have H5 := hide h5
            have t0 : ¬ (0 ≤ v) := by have := HV0.out; omega
            clear hx5 h5 HG2 x0 x1 x2 x3 y0 y1 y2 y3 nu1 nu2 nw1 nw2 hsz1 hsz2 hsz4 hsz5
            cases ok5
            all_goals
              simp only []
              iterate 42 (first | go_values | go_skip | go_guarded | go_step | go_upon | go_in | go_back)
              simp only [List.append_eq, List.cons_append, List.nil_append]
              go_wp2
              go_roundw
              case rel =>
                refine ⟨k + 1, X, _, by omega, by go_num, rfl, ?_, ((H5.out.alloc _).alloc _).sub (fun z hz => List.mem_cons_of_mem _ (List.mem_cons_of_mem _ hz))⟩
                first
                | (rcases HX5.out with ⟨h, _⟩ | ⟨f, h, h1, h2, h3⟩
                   · exact HV.out
                   · cases h3)
                | (rcases HX5.out with ⟨h, h1⟩ | ⟨f, h, h1, h2, h3⟩
                   · cases h1
                   · rcases HV.out with ⟨h4, _⟩ | ⟨f', h4, h5, h6, h7⟩
                     · rw [h] at h4; cases h4
                     · rw [h] at h4
                       injection h4 with h4
                       subst h4
                       exact Or.inr ⟨f, h, h5, h1, h7⟩)
              case measure => simp [intOf]; omega
          · have HV0 := hide (And.intro hv0 hv1)
            have HG2 := hide (get_any h4 HV.out)
            have hsz4 : w2.heap.size < w4.heap.size := h4.inv.lt (List.Mem.head _)
            clear h4 hv0 hv1 HS1
            go_wp2_with fail
            refine HG2.out.mono ?_
            rintro e w5 ⟨v5, p5, k5, ok5, rfl, hx5, h5⟩
            have HX5 := hide hx5
            have hsz5 : w2.heap.size < w5.heap.size := h5.inv.lt (List.Mem.head _)
            have cv : w5.cell? ⟨b, o + k, none⟩ = some (.int .i64 v) := (h5.base.cell (p := ⟨b, o + k, none⟩) hbB).trans HCV.out
            have hb5 : b < w5.heap.size := by have := h5.base.size; omega
            have nb1 : ¬ (b = w5.heap.size) := by omega
            have nb2 : ¬ (b = w5.heap.size + 1) := by omega
            have nu1 : ¬ (wr.heap.size = w5.heap.size) := by omega
            have nu2 : ¬ (wr.heap.size = w5.heap.size + 1) := by omega
            have nw1 : ¬ (w2.heap.size = w5.heap.size) := by omega
            have nw2 : ¬ (w2.heap.size = w5.heap.size + 1) := by omega
            have x0 : w5.cell? ⟨wr.heap.size, 0, none⟩ = some (.int .i64 q.r) := h5.inv.cell (List.Mem.tail _ (List.Mem.head _)) 0
            have x1 : w5.cell? ⟨wr.heap.size, 1, none⟩ = some (.int .i64 q.w) := h5.inv.cell (List.Mem.tail _ (List.Mem.head _)) 1
            have x2 : w5.cell? ⟨wr.heap.size, 2, none⟩ = some (.int .i64 q.l) := h5.inv.cell (List.Mem.tail _ (List.Mem.head _)) 2
            have x3 : w5.cell? ⟨wr.heap.size, 3, none⟩ = some (.int .i64 q.b) := h5.inv.cell (List.Mem.tail _ (List.Mem.head _)) 3
            have y0 : w5.cell? ⟨w2.heap.size, 0, none⟩ = some (.int .i64 p0.r) := h5.inv.cell (List.Mem.head _) 0
            have y1 : w5.cell? ⟨w2.heap.size, 1, none⟩ = some (.int .i64 p0.w) := h5.inv.cell (List.Mem.head _) 1
            have y2 : w5.cell? ⟨w2.heap.size, 2, none⟩ = some (.int .i64 p0.l) := h5.inv.cell (List.Mem.head _) 2
            have y3 : w5.cell? ⟨w2.heap.size, 3, none⟩ = some (.int .i64 p0.b) := h5.inv.cell (List.Mem.head _) 3
            have H5 := hide h5
            have hall : ok5 = true ∧ p5 = p0 ∧ v5 = last ∧ V4 X v5 := by
              subst hXf
              rcases HX5.out with ⟨h, _⟩ | ⟨g, h, h1, h2, h3⟩
              · cases h
              · injection h with h; subst h
                rcases HX0.out with ⟨h', _⟩ | ⟨g', h', h1', h2', h3'⟩
                · cases h'
                · injection h' with h'; subst h'
                  rcases HV.out with ⟨h4, _⟩ | ⟨g2, h4, h5, h6, h7⟩
                  · cases h4
                  · injection h4 with h4; subst h4
                    exact ⟨h3, h2.trans h2'.symm, h1.trans h6.symm, Or.inr ⟨f, rfl, h5, h1, h7⟩⟩
            obtain ⟨rfl, rfl, rfl, hv5⟩ := hall
            have HV5 := hide hv5
            have t1 : ¬ (v5 ≤ v) := by have := HV0.out; omega
            clear hx5 h5 HG2 hv5 x0 x1 x2 x3 nu1 nu2 hsz1 hsz2 hsz4
            have nw3 : ¬ (w5.heap.size = w2.heap.size) := by omega
            have nw4 : ¬ (w5.heap.size + 1 = w2.heap.size) := by omega
            have nw5 : w2.heap.size < w5.heap.size + 1 := by omega
            simp only []
            iterate 42 (first | go_values | go_skip | go_guarded | go_step | go_upon | go_in | go_back)
            simp only [List.append_eq, List.cons_append, List.nil_append]
            go_wp2
            go_roundw
            case rel => exact ⟨k + 1, X, _, by omega, by go_num, rfl, HV5.out, ((H5.out.alloc _).alloc _).sub (fun z hz => List.mem_cons_of_mem _ (List.mem_cons_of_mem _ hz))⟩
            case measure => simp [intOf]; omega
          · have HV0 := hide (And.intro hv0 (And.intro hv1 (And.intro hid' (And.intro hver' hp'))))
            have hv4 : V4 [f'] v := Or.inr ⟨f', rfl, hid', hver'.symm, by rw [hver']; exact hv0⟩
            have HV4 := hide hv4
            have HG2 := hide (get_any h4 hv4)
            have hsz4 : w2.heap.size < w4.heap.size := h4.inv.lt (List.Mem.head _)
            clear h4 hv0 hv1 HS1 hid' hver' hp' hv4
            go_wp2_with fail
            refine HG2.out.mono ?_
            rintro e w5 ⟨v5, p5, k5, ok5, rfl, hx5, h5⟩
            have HX5 := hide hx5
            have hsz5 : w2.heap.size < w5.heap.size := h5.inv.lt (List.Mem.head _)
            have cv : w5.cell? ⟨b, o + k, none⟩ = some (.int .i64 v) := (h5.base.cell (p := ⟨b, o + k, none⟩) hbB).trans HCV.out
            have hb5 : b < w5.heap.size := by have := h5.base.size; omega
            have nb1 : ¬ (b = w5.heap.size) := by omega
            have nb2 : ¬ (b = w5.heap.size + 1) := by omega
            have nu1 : ¬ (wr.heap.size = w5.heap.size) := by omega
            have nu2 : ¬ (wr.heap.size = w5.heap.size + 1) := by omega
            have nw1 : ¬ (w2.heap.size = w5.heap.size) := by omega
            have nw2 : ¬ (w2.heap.size = w5.heap.size + 1) := by omega
            have x0 : w5.cell? ⟨wr.heap.size, 0, none⟩ = some (.int .i64 q.r) := h5.inv.cell (List.Mem.tail _ (List.Mem.head _)) 0
            have x1 : w5.cell? ⟨wr.heap.size, 1, none⟩ = some (.int .i64 q.w) := h5.inv.cell (List.Mem.tail _ (List.Mem.head _)) 1
            have x2 : w5.cell? ⟨wr.heap.size, 2, none⟩ = some (.int .i64 q.l) := h5.inv.cell (List.Mem.tail _ (List.Mem.head _)) 2
            have x3 : w5.cell? ⟨wr.heap.size, 3, none⟩ = some (.int .i64 q.b) := h5.inv.cell (List.Mem.tail _ (List.Mem.head _)) 3
            have y0 : w5.cell? ⟨w2.heap.size, 0, none⟩ = some (.int .i64 p0.r) := h5.inv.cell (List.Mem.head _) 0
            have y1 : w5.cell? ⟨w2.heap.size, 1, none⟩ = some (.int .i64 p0.w) := h5.inv.cell (List.Mem.head _) 1
            have y2 : w5.cell? ⟨w2.heap.size, 2, none⟩ = some (.int .i64 p0.l) := h5.inv.cell (List.Mem.head _) 2
            have y3 : w5.cell? ⟨w2.heap.size, 3, none⟩ = some (.int .i64 p0.b) := h5.inv.cell (List.Mem.head _) 3
            have H5 := hide h5
            have hall : ok5 = true ∧ p5 = q ∧ v5 = v := by
              rcases HX5.out with ⟨h, _⟩ | ⟨g, h, h1, h2, h3⟩
              · cases h
              · injection h with h; subst h
                exact ⟨h3, h2.trans HV0.out.2.2.2.2, h1.trans HV0.out.2.2.2.1⟩
            obtain ⟨rfl, rfl, rfl⟩ := hall
            have t1 : ¬ (v5 < last) := by have := HV0.out; omega
            have nu3 : ¬ (w5.heap.size = wr.heap.size) := by omega
            have nu4 : ¬ (w5.heap.size + 1 = wr.heap.size) := by omega
            have nu5 : wr.heap.size < w5.heap.size + 1 := by omega
            have nu6 : wr.heap.size < w5.heap.size := by omega
            clear hx5 h5 HG2 y0 y1 y2 y3 nw1 nw2 hsz1 hsz2 hsz4 hsz5
            simp only []
            iterate 42 (first | go_values | go_skip | go_guarded | go_step | go_upon | go_in | go_back)
            simp only [List.append_eq, List.cons_append, List.nil_append]
            go_wp2
            go_roundw
            case rel => exact ⟨k + 1, _, _, by omega, by go_num, rfl, HV4.out, ((H5.out.alloc _).alloc _).sub (fun z hz => List.mem_cons_of_mem _ (List.mem_cons_of_mem _ hz))⟩
            case measure => simp [intOf]; omega
      · have e : k = l.length := by omega
        subst e
        have bI := HB.out
        go_wp2_with fail
        refine (awake12_calls _).mono ?_
        rintro e wa ⟨rfl, hba⟩
        go_wp2
        go_ret
        exact ⟨rfl, bI.trans (hba.mono bI.size)⟩
  · have hn : (60 : Int) < l.length := by omega
    go_enter Try.func7, Try.ntmps7
    go_wp2_with fail
    have bI := HI0.out.base
    refine (awake12_calls _).mono ?_
    rintro e wa ⟨rfl, hba⟩
    go_wp2
    go_ret
    exact ⟨rfl, bI.trans (hba.mono bI.size)⟩
end Go.Proofs.Ytjdkafamaoeifaa
