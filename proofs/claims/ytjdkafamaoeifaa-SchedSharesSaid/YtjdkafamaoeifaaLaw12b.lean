/- The law SchedShares of layer 12: for every input it answers true. No conditions. -/
import Derived.Test.YtjdkafamaoeifaaFill
namespace Go.Proofs.Ytjdkafamaoeifaa
open Go.ChangeShapes Go.WideShapes Go.ChangeAt Go.RowKit Go.Proofs Go.Joins Go.Maps
set_option linter.unusedVariables false
set_option linter.unusedSimpArgs false

/-- two flows without reservations and limits -/
def SX (u v P0 P1 : Int) (q0 q1 : List It) : List Fl := [⟨0, 1, ⟨0, u, 0, 0⟩, ⟨0, P0, 0⟩, q0⟩, ⟨1, 1, ⟨0, v, 0, 0⟩, ⟨0, P1, 0⟩, q1⟩]
def QOk (q : List It) : Prop := q.length = 3 ∧ ∀ x ∈ q, x.delta = 0 ∧ x.rho = 0
theorem right_w {u : Int} (h : 1 ≤ u) (h8 : u ≤ 8) : right 0 u 0 0 = true := by
  unfold right
  exact decide_eq_true (by omega)
theorem QOk.its : QOk (its 3) := ⟨its_length 3, fun x hx => its_plain hx⟩
theorem QOk.step {q rest : List It} {x : It} (h : QOk q) (e : q = x :: rest) : QOk (rest ++ [⟨0, 0, 0⟩]) ∧ rest ≠ [] ∧ rest.length < 1024 ∧ x.delta = 0 ∧ x.rho = 0 := by
  subst e
  obtain ⟨h1, h2⟩ := h
  simp at h1
  refine ⟨⟨by simp; omega, fun y hy => ?_⟩, fun e => by rw [e] at h1; simp at h1, by omega, h2 x (by simp)⟩
  rcases List.mem_append.1 hy with h3 | h3
  · exact h2 y (List.mem_cons_of_mem _ h3)
  · rw [List.mem_singleton.1 h3]; exact ⟨rfl, rfl⟩
theorem QOk.up {q : List It} (h : QOk q) : q.isEmpty = false := by
  cases q with
  | nil => simp [QOk] at h
  | cons a t => rfl
theorem charge_w {u P tag : Int} (h : 1 ≤ u) (h8 : u ≤ 8) (p0 : 0 ≤ P) (p1 : P ≤ 13421772800) : charge ⟨0, u, 0, 0⟩ ⟨0, P, 0⟩ tag 2 0 0 = ⟨0, P + 67108864 / u, 0⟩ := by
  have hr := right_w h h8
  obtain ⟨a0, a1⟩ := quo_bd h
  unfold charge
  rw [if_neg (by simp [hr])]
  simp only [done_zero]
  have e1 : times (space 0) ((if (2 : Int) = 1 then 1 else 0) + 0) = 0 := times_zero _
  have e2 : times (67108864 / u) (1 + 0) = 67108864 / u := times_one a0 (by omega)
  rw [e1, e2, add_plain p0 a0 (by omega)]
  rfl
theorem share_pick {u v P0 P1 tag : Int} {q0 q1 : List It} {i : Nat} {phase : Int} (hu : 1 ≤ u) (hu8 : u ≤ 8) (hv : 1 ≤ v) (hv8 : v ≤ 8) (h0 : QOk q0) (h1 : QOk q1) (h : Picks (SX u v P0 P1 q0 q1) tag i phase) :
    phase = 2 ∧ ((i = 0 ∧ P0 ≤ P1) ∨ (i = 1 ∧ P1 ≤ P0)) := by
  have m0 : mayL tag ⟨0, 1, ⟨0, u, 0, 0⟩, ⟨0, P0, 0⟩, q0⟩ = true := by simp [mayL, byLimit, right_w hu hu8]
  have m1 : mayL tag ⟨1, 1, ⟨0, v, 0, 0⟩, ⟨0, P1, 0⟩, q1⟩ = true := by simp [mayL, byLimit, right_w hv hv8]
  have u0 : up ⟨0, 1, ⟨0, u, 0, 0⟩, ⟨0, P0, 0⟩, q0⟩ = true := by simp [up, h0.up]
  have u1 : up ⟨1, 1, ⟨0, v, 0, 0⟩, ⟨0, P1, 0⟩, q1⟩ = true := by simp [up, h1.up]
  rcases h with ⟨_, hi, _, hm, _⟩ | ⟨rfl, _, hi, _, _, hb⟩
  · have : i = 0 ∨ i = 1 := by simp [SX] at hi; omega
    rcases this with rfl | rfl
    · exact absurd (show mayR tag ⟨0, 1, ⟨0, u, 0, 0⟩, ⟨0, P0, 0⟩, q0⟩ = true from hm) (by simp [mayR, byReserve])
    · exact absurd (show mayR tag ⟨1, 1, ⟨0, v, 0, 0⟩, ⟨0, P1, 0⟩, q1⟩ = true from hm) (by simp [mayR, byReserve])
  · refine ⟨rfl, ?_⟩
    have : i = 0 ∨ i = 1 := by simp [SX] at hi; omega
    rcases this with rfl | rfl
    · have := hb ⟨1, 1, ⟨0, v, 0, 0⟩, ⟨0, P1, 0⟩, q1⟩ (by simp [SX]) u1 m1
      left
      refine ⟨rfl, ?_⟩
      simp [SX, kP] at this
      omega
    · have := hb ⟨0, 1, ⟨0, u, 0, 0⟩, ⟨0, P0, 0⟩, q0⟩ (by simp [SX]) u0 m0
      right
      refine ⟨rfl, ?_⟩
      simp [SX, kP] at this
      omega
theorem share_may {u v P0 P1 tag : Int} {q0 q1 : List It} (hu : 1 ≤ u) (hu8 : u ≤ 8) (h0 : QOk q0) : ¬ ∀ f ∈ SX u v P0 P1 q0 q1, up f = true → mayL tag f = false := by
  intro h
  have := h ⟨0, 1, ⟨0, u, 0, 0⟩, ⟨0, P0, 0⟩, q0⟩ (by simp [SX]) (by simp [up, h0.up])
  simp [mayL, byLimit, right_w hu hu8] at this
/-- the shares, reckoned -/
theorem share_end {u v c0 c1 : Int} (hu : 1 ≤ u) (hu8 : u ≤ 8) (hv : 1 ≤ v) (hv8 : v ≤ 8) (h0 : 0 ≤ c0) (h1 : 0 ≤ c1) (h : c0 + c1 ≤ 200) (ha : c0 * (67108864 / u) ≤ c1 * (67108864 / v) + 67108864 / u) (hb : c1 * (67108864 / v) ≤ c0 * (67108864 / u) + 67108864 / v) :
    c0 * v - c1 * u ≤ u + v ∧ -u - v ≤ c0 * v - c1 * u := by
  have eu : u = 1 ∨ u = 2 ∨ u = 3 ∨ u = 4 ∨ u = 5 ∨ u = 6 ∨ u = 7 ∨ u = 8 := by omega
  have ev : v = 1 ∨ v = 2 ∨ v = 3 ∨ v = 4 ∨ v = 5 ∨ v = 6 ∨ v = 7 ∨ v = 8 := by omega
  rcases eu with rfl | rfl | rfl | rfl | rfl | rfl | rfl | rfl <;> rcases ev with rfl | rfl | rfl | rfl | rfl | rfl | rfl | rfl <;> simp only [Int.reduceDiv] at ha hb <;> omega
/-- the state of SchedShares: c0, c1 picked -/
structure Shr (W wr : World) (b ps : Nat) (u v : Int) (c0 c1 : Nat) (q0 q1 : List It) : Prop where
  s : Sch W [(b, 46, #[.int .i64 c0, .int .i64 c1])] wr ps (SX u v (c0 * (67108864 / u)) (c1 * (67108864 / v)) q0 q1)
  o0 : QOk q0
  o1 : QOk q1
  a : (c0 : Int) * (67108864 / u) ≤ c1 * (67108864 / v) + 67108864 / u
  b : (c1 : Int) * (67108864 / v) ≤ c0 * (67108864 / u) + 67108864 / v
theorem steps_bd {u : Int} (hu : 1 ≤ u) {c : Nat} (hc : c ≤ 199) : 0 ≤ (c : Int) * (67108864 / u) ∧ (c : Int) * (67108864 / u) ≤ 13421772800 := by
  obtain ⟨a0, a1⟩ := quo_bd hu
  have h0 : 0 ≤ (c : Int) * (67108864 / u) := Int.mul_nonneg (by omega) a0
  have h1 : (c : Int) * (67108864 / u) ≤ 199 * 67108864 := Int.mul_le_mul (by omega) a1 a0 (by decide)
  exact ⟨h0, by omega⟩
theorem succ_mul' (c : Nat) (s : Int) : ((c + 1 : Nat) : Int) * s = c * s + s := by
  rw [Int.natCast_add, Int.add_mul]; simp
set_option maxHeartbeats 8000000 in
set_option maxRecDepth 100000 in
/-- THE WALK of SchedShares: whatever comes in, it answers true, and nothing that was there turns. -/
theorem schedShares_walk {H : Type} {enc : TypeId × Value → H} (W : World) (base : Nat) (v0 v1 v2 : Value) (d0 d1 d2 : DataW H) (p0 p1 p2 : List MemPlace)
    (ok0 : Value.okWide Try.prog W .any base 5 v0) (h0 : DataW.Trod enc Try.prog W 0 (fun _ => true) true 5 v0 d0 p0)
    (ok1 : Value.okWide Try.prog W .any base 5 v1) (h1 : DataW.Trod enc Try.prog W 0 (fun _ => true) true 5 v1 d1 p1)
    (ok2 : Value.okWide Try.prog W .any base 5 v2) (h2 : DataW.Trod enc Try.prog W 0 (fun _ => true) true 5 v2 d2 p2) :
    Calls Try.prog 5 #[v0, v1, v2] W fun e w' => e = .returned (.bool true) ∧ Below W.heap.size W w' := by
  obtain ⟨a, rfl, rfl, rfl, wa⟩ := open_int Try.underlying5 ok0 h0
  obtain ⟨b', rfl, rfl, rfl, wb⟩ := open_int Try.underlying5 ok1 h1
  obtain ⟨n, rfl, rfl, rfl, wn⟩ := open_int Try.underlying5 ok2 h2
  obtain ⟨a0, a1⟩ := bounds_u8 wa
  obtain ⟨b0, b1⟩ := bounds_u8 wb
  obtain ⟨n0, n1⟩ := bounds_u8 wn
  clear ok0 h0 wa ok1 h1 wb ok2 h2 wn
  have HN := hide (snew_s (Inv.refl W))
  go_enter Try.func5, Try.ntmps5
  go_wp2_with fail
  refine HN.out.mono ?_
  rintro e w1 ⟨ps, rfl, h1⟩
  have H1 := hide h1
  clear h1 HN
  go_wp2_with fail
  obtain ⟨u, hu⟩ : ∃ u, 1 + a % 8 = u := ⟨_, rfl⟩
  obtain ⟨v, hv⟩ : ∃ v, 1 + b' % 8 = v := ⟨_, rfl⟩
  have u1 : 1 ≤ u := by omega
  have u8 : u ≤ 8 := by omega
  have v1 : 1 ≤ v := by omega
  have v8 : v ≤ 8 := by omega
  rw [hu, hv]
  clear hu hv a0 a1 b0 b1
  refine (set_new_s 0 1 ⟨0, u, 0, 0⟩ H1.out (by simp) (by simp) (by decide) (by decide) (by decide) (right_w u1 u8)).mono ?_
  rintro e w2 ⟨rfl, h2⟩
  have H2 := hide (set_new_s 1 1 ⟨0, v, 0, 0⟩ h2 (by simp) (by simp) (by decide) (by decide) (by decide) (right_w v1 v8))
  clear h2 H1
  go_wp2_with fail
  refine H2.out.mono ?_
  rintro e w3 ⟨rfl, h3⟩
  have H3 := hide (fill_calls 0 ⟨0, 1, ⟨0, u, 0, 0⟩, ⟨0, 0, 0⟩, []⟩ 0 0 h3 (by simp) (by simp) rfl rfl rfl)
  clear h3 H2
  go_wp2_with fail
  refine H3.out.mono ?_
  rintro e w4 ⟨rfl, h4⟩
  have H4 := hide (fill_calls 1 ⟨1, 1, ⟨0, v, 0, 0⟩, ⟨0, 0, 0⟩, []⟩ 1 0 h4 (by simp) (by simp) rfl rfl rfl)
  clear h4 H3
  go_wp2_with fail
  refine H4.out.mono ?_
  rintro e w5 ⟨rfl, h5⟩
  have h5' : Sch W [] w5 ps (SX u v 0 0 (its 3) (its 3)) := h5
  have h6 : Sch W [(w5.heap.size, 46, #[.int .i64 ((0 : Nat) : Int), .int .i64 ((0 : Nat) : Int)])] (w5.alloc (.cells #[.int .i64 ((0 : Nat) : Int), .int .i64 ((0 : Nat) : Int)] 46)) ps (SX u v (((0 : Nat) : Int) * (67108864 / u)) (((0 : Nat) : Int) * (67108864 / v)) (its 3) (its 3)) := by
    have := h5'.new (b := w5.heap.size) (t := 46) (cs := #[.int .i64 ((0 : Nat) : Int), .int .i64 ((0 : Nat) : Int)]) rfl
    simpa using this
  obtain ⟨b, hb⟩ : ∃ b, w5.heap.size = b := ⟨_, rfl⟩
  have h7 : Shr W (w5.alloc (.cells #[.int .i64 0, .int .i64 0] 46)) b ps u v 0 0 (its 3) (its 3) := ⟨by rw [← hb]; exact h6, QOk.its, QOk.its, by have := quo_bd u1; have := quo_bd v1; simp; omega, by have := quo_bd u1; have := quo_bd v1; simp; omega⟩
  have H7 := hide h7
  have hWb : W.heap.size ≤ b := by rw [← hb]; exact h5'.base.size
  clear h5 h5' h6 h7 H4
  go_wp2_with fail

  go_loopw [11, 12, 13, 14, 15] (fun i _ _ _ _ wr => ∃ (k c0 c1 : Nat) (q0 q1 : List It), (k : Int) ≤ n % 200 ∧ i = .int .i64 k ∧ c0 + c1 = k ∧ Shr W wr b ps u v c0 c1 q0 q1) (fun i _ _ _ _ _ => 200 - (intOf i).toNat)
  case atStart => exact ⟨0, 0, 0, its 3, its 3, by omega, rfl, rfl, H7.out⟩
  case round =>
    obtain ⟨k, c0, c1, q0, q1, hk, rfl, hc, hs⟩ := hrel
    have HS := hide hs
    by_cases hlt : (k : Int) < n % 200
    · have HPK := hide (pick_s 0 hs.s (by simp [SX]))
      have hk2 : k ≤ 198 := by omega
      clear hs
      go_wp2_with fail
      refine HPK.out.mono ?_
      rintro e w3 (⟨rfl, hn, _⟩ | ⟨i, phase, f, x, rest, hp, ⟨hi, hf⟩, hqf, rfl, h2⟩)
      · exact absurd hn (share_may u1 u8 HS.out.o0)
      obtain ⟨rfl, ⟨rfl, hle⟩ | ⟨rfl, hle⟩⟩ := share_pick u1 u8 v1 v8 HS.out.o0 HS.out.o1 hp
      · obtain rfl : (⟨0, 1, ⟨0, u, 0, 0⟩, ⟨0, c0 * (67108864 / u), 0⟩, q0⟩ : Fl) = f := hf
        have hq0 := HS.out.o0
        have hqq : q0 = x :: rest := hqf
        clear hp hqf hi HPK
        -- the flow 0 was picked; h2: the scheduler behind it, at w3
        have hst := hq0.step hqq
        have hd := hst.2.2.2
        have hbd := steps_bd (u := u) u1 (c := c0) (by omega)
        have h2' : Sch W [(b, 46, #[.int .i64 c0, .int .i64 c1])] w3 ps (SX u v (c0 * (67108864 / u) + 67108864 / u) (c1 * (67108864 / v)) rest q1) := by
          have e := charge_w (u := u) (P := c0 * (67108864 / u)) (tag := at_ 0) u1 u8 hbd.1 hbd.2
          have h2b := h2
          unfold popped at h2b
          rw [hd.1, hd.2, e] at h2b
          exact h2b
        have h3 := h2'.alloc (.cells #[.int .i64 x.name, .int .i64 x.delta, .int .i64 x.rho] 36)
        have HP := hide (push_more_s (L := [(b, 46, #[.int .i64 c0, .int .i64 c1])]) 0 ⟨0, 1, ⟨0, u, 0, 0⟩, ⟨0, c0 * (67108864 / u) + 67108864 / u, 0⟩, rest⟩ 0 0 ⟨0, 0, 0⟩ h3 (by simp [SX]) (by simp [SX]) rfl rfl hst.2.1 hst.2.2.1)
        have HST := hide hst
        have HPICK := hide hle
        clear h2 h2' h3 hst hd hqq hbd hle
        go_wp2_with fail
        refine HP.out.mono ?_
        rintro e w4 ⟨rfl, h4⟩
        have d0 : w4.cell? ⟨b, 0, none⟩ = some (.int .i64 c0) := h4.inv.cell (List.Mem.head _) 0
        have d1 : w4.cell? ⟨b, 1, none⟩ = some (.int .i64 c1) := h4.inv.cell (List.Mem.head _) 1
        have f0 : w4.frozen? ⟨b, 0, none⟩ = false := h4.inv.frozen (List.Mem.head _) 0
        have f1 : w4.frozen? ⟨b, 1, none⟩ = false := h4.inv.frozen (List.Mem.head _) 1
        have e1 : IntKind.i64.wrap ((c0 : Int) + 1) = (c0 : Int) + 1 := IntWalk.i64_in _ (by omega)
        have H4 := hide h4
        clear h4 HP
        go_wp2
        go_roundw
        case rel =>
          refine ⟨k + 1, c0 + 1, c1, rest ++ [⟨0, 0, 0⟩], q1, by omega, by go_num, by omega, ⟨?_, HST.out.1, HS.out.o1, ?_, ?_⟩⟩
          · rw [succ_mul']
            exact H4.out.set hWb (by simp) 0 (.int .i64 ((c0 + 1 : Nat) : Int))
          · rw [succ_mul']; have := HPICK.out; omega
          · rw [succ_mul']; have := HS.out.b; have := (quo_bd u1).1; omega
        case measure => simp [intOf]; omega
      · obtain rfl : (⟨1, 1, ⟨0, v, 0, 0⟩, ⟨0, c1 * (67108864 / v), 0⟩, q1⟩ : Fl) = f := hf
        have hq0 := HS.out.o1
        have hqq : q1 = x :: rest := hqf
        clear hp hqf hi HPK
        -- the flow 1 was picked; h2: the scheduler behind it, at w3
        have hst := hq0.step hqq
        have hd := hst.2.2.2
        have hbd := steps_bd (u := v) v1 (c := c1) (by omega)
        have h2' : Sch W [(b, 46, #[.int .i64 c0, .int .i64 c1])] w3 ps (SX u v (c0 * (67108864 / u)) (c1 * (67108864 / v) + 67108864 / v) q0 rest) := by
          have e := charge_w (u := v) (P := c1 * (67108864 / v)) (tag := at_ 0) v1 v8 hbd.1 hbd.2
          have h2b := h2
          unfold popped at h2b
          rw [hd.1, hd.2, e] at h2b
          exact h2b
        have h3 := h2'.alloc (.cells #[.int .i64 x.name, .int .i64 x.delta, .int .i64 x.rho] 36)
        have HP := hide (push_more_s (L := [(b, 46, #[.int .i64 c0, .int .i64 c1])]) 1 ⟨1, 1, ⟨0, v, 0, 0⟩, ⟨0, c1 * (67108864 / v) + 67108864 / v, 0⟩, rest⟩ 1 0 ⟨0, 0, 0⟩ h3 (by simp [SX]) (by simp [SX]) rfl rfl hst.2.1 hst.2.2.1)
        have HST := hide hst
        have HPICK := hide hle
        clear h2 h2' h3 hst hd hqq hbd hle
        go_wp2_with fail
        refine HP.out.mono ?_
        rintro e w4 ⟨rfl, h4⟩
        have d0 : w4.cell? ⟨b, 0, none⟩ = some (.int .i64 c0) := h4.inv.cell (List.Mem.head _) 0
        have d1 : w4.cell? ⟨b, 1, none⟩ = some (.int .i64 c1) := h4.inv.cell (List.Mem.head _) 1
        have f0 : w4.frozen? ⟨b, 0, none⟩ = false := h4.inv.frozen (List.Mem.head _) 0
        have f1 : w4.frozen? ⟨b, 1, none⟩ = false := h4.inv.frozen (List.Mem.head _) 1
        have e1 : IntKind.i64.wrap ((c1 : Int) + 1) = (c1 : Int) + 1 := IntWalk.i64_in _ (by omega)
        have H4 := hide h4
        clear h4 HP
        go_wp2
        go_roundw
        case rel =>
          refine ⟨k + 1, c0, c1 + 1, q0, rest ++ [⟨0, 0, 0⟩], by omega, by go_num, by omega, ⟨?_, HS.out.o0, HST.out.1, ?_, ?_⟩⟩
          · rw [succ_mul']
            exact H4.out.set hWb (by simp) 1 (.int .i64 ((c1 + 1 : Nat) : Int))
          · rw [succ_mul']; have := HS.out.a; have := (quo_bd v1).1; omega
          · rw [succ_mul']; have := HPICK.out; omega
        case measure => simp [intOf]; omega
    · have d0 : wr.cell? ⟨b, 0, none⟩ = some (.int .i64 c0) := hs.s.inv.cell (List.Mem.head _) 0
      have d1 : wr.cell? ⟨b, 1, none⟩ = some (.int .i64 c1) := hs.s.inv.cell (List.Mem.head _) 1
      have bI := hs.s.base
      obtain ⟨g1, g2⟩ := share_end u1 u8 v1 v8 (c0 := c0) (c1 := c1) (by omega) (by omega) (by omega) hs.a hs.b
      have m0 : 0 ≤ (c0 : Int) * v ∧ (c0 : Int) * v ≤ 1600 := ⟨Int.mul_nonneg (by omega) (by omega), Int.le_trans (Int.mul_le_mul (show (c0 : Int) ≤ 200 by omega) v8 (by omega) (by decide)) (by decide)⟩
      have m1 : 0 ≤ (c1 : Int) * u ∧ (c1 : Int) * u ≤ 1600 := ⟨Int.mul_nonneg (by omega) (by omega), Int.le_trans (Int.mul_le_mul (show (c1 : Int) ≤ 200 by omega) u8 (by omega) (by decide)) (by decide)⟩
      have e1 : IntKind.i64.wrap ((c0 : Int) * v) = (c0 : Int) * v := IntWalk.i64_in _ (by omega)
      have e2 : IntKind.i64.wrap ((c1 : Int) * u) = (c1 : Int) * u := IntWalk.i64_in _ (by omega)
      have e3 : IntKind.i64.wrap ((c0 : Int) * v - c1 * u) = (c0 : Int) * v - c1 * u := IntWalk.i64_in _ (by omega)
      have e4 : IntKind.i64.wrap (u + v) = u + v := IntWalk.i64_in _ (by omega)
      have e5 : IntKind.i64.wrap (-u) = -u := IntWalk.i64_in _ (by omega)
      have e6 : IntKind.i64.wrap (-u - v) = -u - v := IntWalk.i64_in _ (by omega)
      clear hs HS m0 m1
      go_wp2_with fail
      trace_state
      refine (awake12_calls _).mono ?_
      rintro e wa ⟨rfl, hba⟩
      go_wp2
      go_ret
      exact ⟨rfl, bI.trans (hba.mono bI.size)⟩
end Go.Proofs.Ytjdkafamaoeifaa
