/- The law RlogMatch of layer 14: for every input it answers true. No conditions. -/
import Derived.Test.YtjdgkdaebkflpaaLaw14
namespace Go.Proofs.Ytjdgkdaebkflpaa
open Go.ChangeShapes Go.WideShapes Go.ChangeAt Go.RowKit Go.Joins
set_option linter.unusedVariables false
set_option maxRecDepth 100000

theorem Try.cellsByte : Try.prog.cellsOf 5 = 1 := by kernel_rfl
theorem entOk_one {w : World} {B : Nat} {t k x : Int} (hB : Blk w B 5 [.int .u8 x]) (h0 : 0 ≤ x) (h1 : x ≤ 255) : EntOk w ⟨t, k, some ⟨B, 0, none⟩, 1, [x]⟩ :=
  ⟨Nat.le_refl 1, (by unfold maxLen; show 1 ≤ 2 ^ 63 - 1; decide), (fun y hy => by rw [List.mem_singleton.1 hy]; exact ⟨h0, h1⟩), (fun a ha => by cases ha; rfl), fun _ => ⟨B, 0, rfl, ⟨_, _, hB⟩, fun j y hy => by
    match j, hy with
    | 0, hy => cases hy; exact hB.cell 0⟩⟩
theorem Blk.reads {w : World} {B : Nat} {t : TypeId} {cs : List Value} (hB : Blk w B t cs) {size n : Nat} (h : cs.length = n * size) : Reads w w.heap.size size (some ⟨B, 0, none⟩) n cs :=
  ⟨h, fun _ => ⟨B, 0, rfl, hB.lt, fun j u hu => by rw [Nat.zero_add]; exact (hB.cell j).trans hu⟩⟩
theorem u8_small {k : Nat} (h : k < 256) : IntKind.u8.wrap (k : Int) = k := IntWalk.u8_in _ (by omega)
set_option maxHeartbeats 4000000 in
/-- THE WALK of RlogMatch: whatever comes in, it answers true, and nothing that was there turns. -/
theorem rlogMatch_walk {H : Type} {enc : TypeId × Value → H} (W : World) (base : Nat) (v0 v1 v2 : Value) (d0 d1 d2 : DataW H) (p0 p1 p2 : List MemPlace)
    (ok0 : Value.okWide Try.prog W .any base 34 v0) (h0 : DataW.Trod enc Try.prog W 0 (fun _ => true) true 34 v0 d0 p0)
    (ok1 : Value.okWide Try.prog W .any base 34 v1) (h1 : DataW.Trod enc Try.prog W 0 (fun _ => true) true 34 v1 d1 p1)
    (ok2 : Value.okWide Try.prog W .any base 34 v2) (h2 : DataW.Trod enc Try.prog W 0 (fun _ => true) true 34 v2 d2 p2) :
    Calls Try.prog 5 #[v0, v1, v2] W fun e w' => e = .returned (.bool true) ∧ Below W.heap.size W w' := by
  obtain ⟨A0, c0, xs, rfl, l0, m0, f0, R0⟩ := open_intsR Try.underlying34 Try.underlying5 Try.cellsByte ok0 h0
  obtain ⟨A1, c1, as_, rfl, l1, m1, f1, R1⟩ := open_intsR Try.underlying34 Try.underlying5 Try.cellsByte ok1 h1
  obtain ⟨A2, c2, bs, rfl, l2, m2, f2, R2⟩ := open_intsR Try.underlying34 Try.underlying5 Try.cellsByte ok2 h2
  clear ok0 ok1 ok2 h0 h1 h2
  unfold maxLen at m0 m1 m2
  have F0 : ∀ x ∈ xs, 0 ≤ x ∧ x ≤ 255 := fun x hx => bounds_u8 (f0 x hx)
  have F1 : ∀ x ∈ as_, 0 ≤ x ∧ x ≤ 255 := fun x hx => bounds_u8 (f1 x hx)
  have F2 : ∀ x ∈ bs, 0 ≤ x ∧ x ≤ 255 := fun x hx => bounds_u8 (f2 x hx)
  have G0 := hide F0
  have G1 := hide F1
  have G2 := hide F2
  clear f0 f1 f2 F0 F1 F2
  by_cases n0 : xs.length ≤ 20
  · by_cases n1 : as_.length ≤ 30
    · by_cases n2 : bs.length ≤ 30
      · have HR0 := hide R0
        have HR1 := hide R1
        have HR2 := hide R2
        clear R0 R1 R2
        have d0 : decide ((20 : Int) < xs.length) = false := decide_eq_false (by omega)
        have d1 : decide ((30 : Int) < as_.length) = false := decide_eq_false (by omega)
        have d2 : decide ((30 : Int) < bs.length) = false := decide_eq_false (by omega)
        go_enter Try.func5, Try.ntmps5
        go_wp2_with fail
        with_reducible refine (lg_new _ _ _ (by decide) (by decide)).mono ?_
        rintro e w1 ⟨p1, rfl, L1, q1, b1⟩
        go_wp2_with fail
        with_reducible refine (lg_new _ _ _ (by decide) (by decide)).mono ?_
        rintro e w2 ⟨p2, rfl, L2, q2, b2⟩
        go_wp2_with fail
        with_reducible refine (lg_new _ _ _ (by decide) (by decide)).mono ?_
        rintro e w3 ⟨p3, rfl, L3, q3, b3⟩
        have s1 := L1.lt p1 (by simp)
        have s2 := L2.lt p2 (by simp)
        have s3 := L3.lt p3 (by simp)
        have M1 : LG w3 p1 0 0 [] [p1] := (L1.below b2).below b3
        have M2 : LG w3 p2 0 0 [] [p2] := L2.below b3
        have B3 : Below W.heap.size W w3 := (b1.trans (b2.mono b1.size)).trans (b3.mono (Nat.le_trans b1.size b2.size))
        have z1 := b2.size
        have z2 := b3.size
        clear L1 L2 b1 b2 b3
        clear d0 d1 d2
        go_wp2
        go_loopw [10, 11] (fun tv i wr => ∃ (j : Nat) (t : Int) (P : List Con) (F : List Nat), j ≤ xs.length ∧ i = .int .i64 j ∧ tv = .int .i64 t ∧ 0 ≤ t ∧ t ≤ 1 + j ∧ P.length = j ∧ FewC P ∧ LG wr p1 0 0 P F ∧ Chg [p1] w3 wr ∧ Grew w3 [p1] F) (fun _ i _ => xs.length - (intOf i).toNat)
        case atStart => exact ⟨0, 1, [], [p1], Nat.zero_le _, rfl, rfl, by decide, by decide, rfl, (fun c hc => by cases hc), M1, Chg.refl _ _, fun g hg => Or.inl hg⟩
        case round =>
          obtain ⟨j, t, P, F, hj, rfl, rfl, t0, t1, hPl, hPf, hL, hC, hG⟩ := hrel
          by_cases hlt : j < xs.length
          · obtain ⟨b, o, rfl, hbB, hcell⟩ := HR0.out.at_ (by omega)
            have hcj : wr.cell? ⟨b, o + j, none⟩ = some (.int .u8 xs[j]) := (hC.cell (p := ⟨b, o + j, none⟩) (Nat.lt_of_lt_of_le hbB B3.size) (by simp; omega)).trans ((B3.cell (p := ⟨b, o + j, none⟩) hbB).trans (hcell j _ (by simp [hlt])))
            obtain ⟨v0, v1⟩ := G0.out _ (List.getElem_mem hlt)
            obtain ⟨v, hvv⟩ : ∃ v, xs[j] = v := ⟨_, rfl⟩
            rw [hvv] at hcj v0 v1
            have hu := u8_small (k := j) (by omega)
            have HPL := hide hPl
            clear hvv hcell hPl
            go_wp2_with fail
            have hL1 := hL.below ((Below.refl _ _).alloc (Nat.le_refl _) (.cells #[.int .u8 j] 5))
            have hok : EntOk (wr.alloc (.cells #[.int .u8 j] 5)) ⟨t + v % 2, 0, some ⟨wr.heap.size, 0, none⟩, 1, [(j : Int)]⟩ := entOk_one (Blk.new (cs := [.int .u8 j]) rfl) (by omega) (by omega)
            refine (lg_push ⟨t + v % 2, 0, some ⟨wr.heap.size, 0, none⟩, 1, [(j : Int)]⟩ hL1 hok (by decide) (by decide) (by rw [HPL.out]; omega) (by show 1 ≤ 1048576; decide)).mono ?_
            rintro e w4 ⟨F', rfl, hL4, hC4, hG4⟩
            have hC5 : Chg [p1] w3 w4 := (hC.alloc _).trans hC4 (fun z hz => (hG z hz))
            have hG5 : Grew w3 [p1] F' := fun z hz => by
              rcases hG4 z hz with h | h
              · exact hG z h
              · have := hC.size
                simp at h
                exact Or.inr (by omega)
            clear hL1 hok hC4 hG4 hL hC hG hcj
            go_wp2
            go_roundw
            case rel => exact ⟨j + 1, t + v % 2, _, F', by omega, by go_num, rfl, by omega, by omega, by rw [List.length_append, HPL.out]; rfl, (fun c hc => by rcases List.mem_append.1 hc with h | h; exact hPf c h; rw [List.mem_singleton.1 h]; show 1 ≤ 1048576; decide), hL4, hC5, hG5⟩
            case measure => simp [intOf]; omega
          · have e : j = xs.length := by omega
            subst e
            clear hlt
            have HPL := hide hPl
            clear hPl
            have g1 : ∀ x ∈ F, x ∉ [p2] := fun x hx h => by
              rw [List.mem_singleton.1 h] at hx
              rcases hG _ hx with h5 | h5
              · have := List.mem_singleton.1 h5; omega
              · omega
            have g2 : ∀ x ∈ F, x ∉ [p3] := fun x hx h => by
              rw [List.mem_singleton.1 h] at hx
              rcases hG _ hx with h5 | h5
              · have := List.mem_singleton.1 h5; omega
              · omega
            have X4 : LG wr p2 0 0 (P.take 0) [p2] := M2.keep hC (fun x hx h => by have := List.mem_singleton.1 hx; have := List.mem_singleton.1 h; omega) M1.noByte
            have Y4 : LG wr p3 0 0 (P.take 0) [p3] := L3.keep hC (fun x hx h => by have := List.mem_singleton.1 hx; have := List.mem_singleton.1 h; omega) M1.noByte
            have B4 : Below W.heap.size W wr := Chg.onto B3 B3.size hC (fun x hx => by rw [List.mem_singleton.1 hx]; exact q1)
            have z3 := hC.size
            clear hC M1 M2 L3
            have hr1 : ∀ w', Below W.heap.size W w' → Reads w' w'.heap.size 1 A1 as_.length (as_.map (Value.int .u8)) := fun w' hb => (HR1.out.below hb).more hb.size
            have hr2 : ∀ w', Below W.heap.size W w' → Reads w' w'.heap.size 1 A2 bs.length (bs.map (Value.int .u8)) := fun w' hb => (HR2.out.below hb).more hb.size
            have K1 := hide hr1
            have K2 := hide hr2
            clear hr1 hr2
            have far : ∀ {A : Option Addr} {n : Nat} {vs : List Value} (h : Reads W W.heap.size 1 A n vs) (h0 : 0 < n) (g : Nat), A.map Addr.block = some g → g < W.heap.size := fun h h0 g hg => by
              obtain ⟨b, o, rfl, hb, _⟩ := h.2 h0
              cases hg
              exact hb
            go_wp2_with fail
            with_reducible refine (pieces_calls P p1 p2 F [p2] 0 as_ A1 c1 wr hL X4 (Nat.zero_le _) g1 (by rw [HPL.out]; exact n0) hPf (K1.out _ B4) G1.out n1 ?_).mono ?_
            · intro h0 g hg h
              have := far HR1.out h0 g hg
              have := List.mem_singleton.1 h
              omega
            rintro e w5 ⟨rfl, m5, Fx, hm5, X5, C5, H5⟩
            have L5 := hL.keep C5 g1 X4.noByte
            have Y5 : LG w5 p3 0 0 (P.take 0) [p3] := Y4.keep C5 (fun x hx h => by have := List.mem_singleton.1 hx; have := List.mem_singleton.1 h; omega) X4.noByte
            have B5 : Below W.heap.size W w5 := Chg.onto B4 B4.size C5 (fun x hx => by rw [List.mem_singleton.1 hx]; omega)
            have d5 : ∀ x ∈ Fx, x ∉ [p3] := fun x hx h => by
              rw [List.mem_singleton.1 h] at hx
              rcases H5 _ hx with h5 | h5
              · have := List.mem_singleton.1 h5; omega
              · have := Y4.lt p3 (by simp); omega
            clear C5 H5 X4 hL
            go_wp2_with fail
            with_reducible refine (pieces_calls P p1 p3 F [p3] 0 bs A2 c2 w5 L5 Y5 (Nat.zero_le _) g2 (by rw [HPL.out]; exact n0) hPf (K2.out _ B5) G2.out n2 ?_).mono ?_
            · intro h0 g hg h
              have := far HR2.out h0 g hg
              have := List.mem_singleton.1 h
              omega
            rintro e w6 ⟨rfl, m6, Fy, hm6, Y6, C6, H6⟩
            have L6 := L5.keep C6 g2 Y5.noByte
            have X6 := X5.keep C6 d5 Y5.noByte
            have B6 : Below W.heap.size W w6 := Chg.onto B5 B5.size C6 (fun x hx => by rw [List.mem_singleton.1 hx]; omega)
            clear C6 H6 X5 Y5 L5 Y4 d5 g1 g2 hG far
            go_wp2_with fail
            with_reducible refine (lg_last X6 (by decide) (by decide) (by have := List.length_take_le m5 P; have := HPL.out; omega)).mono ?_
            rintro e w7 ⟨rfl, n7, hw7⟩
            have X7 : LG w7 p2 0 0 (P.take m5) Fx := by rw [hw7]; exact X6.drewN _
            have Y7 : LG w7 p3 0 0 (P.take m6) Fy := by rw [hw7]; exact Y6.drewN _
            have L7 : LG w7 p1 0 0 P F := by rw [hw7]; exact L6.drewN _
            have B7 : Below W.heap.size W w7 := by rw [hw7]; exact below_drewN B6 _
            have e5 : (0 : Int) + (P.take m5).length = m5 := by rw [List.length_take]; omega
            have e6 : (0 : Int) + (P.take m6).length = m6 := by rw [List.length_take]; omega
            have e7 : (0 : Int) + P.length = xs.length := by rw [HPL.out]; omega
            have E5 := hide e5
            have E6 := hide e6
            have E7 := hide e7
            rw [e5]
            obtain ⟨u1, hu1⟩ : ∃ u, ((P.take m5).getLast?.map (·.1)).getD (0 : Int) = u := ⟨_, rfl⟩
            rw [hu1]
            clear hw7 X6 Y6 L6 B6 e5 e6 e7 hu1
            go_wp2_with fail
            with_reducible refine (lg_last Y7 (by decide) (by decide) (by have := List.length_take_le m6 P; have := HPL.out; omega)).mono ?_
            rintro e w8 ⟨rfl, n8, hw8⟩
            have X8 : LG w8 p2 0 0 (P.take m5) Fx := by rw [hw8]; exact X7.drewN _
            have Y8 : LG w8 p3 0 0 (P.take m6) Fy := by rw [hw8]; exact Y7.drewN _
            have L8 : LG w8 p1 0 0 P F := by rw [hw8]; exact L7.drewN _
            have B8 : Below W.heap.size W w8 := by rw [hw8]; exact below_drewN B7 _
            rw [E6.out]
            obtain ⟨u2, hu2⟩ : ∃ u, ((P.take m6).getLast?.map (·.1)).getD (0 : Int) = u := ⟨_, rfl⟩
            rw [hu2]
            clear hw8 X7 Y7 L7 B7 hu2
            have hPx := HPL.out
            have hm5' : m5 ≤ xs.length := by omega
            have hm6' : m6 ≤ xs.length := by omega
            have HP2 := hide hPx
            clear hPx
            go_wp2
            go_loopw [16] (fun i wr => ∃ k : Nat, (k ≤ m5 ∧ k ≤ m6) ∧ i = .int .i64 ((k : Int) + 1) ∧ Below w8.heap.size w8 wr) (fun i _ => xs.length + 1 - (intOf i).toNat)
            case atStart => exact ⟨0, ⟨Nat.zero_le _, Nat.zero_le _⟩, rfl, Below.refl _ _⟩
            case round =>
              obtain ⟨k, ⟨hk5, hk6⟩, rfl, hb⟩ := hrel
              by_cases ha : k < m5
              · by_cases hb' : k < m6
                · have hkP : k < P.length := by have := HP2.out; omega
                  have e5 : (P.take m5)[k]'(by rw [List.length_take]; omega) = P[k] := List.getElem_take
                  have e6 : (P.take m6)[k]'(by rw [List.length_take]; omega) = P[k] := List.getElem_take
                  go_wp2_with fail
                  with_reducible refine (lg_get k (X8.below hb) (by rw [List.length_take]; omega) (hPf.take _) (by decide) (by decide) (by have := List.length_take_le m5 P; have := HPL.out; omega) (by omega)).mono ?_
                  rintro e w9 ⟨x, rfl, hxc, hxo, hb9⟩
                  rw [e5] at hxc
                  have R9 : Below w8.heap.size w8 w9 := hb.trans (hb9.mono hb.size)
                  clear hb9
                  go_wp2_with fail
                  have R10 : Below w8.heap.size w8 (w9.alloc (.cells #[.int .i64 x.t, .int .i64 x.k, .slice x.A x.b.length x.c] 39)) := R9.alloc R9.size _
                  with_reducible refine (lg_get k (Y8.below R10) (by rw [List.length_take]; omega) (hPf.take _) (by decide) (by decide) (by have := List.length_take_le m6 P; have := HPL.out; omega) (by omega)).mono ?_
                  rintro e w11 ⟨y, rfl, hyc, hyo, hb11⟩
                  rw [e6] at hyc
                  have hxo2 := (hxo.below ((Below.refl _ _).alloc (Nat.le_refl _) (.cells x.cells.toArray 39))).below hb11
                  have Bx := (Blk.new (w := w9) (cs := x.cells) (t := 39) rfl).below hb11
                  have R11 : Below w8.heap.size w8 w11 := R10.trans (hb11.mono R10.size)
                  have x0 := Bx.cell 0
                  have x1 := Bx.cell 1
                  have x2 := Bx.cell 2
                  simp only [Ent.cells, List.getElem?_cons_zero, List.getElem?_cons_succ] at x0 x1 x2
                  have sx := Bx.lt
                  clear hb11 R10 R9 hxo e5 e6
                  have HXC := hide hxc
                  have HYC := hide hyc
                  clear hxc hyc
                  go_wp2_with fail
                  have wA := (Below.refl w11.heap.size w11).alloc (Nat.le_refl _) (.cells #[.int .i64 y.t, .int .i64 y.k, .slice y.A y.b.length y.c] 39)
                  have wB := wA.alloc wA.size (.cells #[.int .i64 x.t, .int .i64 x.k, .slice x.A x.b.length x.c] 39)
                  have wC := wB.alloc wB.size (.cells #[.int .i64 y.t, .int .i64 y.k, .slice y.A y.b.length y.c] 39)
                  have bx := ((Blk.new (w := w11.alloc (.cells #[.int .i64 y.t, .int .i64 y.k, .slice y.A y.b.length y.c] 39)) (b := w11.heap.size + 1) (cs := entCells [x]) (t := 39) (by simp)).alloc (.cells #[.int .i64 y.t, .int .i64 y.k, .slice y.A y.b.length y.c] 39)).reads (size := 3) (n := 1) rfl
                  have by_ := (Blk.new (w := (w11.alloc (.cells #[.int .i64 y.t, .int .i64 y.k, .slice y.A y.b.length y.c] 39)).alloc (.cells #[.int .i64 x.t, .int .i64 x.k, .slice x.A x.b.length x.c] 39)) (b := w11.heap.size + 1 + 1) (cs := entCells [y]) (t := 39) (by simp)).reads (size := 3) (n := 1) rfl
                  have fx : Few [x] := fun e he => by
                    rw [List.mem_singleton.1 he]
                    have h5 := hPf _ (List.getElem_mem hkP)
                    rw [← HXC.out] at h5
                    exact h5
                  refine (same14_calls [x] [y] 1 rfl rfl (some ⟨w11.heap.size + 1, 0, none⟩) (some ⟨w11.heap.size + 1 + 1, 0, none⟩) 1 1 _ bx by_ (fun e he => by rw [List.mem_singleton.1 he]; exact hxo2.below wC) (fun e he => by rw [List.mem_singleton.1 he]; exact hyo.below wC) (by simp only [cons, List.map_cons, List.map_nil]; rw [HXC.out, HYC.out]) (by decide) fx).mono ?_
                  rintro e w12 ⟨rfl, n12, hw12⟩
                  have R12 : Below w8.heap.size w8 w12 := by rw [hw12]; exact below_drewN (R11.trans (wC.mono R11.size)) _
                  clear hw12 bx by_ wA wB wC fx hxo2 hyo Bx x0 x1 x2 R11 sx
                  go_wp2
                  go_roundw
                  case rel => exact ⟨k + 1, ⟨by omega, by omega⟩, by go_num, R12⟩
                  case measure => simp [intOf]; omega
                · have t1 : (k : Int) + 1 ≤ m5 := by omega
                  have t2 : ¬ ((k : Int) + 1 ≤ m6) := by omega
                  go_wp2_with fail
                  with_reducible refine (lg_last (L8.below hb) (by decide) (by decide) (by have := HPL.out; omega)).mono ?_
                  rintro e w9 ⟨rfl, n9, hw9⟩
                  have R9 : Below w8.heap.size w8 w9 := by rw [hw9]; exact below_drewN hb _
                  rw [E7.out]
                  obtain ⟨u3, hu3⟩ : ∃ u, (P.getLast?.map (·.1)).getD (0 : Int) = u := ⟨_, rfl⟩
                  rw [hu3]
                  clear hw9 hu3
                  go_wp2_with fail
                  with_reducible refine (awake14_calls _).mono ?_
                  rintro e w10 ⟨rfl, hb10⟩
                  have R10 : Below W.heap.size W w10 := (B8.trans (R9.mono B8.size)).trans (hb10.mono (Nat.le_trans B8.size R9.size))
                  go_wp2
                  go_ret
                  exact ⟨rfl, R10⟩
              · have t1 : ¬ ((k : Int) + 1 ≤ m5) := by omega
                go_wp2_with fail
                with_reducible refine (lg_last (L8.below hb) (by decide) (by decide) (by have := HPL.out; omega)).mono ?_
                rintro e w9 ⟨rfl, n9, hw9⟩
                have R9 : Below w8.heap.size w8 w9 := by rw [hw9]; exact below_drewN hb _
                rw [E7.out]
                obtain ⟨u3, hu3⟩ : ∃ u, (P.getLast?.map (·.1)).getD (0 : Int) = u := ⟨_, rfl⟩
                rw [hu3]
                clear hw9 hu3
                go_wp2_with fail
                with_reducible refine (awake14_calls _).mono ?_
                rintro e w10 ⟨rfl, hb10⟩
                have R10 : Below W.heap.size W w10 := (B8.trans (R9.mono B8.size)).trans (hb10.mono (Nat.le_trans B8.size R9.size))
                go_wp2
                go_ret
                exact ⟨rfl, R10⟩
      · have d0 : decide ((20 : Int) < xs.length) = false := decide_eq_false (by omega)
        have d1 : decide ((30 : Int) < as_.length) = false := decide_eq_false (by omega)
        have d2 : decide ((30 : Int) < bs.length) = true := decide_eq_true (by omega)
        go_enter Try.func5, Try.ntmps5
        go_wp2_with (go_at_call 18; with_reducible refine (awake14_calls _).mono ?_; rintro e w1 ⟨rfl, hb1⟩)
        go_ret
        exact ⟨rfl, hb1⟩
    · have d0 : decide ((20 : Int) < xs.length) = false := decide_eq_false (by omega)
      have d1 : decide ((30 : Int) < as_.length) = true := decide_eq_true (by omega)
      go_enter Try.func5, Try.ntmps5
      go_wp2_with (go_at_call 18; with_reducible refine (awake14_calls _).mono ?_; rintro e w1 ⟨rfl, hb1⟩)
      go_ret
      exact ⟨rfl, hb1⟩
  · have d0 : decide ((20 : Int) < xs.length) = true := decide_eq_true (by omega)
    go_enter Try.func5, Try.ntmps5
    go_wp2_with (go_at_call 18; with_reducible refine (awake14_calls _).mono ?_; rintro e w1 ⟨rfl, hb1⟩)
    go_ret
    exact ⟨rfl, hb1⟩
end Go.Proofs.Ytjdgkdaebkflpaa
