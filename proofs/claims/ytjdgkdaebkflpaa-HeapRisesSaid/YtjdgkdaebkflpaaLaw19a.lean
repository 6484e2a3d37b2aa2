/- The law PlaceFront of layer 19: for every input it answers true. No conditions. -/
import Derived.Test.YtjdgkdaebkflpaaPlace3
import Derived.Laws.AppendOwnNone
namespace Go.Proofs.Ytjdgkdaebkflpaa
open Go.ChangeShapes Go.WideShapes Go.ChangeAt Go.RowKit Go.Proofs Go.Joins
set_option linter.unusedVariables false
set_option maxRecDepth 100000

theorem app_from {P : Program} {ops : Array Oper} {rest : List Oper} {o : Oper} {a : Act} {Q : Exit → Act → World → Prop} {w : World} (hgd : o.guard = none) (s x : Operand) (t : TypeId)
    (ho : o.op = .call { callee := .builtin .append, args := #[s, x], argTypes := #[t, t] })
    (e : TypeId) (i : TypeInfo) (z : Value) (size bytes : Nat) (ht : P.underlying t = some (.slice e)) (hi : P.info? e = some i) (hz : i.zero = some z)
    (hsize : i.size = size) (hby : i.bytes = bytes) (hzs : z.cells.size = size) (hsz : 0 < size)
    (v : Value) (n : Nat) (xs : List Value) (hs : a.eval s = v) (hown : w.ownsRow 0 e size v n xs)
    (B m c : Nat) (cs : List Value) (hx : a.eval x = .slice (some ⟨B, 0, none⟩) m c) (hB : ∀ j u, cs[j]? = some u → w.cell? ⟨B, j, none⟩ = some u) (hl : cs.length = m * size) (h1 : ∀ u ∈ cs, u.oneCell' = true)
    (hm : 0 < m) (h63 : n + m ≤ maxLen) (hbytes : (n + m) * bytes ≤ 140737488355328)
    (h : ∀ g cap w', w'.ownsRow 0 e size (.slice (some ⟨g, 0, none⟩) (n + m) cap) (n + m) (xs ++ cs) → Chg v.ownBlock.toList w w' → (v.ownBlock = some g ∨ g = w.heap.size) → g < w'.heap.size →
      wpList P ops Q rest (a.put o.dst (.slice (some ⟨g, 0, none⟩) (n + m) cap)) w') : wpList P ops Q (o :: rest) a w :=
  wpList_append_lies w hgd s x t ho 0 e i z size bytes ht hi hz hsize hby hzs hsz v n xs hs hown ⟨B, 0, none⟩ m c cs hx hl (fun j u hu => by rw [add_addr, Nat.zero_add]; exact hB j u hu) h1 hm h63 hbytes (Nat.zero_le _) _ rfl
    fun g cap w' h2 h3 h4 h5 => h g cap w' h2 (Chg.of_grown h3) h4 h5
def ldOf (l : List Int) : List Ld := (List.range l.length).map fun (i : Nat) => ⟨(i : Int), l.getD i 0⟩
theorem ldOf_length (l : List Int) : (ldOf l).length = l.length := by simp [ldOf]
theorem ldOf_take (l : List Int) (k : Nat) (h : k < l.length) : (ldOf l).take (k + 1) = (ldOf l).take k ++ [⟨k, l[k]⟩] := by
  rw [List.take_succ_eq_append_getElem (by rw [ldOf_length]; exact h)]
  congr 1
  simp [ldOf, h]
theorem ldCells_snoc (xs : List Ld) (y : Ld) : ldCells xs ++ y.cells = ldCells (xs ++ [y]) := by simp [ldCells]
theorem ldCells_cons (xs : List Ld) (y : Ld) : y.cells ++ ldCells xs = ldCells (y :: xs) := by simp [ldCells]
/-- two slices of loads of the call's own, apart -/
structure Pair (W w : World) (A1 A2 : Option Addr) (k c1 c2 : Nat) (X Y : List Ld) : Prop where
  one : w.ownsRow 0 31 2 (.slice A1 k c1) k (ldCells X)
  two : w.ownsRow 0 31 2 (.slice A2 k c2) k (ldCells Y)
  apart : ∀ g, A1.map Addr.block = some g → A2.map Addr.block ≠ some g
  lo1 : ∀ g, A1.map Addr.block = some g → W.heap.size ≤ g
  lo2 : ∀ g, A2.map Addr.block = some g → W.heap.size ≤ g
  bel : Below W.heap.size W w
theorem Try.cellsByte19 : Try.prog.cellsOf 5 = 1 := by kernel_rfl
theorem rowB {w : World} {t : TypeId} {sz n c : Nat} {A : Option Addr} {xs : List Value} (h : w.ownsRow 0 t sz (.slice A n c) n xs) {g : Nat} (hg : (A.map Addr.block) = some g) : ∃ cs, w.heap[g]? = some (.cells cs t (0, 0)) := by
  rcases h.2 with ⟨e, _⟩ | ⟨g', cap, cur, e, _, hh, _⟩
  · cases e; cases hg
  · cases e; cases hg
    exact ⟨_, hh⟩
theorem row_lt {w : World} {t : TypeId} {sz n c g : Nat} {A : Option Addr} {xs : List Value} (h : w.ownsRow 0 t sz (.slice A n c) n xs) (hg : A.map Addr.block = some g) : g < w.heap.size := by
  obtain ⟨cs, hc⟩ := rowB h hg
  exact heap_lt hc
set_option maxHeartbeats 4000000 in
/-- THE WALK of PlaceFront: whatever comes in, it answers true, and nothing that was there turns. -/
theorem placeFront_walk {H : Type} {enc : TypeId × Value → H} (W : World) (base : Nat) (v0 v1 v2 : Value) (d0 d1 d2 : DataW H) (p0 p1 p2 : List MemPlace)
    (ok0 : Value.okWide Try.prog W .any base 34 v0) (h0 : DataW.Trod enc Try.prog W 0 (fun _ => true) true 34 v0 d0 p0)
    (ok1 : Value.okWide Try.prog W .any base 5 v1) (h1 : DataW.Trod enc Try.prog W 0 (fun _ => true) true 5 v1 d1 p1)
    (ok2 : Value.okWide Try.prog W .any base 5 v2) (h2 : DataW.Trod enc Try.prog W 0 (fun _ => true) true 5 v2 d2 p2) :
    Calls Try.prog 9 #[v0, v1, v2] W fun e w' => e = .returned (.bool true) ∧ Below W.heap.size W w' := by
  obtain ⟨A0, c0, l, rfl, l0, m0, f0, R0⟩ := open_intsR Try.underlying34 Try.underlying5 Try.cellsByte19 ok0 h0
  obtain ⟨a, rfl, rfl, rfl, wa⟩ := open_int Try.underlying5 ok1 h1
  obtain ⟨b, rfl, rfl, rfl, wb⟩ := open_int Try.underlying5 ok2 h2
  obtain ⟨a0, a1⟩ := bounds_u8 wa
  obtain ⟨b0, b1⟩ := bounds_u8 wb
  clear ok0 ok1 ok2 h0 h1 h2 wa wb
  unfold maxLen at m0
  have G0 := hide (fun x hx => bounds_u8 (f0 x hx))
  clear f0
  obtain ⟨i0, hi, hz0, hz1, hz2⟩ := info_parts Try.infoLd
  by_cases n0 : l.length ≤ 20
  · have HR0 := hide R0
    clear R0
    go_enter Try.func9, Try.ntmps9
    go_wp2
    go_loopw [7, 8, 9] (fun x y i wr => ∃ (k : Nat) (A1 A2 : Option Addr) (c1 c2 : Nat), k ≤ l.length ∧ i = .int .i64 k ∧ x = .slice A1 k c1 ∧ y = .slice A2 k c2 ∧ (k = 0 → A2 = none ∧ c2 = 0) ∧ Pair W wr A1 A2 k c1 c2 ((ldOf l).take k) ((ldOf l).take k).reverse) (fun _ _ i _ => l.length - (intOf i).toNat)
    case atStart => exact ⟨0, none, none, 0, 0, Nat.zero_le _, rfl, rfl, rfl, fun _ => ⟨rfl, rfl⟩, ⟨⟨rfl, Or.inl ⟨rfl, rfl⟩⟩, ⟨rfl, Or.inl ⟨rfl, rfl⟩⟩, (fun g hg => by cases hg), (fun g hg => by cases hg), (fun g hg => by cases hg), Below.refl _ _⟩⟩
    case round =>
      obtain ⟨k, A1, A2, c1, c2, hk, rfl, rfl, rfl, hnil, hP⟩ := hrel
      have HNIL := hide hnil
      clear hnil
      by_cases hlt : k < l.length
      · obtain ⟨b', o, rfl, hbB, hcell⟩ := HR0.out.at_ (by omega)
        have hcj : wr.cell? ⟨b', o + k, none⟩ = some (.int .u8 l[k]) := (hP.bel.cell (p := ⟨b', o + k, none⟩) hbB).trans (hcell k _ (by simp [hlt]))
        have hst := ldOf_take l k hlt
        obtain ⟨v0, v1⟩ := G0.out _ (List.getElem_mem hlt)
        obtain ⟨v, hv⟩ : ∃ v, l[k] = v := ⟨_, rfl⟩
        rw [hv] at hcj hst v0 v1
        have HST := hide hst
        have HP := hide hP
        clear hv hcell hst hP
        go_wp2_with (at_builtin; refine app_law rfl _ _ 32 rfl 31 i0 _ 2 16 Try.underlying32 hi hz0 hz1 hz2 rfl (by decide) (.slice A1 k c1) k (ldCells ((ldOf l).take k)) rfl (HP.out.one.alloc _) wr.heap.size 1 1 (Ld.cells ⟨k, v⟩) rfl (Blk.new rfl) rfl ?c1 (by decide) ?c3 ?c4 ?_)
        case c1 => intro u hu; simp [Ld.cells] at hu; rcases hu with rfl | rfl <;> rfl
        case c3 => unfold maxLen; omega
        case c4 => omega
        intro g1 d1 w1 own1 ch1 or1 lt1
        rw [ownBlock_slice] at ch1 or1
        rw [ldCells_snoc, ← HST.out] at own1
        have P := HP.out
        have own2 : w1.ownsRow 0 31 2 (.slice A2 k c2) k (ldCells ((ldOf l).take k).reverse) := own_chg (P.two.alloc _) ch1 (fun g hg hx => by
          rw [ownBlock_slice] at hg
          exact P.apart g (by simpa using hx) hg)
        have ap1 : ∀ g, A2.map Addr.block = some g → g ≠ g1 := fun g hg e => by
          subst e
          rcases or1 with h | h
          · exact P.apart g h hg
          · have := row_lt P.two hg
            omega
        have lo1 : W.heap.size ≤ g1 := by
          rcases or1 with h | h
          · exact P.lo1 g1 h
          · have := P.bel.size; omega
        have lo2 := P.lo2
        have b1 : Below W.heap.size W w1 := Chg.onto (P.bel.alloc P.bel.size _) (by have := P.bel.size; simp; omega) ch1 (fun x hx => P.lo1 x (by simpa using hx))
        have hcj1 : w1.cell? ⟨b', o + k, none⟩ = some (.int .u8 v) := (b1.cell (p := ⟨b', o + k, none⟩) hbB).trans ((P.bel.cell (p := ⟨b', o + k, none⟩) hbB).symm.trans hcj)
        have O1 := hide own1
        have O2 := hide own2
        have AP := hide ap1
        have LO2 := hide lo2
        clear own1 own2 ap1 lo2 ch1 or1 hcj P HP
        by_cases hk0 : k = 0
        · subst hk0
          obtain ⟨rfl, rfl⟩ := HNIL.out rfl
          rw [Nat.add_zero] at hcj1
          have ow := World.ownsRow_lit (base := 0) (size := 2) (e := 31) w1 (Ld.cells ⟨0, v⟩).toArray 1 (Nat.zero_le _) (by unfold maxLen; decide) rfl
          have OW := hide ow
          clear ow
          go_wp2_with (at_builtin; refine wpList_append_own_none rfl _ _ 32 rfl 0 31 i0 2 Try.underlying32 hi (.slice (some ⟨w1.heap.size, 0, none⟩) 1 1) 1 _ rfl OW.out rfl ?_)
          go_wp2
          go_roundw
          case rel =>
            refine ⟨1, some ⟨g1, 0, none⟩, some ⟨w1.heap.size, 0, none⟩, d1, 1, by omega, rfl, rfl, rfl, fun h => absurd h (by omega), ⟨O1.out.alloc _, ?_, ?_, ?_, ?_, b1.alloc b1.size _⟩⟩
            · rw [HST.out]; exact OW.out
            · intro g hg e
              cases hg
              cases e
              exact absurd lt1 (Nat.lt_irrefl _)
            · intro g hg; cases hg; exact lo1
            · intro g hg; cases hg; exact b1.size
          case measure => simp [intOf]; omega
        · have hA2 : ∃ g2, A2 = some ⟨g2, 0, none⟩ := by
            rcases O2.out.2 with ⟨e, _⟩ | ⟨g, cp, cur, e, _⟩
            · injection e with e1 e2 e3; omega
            · injection e with e1 e2 e3; exact ⟨g, e1⟩
          obtain ⟨g2, rfl⟩ := hA2
          have hrl : ((ldOf l).take k).reverse.length = k := by rw [List.length_reverse, List.length_take, ldOf_length]; omega
          have HRL := hide hrl
          clear hrl
          go_wp2_with (at_builtin; refine app_from rfl _ _ 32 rfl 31 i0 _ 2 16 Try.underlying32 hi hz0 hz1 hz2 rfl (by decide) (.slice (some ⟨w1.heap.size, 0, none⟩) 1 1) 1 (Ld.cells ⟨k, v⟩) rfl (World.ownsRow_lit w1 (Ld.cells ⟨k, v⟩).toArray 1 (Nat.zero_le _) (by unfold maxLen; decide) rfl) g2 k c2 (ldCells ((ldOf l).take k).reverse) rfl ?e1 ?e2 ?e3 (by omega) ?e5 ?e6 ?_)
          case e1 =>
            intro j u hu
            have hj : j < k * 2 := by have := (List.getElem?_eq_some_iff.1 hu).1; rw [ldCells_length, HRL.out] at this; exact this
            exact (World.cell?_alloc_lt w1 _ ⟨g2, j, none⟩ (row_lt O2.out rfl)).trans ((O2.out.cellAt j hj).trans hu)
          case e2 => rw [ldCells_length, HRL.out]
          case e3 => exact ldCells_one _
          case e5 => unfold maxLen; omega
          case e6 => omega
          intro g3 d3 w3 own3 ch3 or3 lt3
          rw [ownBlock_slice] at ch3 or3
          rw [ldCells_cons] at own3
          have P2 : Pair W w3 (some ⟨g1, 0, none⟩) (some ⟨g3, 0, none⟩) (k + 1) d1 d3 ((ldOf l).take (k + 1)) ((ldOf l).take (k + 1)).reverse := by
            refine ⟨own_chg (O1.out.alloc _) ch3 (fun g hg hx => ?_), ?_, ?_, fun g hg => by cases hg; exact lo1, ?_, ?_⟩
            · cases hg
              have : g1 = w1.heap.size := by simpa using hx
              omega
            · rw [HST.out, List.reverse_append, Nat.add_comm]
              exact own3
            · intro g hg e
              cases hg
              cases e
              rcases or3 with h | h
              · have : w1.heap.size = g1 := by simpa using h
                omega
              · omega
            · intro g hg
              cases hg
              show W.heap.size ≤ g3
              have := b1.size
              rcases or3 with h | h
              · have : w1.heap.size = g3 := by simpa using h
                omega
              · omega
            · exact Chg.onto (b1.alloc b1.size _) (by have := b1.size; simp; omega) ch3 (fun x hx => by
                have h5 : x = w1.heap.size := by simpa using hx
                have := b1.size
                omega)
          have HP2 := hide P2
          clear own3 ch3 or3 P2
          go_wp2
          go_roundw
          case rel => exact ⟨k + 1, some ⟨g1, 0, none⟩, some ⟨g3, 0, none⟩, d1, d3, by omega, by go_num, rfl, by rw [Nat.add_comm], fun h => absurd h (by omega), HP2.out⟩
          case measure => simp [intOf]; omega
      · have e : k = l.length := by omega
        subst e
        clear hlt
        have HP := hide hP
        clear hP
        have P := HP.out
        have hX : (ldOf l).take l.length = ldOf l := List.take_of_length_le (by rw [ldOf_length]; exact Nat.le_refl _)
        rw [hX] at P
        have spot : ∀ {A : Option Addr} {n c : Nat} {xs : List Value} (h : wr.ownsRow 0 31 2 (.slice A n c) n xs), ∀ a, A = some a → a.spot = none := fun h a ha => by
          rcases h.2 with ⟨e, _⟩ | ⟨g, cp, cur, e, _⟩
          · injection e with e1; rw [e1] at ha; cases ha
          · injection e with e1; rw [e1] at ha; cases ha; rfl
        have S1 := spot P.one
        have S2 := spot P.two
        have rd : ∀ {A : Option Addr} {n c : Nat} {xs : List Value} (h : wr.ownsRow 0 31 2 (.slice A n c) n xs), Reads wr wr.heap.size 2 A n xs := fun h => by
          obtain ⟨A2, c2, e2, _, _, _, _, hr⟩ := own_view h
          injection e2 with e3
          rw [e3]
          exact hr _ (fun g hg => own_lt h hg)
        have D1 := rd P.one
        have D2 := rd P.two
        have B := P.bel
        have HB := hide B
        have HD2 := hide D2
        have HS2 := hide S2
        clear P hX spot rd HP HNIL D2 S2 B
        obtain ⟨x, rfl⟩ : ∃ x : Nat, a = x := ⟨a.toNat, by omega⟩
        obtain ⟨y, rfl⟩ : ∃ y : Nat, b = y := ⟨b.toNat, by omega⟩
        have e1 : (min (x : Int) y).toNat = min x y := by omega
        have e2 : (max (x : Int) y).toNat = max x y := by omega
        have E1 := hide e1
        have E2 := hide e2
        clear e1 e2
        go_wp2_with fail
        with_reducible refine (choose_calls _ _ _ (ldOf l) _ _ S1 D1 (ldOf_length l) (by omega)).mono ?_
        rintro e w1 hout
        obtain ⟨A3, n3, c3, rfl, hn3, hc3, hr3, _, hb3⟩ := hout.view
        rw [chosen_length, ldOf_length, E1.out] at hn3
        have HN3 := hide hn3
        have HR3 := hide hr3
        have B1 := HB.out.trans (hb3.mono HB.out.size)
        have D4 := (HD2.out.below hb3).more hb3.size
        clear hout hn3 hr3 hb3 D1 S1
        go_wp2_with fail
        with_reducible refine (choose_calls _ _ _ (ldOf l).reverse _ _ HS2.out D4 (by rw [List.length_reverse, ldOf_length]) (by omega)).mono ?_
        rintro e w2 hout
        obtain ⟨A4, n4, c4, rfl, hn4, hc4, hr4, _, hb4⟩ := hout.view
        rw [chosen_length, List.length_reverse, ldOf_length, E2.out] at hn4
        have HN4 := hide hn4
        have hr5 := (HR3.out.below hb4).more hb4.size
        have B2 := B1.trans (hb4.mono B1.size)
        have hle : n3 ≤ n4 := by have := HN3.out; have := HN4.out; omega
        have q1 : ((n3 : Int) == min (l.length : Int) (min (x : Int) y)) = true := by have := HN3.out; simp; omega
        have q2 : ((n4 : Int) == min (l.length : Int) (max (x : Int) y)) = true := by have := HN4.out; simp; omega
        have hch : (chosen (ldOf l).reverse (max (x : Int) y)).take n3 = chosen (ldOf l) (min (x : Int) y) := by
          unfold chosen
          rw [sortLd_perm_eq (List.reverse_perm (ldOf l)), List.take_take, E1.out, E2.out]
          have hlen : ((sortLd (ldOf l)).map Ld.id).length = l.length := by rw [List.length_map, sortLd_length, ldOf_length]
          have h3 := HN3.out
          by_cases hxy : l.length ≤ min x y
          · rw [List.take_of_length_le (by omega), List.take_of_length_le (by omega)]
          · rw [show min n3 (max x y) = min x y by omega]
        have hr6 : Reads w2 w2.heap.size 1 A4 n3 ((chosen (ldOf l) (min (x : Int) y)).map (Value.int .i64)) := by
          have := hr4.take hle
          rw [Nat.mul_one, ← List.map_take, hch] at this
          exact this
        have HR5 := hide hr5
        have HR6 := hide hr6
        have HL3 := hide (show (chosen (ldOf l) (min (x : Int) y)).length = n3 by rw [chosen_length, ldOf_length, E1.out]; exact HN3.out)
        have n3b : n3 ≤ 20 := by have := HN3.out; omega
        have i5 : (n3 : Int) ≤ c4 := by omega
        clear hout hn4 hr4 hb4 hr5 hr6 hch D4 B1
        go_wp2_with fail
        with_reducible refine (sameInts_yes _ _ _ _ _ _ _ HL3.out HR5.out HR6.out (by omega)).mono ?_
        rintro e w3 ⟨rfl, n5, hw3⟩
        have B3 : Below W.heap.size W w3 := by rw [hw3]; exact below_drewN B2 _
        clear hw3
        go_wp2_with fail
        with_reducible refine (awake19_calls _).mono ?_
        rintro e w4 ⟨rfl, hb4⟩
        have B4 := B3.trans (hb4.mono B3.size)
        go_wp2
        go_ret
        exact ⟨rfl, B4⟩
  · have d0 : decide ((20 : Int) < l.length) = true := decide_eq_true (by omega)
    go_enter Try.func9, Try.ntmps9
    go_wp2_with (go_at_call 32; with_reducible refine (awake19_calls _).mono ?_; rintro e w1 ⟨rfl, hb1⟩)
    go_ret
    exact ⟨rfl, hb1⟩
end Go.Proofs.Ytjdgkdaebkflpaa
