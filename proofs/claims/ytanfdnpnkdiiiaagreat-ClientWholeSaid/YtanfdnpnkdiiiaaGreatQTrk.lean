/- One text of: Trk. -/
import Derived.Deep.QuietTactic
import Derived.BigQuiet
import Derived.Deep.CutRange
import Derived.Deep.CutBlock
import Derived.Test.YtanfdnpnkdiiiaaGreatQBask
import Derived.Test.YtanfdnpnkdiiiaaGreatQReg2
namespace Go.Proofs.YtanfdnpnkdiiiaaGreat
open Go.RowKit Go.Proofs Go.Maps
set_option linter.unusedVariables false
set_option linter.unusedSimpArgs false

theorem belowA {a b c : World} (k : Below b.heap.size b c) (h : Below a.heap.size a b) : Below a.heap.size a c := h.trans (k.mono h.size)
theorem belowL {a b : World} (h : Below a.heap.size a b) (o : Obj) : Below a.heap.size a (b.alloc o) := h.alloc h.size o
theorem Blk.drewT {w : World} {b : Nat} {t : TypeId} {cs : List Value} (h : Blk w b t cs) : Blk w.drew b t cs := h.keep rfl
structure Cnt where
  d : Int
  r : Int
def Cnt.zero : Cnt := ⟨0, 0⟩
def Cnt.val (x : Cnt) : Value := .agg #[.int .i64 x.d, .int .i64 x.r]
def Cnt.less (x y : Cnt) : Cnt := ⟨x.d - y.d, x.r - y.r⟩
def Cnt.more (x : Cnt) (p : Int) : Cnt := if p = 1 then ⟨x.d + 1, x.r + 1⟩ else if p = 2 then ⟨x.d + 1, x.r⟩ else x
def upC (f : Int → Cnt) (k : Int) (x : Cnt) : Int → Cnt := fun j => if j = k then x else f j
structure Trk where
  a : Cnt
  own : Int → Cnt
  told : Int → Cnt
def Trk.zero : Trk := ⟨.zero, fun _ => .zero, fun _ => .zero⟩
def Trk.now (T : Trk) (s : Int) : Cnt := T.a.less (T.own s)
def Trk.delta (T : Trk) (s : Int) : Cnt := (T.now s).less (T.told s)
def Trk.beg (T : Trk) (s : Int) : Trk := { T with told := upC T.told s (T.now s) }
def Trk.fin (T : Trk) (s p : Int) : Trk := { T with a := T.a.more p, own := upC T.own s ((T.own s).more p) }
def Cnt.Le (x : Cnt) (n : Nat) : Prop := -(n : Int) ≤ x.d ∧ x.d ≤ n ∧ -(n : Int) ≤ x.r ∧ x.r ≤ n
structure Trk.Le (T : Trk) (n : Nat) : Prop where
  a : T.a.Le n
  own : ∀ k, (T.own k).Le n
  told : ∀ k, (T.told k).Le (2 * n)
theorem Cnt.Le.more {x : Cnt} {n : Nat} (h : x.Le n) (p : Int) : (x.more p).Le (n + 1) := by
  unfold Cnt.more
  obtain ⟨h1, h2, h3, h4⟩ := h
  split
  · exact ⟨by simp only []; omega, by simp only []; omega, by simp only []; omega, by simp only []; omega⟩
  · split
    · exact ⟨by simp only []; omega, by simp only []; omega, by simp only []; omega, by simp only []; omega⟩
    · exact ⟨by omega, by omega, by omega, by omega⟩
theorem Cnt.Le.mono {x : Cnt} {n m : Nat} (h : x.Le n) (hm : n ≤ m) : x.Le m := by
  obtain ⟨h1, h2, h3, h4⟩ := h
  exact ⟨by omega, by omega, by omega, by omega⟩
theorem Cnt.Le.less {x y : Cnt} {n m : Nat} (h : x.Le n) (k : y.Le m) : (x.less y).Le (n + m) := by
  obtain ⟨h1, h2, h3, h4⟩ := h
  obtain ⟨k1, k2, k3, k4⟩ := k
  exact ⟨by simp only [Cnt.less]; omega, by simp only [Cnt.less]; omega, by simp only [Cnt.less]; omega, by simp only [Cnt.less]; omega⟩
theorem Cnt.Le.zero (n : Nat) : Cnt.zero.Le n := ⟨by simp [Cnt.zero], by simp [Cnt.zero], by simp [Cnt.zero], by simp [Cnt.zero]⟩
theorem Trk.Le.zero (n : Nat) : Trk.zero.Le n := ⟨.zero n, fun _ => .zero n, fun _ => .zero _⟩
theorem Trk.Le.mono {T : Trk} {n m : Nat} (h : T.Le n) (hm : n ≤ m) : T.Le m := ⟨h.a.mono hm, fun k => (h.own k).mono hm, fun k => (h.told k).mono (by omega)⟩
theorem Trk.Le.fin {T : Trk} {n : Nat} (h : T.Le n) (s p : Int) : (T.fin s p).Le (n + 1) :=
  ⟨h.a.more p, fun k => by
    unfold Trk.fin upC
    simp only []
    split
    · exact (h.own s).more p
    · exact (h.own k).mono (by omega), fun k => (h.told k).mono (by omega)⟩
theorem Trk.Le.beg {T : Trk} {n : Nat} (h : T.Le n) (s : Int) : (T.beg s).Le n :=
  ⟨h.a, h.own, fun k => by
    unfold Trk.beg upC
    simp only []
    split
    · exact (h.a.less (h.own s)).mono (by omega)
    · exact h.told k⟩
theorem Trk.zero_delta (s : Int) : Trk.zero.delta s = ⟨0, 0⟩ := by simp [Trk.delta, Trk.now, Trk.zero, Cnt.less, Cnt.zero]
theorem Trk.zero_beg (s : Int) : Trk.zero.beg s = Trk.zero := by
  unfold Trk.beg Trk.now Trk.zero upC
  congr 1
  funext j
  simp only []
  split <;> simp [Cnt.less, Cnt.zero]
theorem eqlCm (w : World) (p : Option Nat) : (binOp .eql 126 (.map p) (.map none)).run Tryz.prog w = .ok (.bool p.isNone) w := run_eql_map_nil w _ _ _ p Tryz.underlying126
theorem zeroC (w : World) : (zeroValue 125).run Tryz.prog w = .ok Cnt.zero.val w := by kernel_rfl
/-- a map of counts -/
def Ctab (w : World) (m n : Nat) (f : Int → Cnt) : Prop := ∃ c g, GM w m c g ∧ c ≤ n ∧ ∀ k, i64ok k → (g k).getD Cnt.zero.val = (f k).val
theorem Ctab.lt {w : World} {m n : Nat} {f : Int → Cnt} (h : Ctab w m n f) : m < w.heap.size := by
  obtain ⟨c, g, h, _⟩ := h
  exact h.lt
theorem Ctab.chg {L : List Nat} {w w' : World} {m n : Nat} {f : Int → Cnt} (h : Ctab w m n f) (hc : Chg L w w') (hn : m ∉ L) : Ctab w' m n f := by
  obtain ⟨c, g, h, h2⟩ := h
  exact ⟨c, g, h.chg hc hn, h2⟩
theorem Ctab.mono {w : World} {m n n' : Nat} {f : Int → Cnt} (h : Ctab w m n f) (hn : n ≤ n') : Ctab w m n' f := by
  obtain ⟨c, g, h, h2, h3⟩ := h
  exact ⟨c, g, h, by omega, h3⟩
theorem Ctab.look {w : World} {m n : Nat} {f : Int → Cnt} (h : Ctab w m n f) {k : Int} (hk : i64ok k) : (Instr.lookup 126 (.map (some m)) (.int .i64 k) false).run Tryz.prog w = .ok (f k).val w := by
  obtain ⟨c, g, h, h2, h3⟩ := h
  rw [h.look (mt := 126) hk Tryz.underlying126 (z := Cnt.zero.val) (zeroC w), h3 k hk]
theorem Ctab.put {w : World} {m n : Nat} {f : Int → Cnt} (h : Ctab w m n f) {k : Int} (hk : i64ok k) (hn : n < 1000000) (x : Cnt) :
    ∃ w', (Instr.mapUpdate 126 (.map (some m)) (.int .i64 k) x.val).run Tryz.prog w = .ok () w' ∧ Ctab w' m (n + 1) (upC f k x) ∧ Chg [m] w w' := by
  obtain ⟨c, g, h, h2, h3⟩ := h
  obtain ⟨w', hr, hg, hc⟩ := h.put (mt := 126) hk Tryz.underlying126 x.val (by omega)
  refine ⟨w', hr, ⟨_, _, hg, by split <;> omega, fun j hj => ?_⟩, hc⟩
  unfold updV upC
  split
  · simp
  · exact h3 j hj
theorem Ctab.wp_put {o : Oper} {a : Act} {K : Act → World → Prop} {Q : Exit → Act → World → Prop} {w : World} {m n : Nat} {f : Int → Cnt} {k : Int} (x y z : Operand) (u : Cnt) (ho : o.op = Op.mapUpdate 126 x y z)
    (em : a.eval x = .map (some m)) (ek : a.eval y = .int .i64 k) (ev : a.eval z = u.val) (h : Ctab w m n f) (hk : i64ok k) (hn : n < 1000000)
    (hK : ∀ w', Ctab w' m (n + 1) (upC f k u) → Chg [m] w w' → K (a.put o.dst undef) w') : o.wp Tryz.prog a w K Q := by
  obtain ⟨w', hrun, h1, h2⟩ := h.put hk hn u
  unfold Oper.wp
  simp [execOp, ho, em, ek, ev, hrun, Result.andThen]
  exact hK _ h1 h2
theorem Ctab.wpl_put {ops : Array Oper} {rest : List Oper} {o : Oper} {a : Act} {Q : Exit → Act → World → Prop} {w : World} {m n : Nat} {f : Int → Cnt} {k : Int} (hg : o.guard = none) (x y z : Operand) (u : Cnt) (ho : o.op = Op.mapUpdate 126 x y z)
    (em : a.eval x = .map (some m)) (ek : a.eval y = .int .i64 k) (ev : a.eval z = u.val) (h : Ctab w m n f) (hk : i64ok k) (hn : n < 1000000)
    (hK : ∀ w', Ctab w' m (n + 1) (upC f k u) → Chg [m] w w' → wpList Tryz.prog ops Q rest (a.put o.dst undef) w') : wpList Tryz.prog ops Q (o :: rest) a w := by
  refine wpList_plain hg fun K' hK' => ?_
  exact Ctab.wp_put x y z u ho em ek ev h hk hn fun w' h1 h2 => hK' _ _ (hK w' h1 h2)
theorem Ctab.ne {w : World} {m n b : Nat} {f : Int → Cnt} {t : TypeId} {cs : List Value} (h : Ctab w m n f) (hb : Blk w b t cs) : m ≠ b := by
  obtain ⟨c, g, ⟨D, ⟨es, clock, hm, _⟩, _⟩, _⟩ := h
  intro e
  subst e
  unfold Blk at hb
  rw [hm] at hb
  cases hb
theorem Ctab.made (w : World) : Ctab (w.alloc (.map #[] 0)) w.heap.size 0 (fun _ => .zero) := ⟨0, _, GM.made w, Nat.le_refl _, fun k _ => rfl⟩
/-- a tracker in the blocks F: its own, its maps -/
def TM (w : World) (F : List Nat) (b n : Nat) (T : Trk) : Prop :=
  T.Le n ∧ ((F = [b] ∧ T = Trk.zero ∧ Blk w b 128 [.int .i64 0, .int .i64 0, .map none, .map none]) ∨
    ∃ m1 m2, F = [b, m1, m2] ∧ m1 ≠ m2 ∧ Blk w b 128 [.int .i64 T.a.d, .int .i64 T.a.r, .map (some m1), .map (some m2)] ∧ Ctab w m1 n T.own ∧ Ctab w m2 n T.told)
theorem TM.chg {L F : List Nat} {w w' : World} {b n : Nat} {T : Trk} (h : TM w F b n T) (hc : Chg L w w') (hn : ∀ x ∈ F, x ∉ L) : TM w' F b n T := by
  obtain ⟨h0, ⟨rfl, h1, h2⟩ | ⟨m1, m2, rfl, h1, h2, h3, h4⟩⟩ := h
  · exact ⟨h0, Or.inl ⟨rfl, h1, h2.chg hc (hn _ (by simp))⟩⟩
  · exact ⟨h0, Or.inr ⟨m1, m2, rfl, h1, h2.chg hc (hn _ (by simp)), h3.chg hc (hn _ (by simp)), h4.chg hc (hn _ (by simp))⟩⟩
theorem TM.lt {F : List Nat} {w : World} {b n : Nat} {T : Trk} (h : TM w F b n T) : ∀ x ∈ F, x < w.heap.size := by
  obtain ⟨h0, ⟨rfl, h1, h2⟩ | ⟨m1, m2, rfl, h1, h2, h3, h4⟩⟩ := h
  · intro x hx; rw [List.mem_singleton.1 hx]; exact h2.lt
  · intro x hx
    simp only [List.mem_cons, List.not_mem_nil, or_false] at hx
    rcases hx with rfl | rfl | rfl
    · exact h2.lt
    · exact h3.lt
    · exact h4.lt
theorem TM.mono {F : List Nat} {w : World} {b n n' : Nat} {T : Trk} (h : TM w F b n T) (hn : n ≤ n') : TM w F b n' T := by
  obtain ⟨h0, ⟨rfl, h1, h2⟩ | ⟨m1, m2, rfl, h1, h2, h3, h4⟩⟩ := h
  · exact ⟨h0.mono hn, Or.inl ⟨rfl, h1, h2⟩⟩
  · exact ⟨h0.mono hn, Or.inr ⟨m1, m2, rfl, h1, h2, h3.mono hn, h4.mono hn⟩⟩
set_option maxHeartbeats 1000000 in
theorem less_calls (x y : Cnt) (n : Nat) (w : World) (hx : x.Le n) (hy : y.Le n) (hn : n ≤ 100000000) :
    Calls Tryz.prog 78 #[x.val, y.val] w fun e w' => e = .returned (x.less y).val ∧ Below w.heap.size w w' := by
  obtain ⟨a, b⟩ := x
  obtain ⟨c, d⟩ := y
  have h1 : IntKind.i64.wrap (a - c) = a - c := by
    obtain ⟨q1, q2, _⟩ := hx; obtain ⟨q3, q4, _⟩ := hy; simp only [] at q1 q2 q3 q4; exact IntWalk.i64_in _ (by omega)
  have h2 : IntKind.i64.wrap (b - d) = b - d := by
    obtain ⟨_, _, q1, q2⟩ := hx; obtain ⟨_, _, q3, q4⟩ := hy; simp only [] at q1 q2 q3 q4; exact IntWalk.i64_in _ (by omega)
  clear hx hy
  unfold Cnt.val Cnt.less
  simp only []
  go_enter Tryz.func78, Tryz.ntmps78
  go_wp2
  refine bodyPost_ret (v := .agg #[.int .i64 (a - c), .int .i64 (b - d)]) (by simp [results, Tryz.results78, go_sem, *]) rfl ?_
  exact ⟨rfl, by repeat (first | (with_reducible exact Below.refl _ _) | (with_reducible refine Below.setCell ?_ (by first | (simp; done) | (simp; omega)) _) | (with_reducible refine Below.alloc ?_ (by first | (simp; done) | (simp; omega)) _))⟩
theorem Trk.val_own (x : Cnt) : x.val = .agg #[.int .i64 x.d, .int .i64 x.r] := rfl
set_option maxHeartbeats 4000000 in
set_option maxRecDepth 100000 in
theorem tbegin_calls (w : World) (F : List Nat) (b n : Nat) (T : Trk) (s : Int) (h : TM w F b n T) (hs : i64ok s) (hn : n ≤ 100000) :
    Calls Tryz.prog 56 #[.pointer (some ⟨b, 0, none⟩), .int .i64 s] w fun e w' => e = .returned (.tuple #[.int .i64 (T.delta s).d, .int .i64 (T.delta s).r]) ∧ TM w' F b (n + 1) (T.beg s) ∧ Chg F w w' := by
  obtain ⟨hle, ⟨rfl, rfl, hb⟩ | ⟨m1, m2, rfl, hne, hb, h1, h2⟩⟩ := h
  · have x1 := hb.cell 2
    have HB := hide hb
    simp only [List.getElem?_cons_succ, List.getElem?_cons_zero] at x1
    clear hb hle
    have qm := eqlCm
    go_enter Tryz.func56, Tryz.ntmps56
    go_wp2
    refine bodyPost_ret (v := .tuple #[.int .i64 0, .int .i64 0]) (by simp [results, Tryz.results56, go_sem, *]) rfl ?_
    exact ⟨by rw [Trk.zero_delta], ⟨by rw [Trk.zero_beg]; exact .zero _, Or.inl ⟨rfl, Trk.zero_beg s, HB.out⟩⟩, Chg.refl _ _⟩
  · have rr := Below.refl w.heap.size w
    have x0 := hb.rule 0 _ rfl
    have x1 := hb.rule 1 _ rfl
    have x2 := hb.rule 2 _ rfl
    have x3 := hb.rule 3 _ rfl
    have l1 : ∀ w', Below w.heap.size w w' → (Instr.lookup 126 (.map (some m1)) (.int .i64 s) false).run Tryz.prog w' = .ok (T.own s).val w' := fun w' hb' => (h1.chg (L := []) (Chg.of_below hb') (by simp)).look hs
    have HLS := hide (fun w' => less_calls T.a (T.own s) n w' hle.a (hle.own s) (by omega))
    obtain ⟨q, hq⟩ : ∃ q, T.own s = q := ⟨_, rfl⟩
    rw [hq] at l1 HLS
    obtain ⟨⟨ad, ar⟩, own, told⟩ := T
    obtain ⟨qd, qr⟩ := q
    simp only [] at x0 x1
    unfold Cnt.val Cnt.less at HLS
    unfold Cnt.val at l1
    simp only [] at HLS l1
    obtain ⟨u, hu⟩ : ∃ u, told s = u := ⟨_, rfl⟩
    have HL2 := hide (fun w' => less_calls ⟨ad - qd, ar - qr⟩ u (3 * n) w' (by
      have k1 := hle.a.less (hle.own s)
      rw [hq] at k1
      exact k1.mono (by omega)) (by
      have k1 := hle.told s
      simp only [] at k1
      rw [hu] at k1
      exact k1.mono (by omega)) (by omega))
    obtain ⟨td, tr⟩ := u
    unfold Cnt.val Cnt.less at HL2
    simp only [] at HL2
    have HT := hide hu
    have HQ := hide hq
    have HLE := hide hle
    have H12 := hide (And.intro hb (And.intro h1 h2))
    have HNE := hide hne
    clear hq hu hle hb h1 h2 hne
    have qm := eqlCm
    go_enter Tryz.func56, Tryz.ntmps56
    go_upto_region 3 with fail
    refine region_lexg (fun w' => Below w.heap.size w w') [12] 3 [(2, 0), (2, 1), (2, 2), (0, 3), (2, 4), (2, 5), (2, 6), (0, 7), (2, 8), (0, 9)] #[true, true, true, true, true, true, true, true, true, true, false, false, false] (by kernel_rfl) (by kernel_rfl) (by decide) (by kernel_rfl) (by kernel_rfl) (fun _ _ _ _ _ h => h) (by (first | assumption | exact rr.drew | exact belowL (by assumption) _ | exact (belowL rr _).drew)) (fun hS0 => ?_)
    simp only [List.map_cons, List.map_nil, List.getElem?_toArray, List.getElem?_cons_succ, List.getElem?_cons_zero]
    (apply lexg_pure (by rfl); (focus (intro w; go_simp; (try with_reducible rfl); done)); simp only [Act.put, List.setIfInBounds_toArray, List.set_cons_zero, List.set_cons_succ])
    (apply lexg_pure (by rfl); (focus (intro w; go_simp; (try with_reducible rfl); done)); simp only [Act.put, List.setIfInBounds_toArray, List.set_cons_zero, List.set_cons_succ])
    (apply lexg_pure (by rfl); (focus (intro w; go_simp; (try with_reducible rfl); done)); simp only [Act.put, List.setIfInBounds_toArray, List.set_cons_zero, List.set_cons_succ])
    (apply lexg_take (by rfl); (focus (intro w hw; (try dsimp only at hw); go_simp; (try with_reducible rfl); done)); simp only [Act.put, List.setIfInBounds_toArray, List.set_cons_zero, List.set_cons_succ])
    (apply lexg_pure (by rfl); (focus (intro w; go_simp; (try with_reducible rfl); done)); simp only [Act.put, List.setIfInBounds_toArray, List.set_cons_zero, List.set_cons_succ])
    (apply lexg_pure (by rfl); (focus (intro w; go_simp; (try with_reducible rfl); done)); simp only [Act.put, List.setIfInBounds_toArray, List.set_cons_zero, List.set_cons_succ])
    (apply lexg_pure (by rfl); (focus (intro w; go_simp; (try with_reducible rfl); done)); simp only [Act.put, List.setIfInBounds_toArray, List.set_cons_zero, List.set_cons_succ])
    (apply lexg_take (by rfl); (focus (intro w hw; (try dsimp only at hw); go_simp; (try with_reducible rfl); done)); simp only [Act.put, List.setIfInBounds_toArray, List.set_cons_zero, List.set_cons_succ])
    (apply lexg_pure (by rfl); (focus (intro w; go_simp; (try with_reducible rfl); done)); simp only [Act.put, List.setIfInBounds_toArray, List.set_cons_zero, List.set_cons_succ])
    (apply lexg_take (by rfl); (focus (intro w hw; (try dsimp only at hw); go_simp; (try with_reducible rfl); done)); simp only [Act.put, List.setIfInBounds_toArray, List.set_cons_zero, List.set_cons_succ])
    refine lexg_nil (fun hS2 => ?_)
    refine lexg_fork2 (i := 10) (j := 11) (by kernel_rfl) (by kernel_rfl : _ = #[true, true, true, true, true, true, true, true, true, true, true, false, false]) (by kernel_rfl : _ = #[true, true, true, true, true, true, true, true, true, true, false, true, false]) ?_ ?_
    focus
      apply lexg_act (by simp only [List.getElem?_toArray, List.getElem?_cons_succ, List.getElem?_cons_zero]; rfl) (by rfl)
      go_simp
      ((go_at_call 78; with_reducible refine (HLS.out _).mono ?_; rintro e w5 ⟨rfl, hb5⟩; have hb5q : Below w.heap.size w w5 := belowA hb5 (by assumption); (try (have qb : Blk w5 w.heap.size 125 [.int .i64 0, .int .i64 0] := (by refine Blk.below ?_ hb5; first | exact Blk.new rfl | exact Blk.drewT (Blk.new rfl)); have q0 := qb.cell 0; have q1 := qb.cell 1; have qf := qb.frozen; simp only [List.getElem?_cons_succ, List.getElem?_cons_zero] at q0 q1)); clear hb5))
      refine lexg_both (by (first | assumption | exact rr.drew | exact belowL (by assumption) _ | exact (belowL rr _).drew)) (fun hS1 => ?_)
      refine lexg_more 0 [(1, 11), (3, 12)] #[true, true, true, true, true, true, true, true, true, true, true, true, true] (by kernel_rfl) (by decide) (by kernel_rfl) (by kernel_rfl) (fun _ _ _ _ _ h => h) (fun _ => by assumption) ?_
      simp only [List.map_cons, List.map_nil, List.getElem?_toArray, List.getElem?_cons_succ, List.getElem?_cons_zero]
      (refine lexg_eff (by rfl) ?_; go_simp; refine lexg_both (by (first | assumption | exact rr.drew | exact belowL (by assumption) _ | exact (belowL rr _).drew)) (fun hS1 => ?_))
      (refine lexg_effN (by rfl) ?_; go_simp)
      refine lexg_nil (fun _ => wpAnyG_done (by kernel_rfl) ?_ _)
    rotate_left
    focus
      apply lexg_act (by simp only [List.getElem?_toArray, List.getElem?_cons_succ, List.getElem?_cons_zero]; rfl) (by rfl)
      go_simp
      refine lexg_both (by (first | assumption | exact rr.drew | exact belowL (by assumption) _ | exact (belowL rr _).drew)) (fun hS1 => ?_)
      refine lexg_more 0 [(1, 10), (3, 12)] #[true, true, true, true, true, true, true, true, true, true, true, true, true] (by kernel_rfl) (by decide) (by kernel_rfl) (by kernel_rfl) (fun _ _ _ _ _ h => h) (fun _ => by assumption) ?_
      simp only [List.map_cons, List.map_nil, List.getElem?_toArray, List.getElem?_cons_succ, List.getElem?_cons_zero]
      (refine lexg_eff (by rfl) ?_; go_simp; ((go_at_call 78; with_reducible refine (HLS.out _).mono ?_; rintro e w5 ⟨rfl, hb5⟩; have hb5q : Below w.heap.size w w5 := belowA hb5 (by assumption); (try (have qb : Blk w5 w.heap.size 125 [.int .i64 0, .int .i64 0] := (by refine Blk.below ?_ hb5; first | exact Blk.new rfl | exact Blk.drewT (Blk.new rfl)); have q0 := qb.cell 0; have q1 := qb.cell 1; have qf := qb.frozen; simp only [List.getElem?_cons_succ, List.getElem?_cons_zero] at q0 q1)); clear hb5)); refine lexg_both (by (first | assumption | exact rr.drew | exact belowL (by assumption) _ | exact (belowL rr _).drew)) (fun hS1 => ?_))
      (refine lexg_effN (by rfl) ?_; go_simp)
      refine lexg_nil (fun _ => wpAnyG_done (by kernel_rfl) ?_ _)
    rotate_left
    · skip
      rename_i hunm
      clear hunm
      obtain ⟨w6, hw6⟩ : ∃ w6, w5.alloc (.cells #[.int .i64 (ad - qd), .int .i64 (ar - qr)] 125) = w6 := ⟨_, rfl⟩
      obtain ⟨nb, hnb⟩ : ∃ nb, w5.heap.size = nb := ⟨_, rfl⟩
      have hX : Blk w6 nb 125 [.int .i64 (ad - qd), .int .i64 (ar - qr)] ∧ Below w.heap.size w w6 := by
        subst hw6
        subst hnb
        exact ⟨Blk.new rfl, belowL hb5q _⟩
      rw [hw6, hnb]
      have HX := hide hX
      have HB6 := hide (H12.out.1.below hX.2)
      clear hX hw6 hnb x0 x1 x2 x3 l1 rr hS0 hS1 hS2
      (try clear hb5q qb q0 q1 qf)
      have r6 := Below.refl w6.heap.size w6
      have y0 := HX.out.1.rule 0 _ rfl
      have y1 := HX.out.1.rule 1 _ rfl
      have x3 := HB6.out.rule 3 _ rfl
      have hl2 : ∀ w', Below w6.heap.size w6 w' → (Instr.lookup 126 (.map (some m2)) (.int .i64 s) false).run Tryz.prog w' = .ok (told s).val w' := fun w' hb' => (H12.out.2.2.chg (L := []) (Chg.of_below (HX.out.2.trans (hb'.mono HX.out.2.size))) (by simp)).look hs
      have l2 : ∀ w', Below w6.heap.size w6 w' → (Instr.lookup 126 (.map (some m2)) (.int .i64 s) false).run Tryz.prog w' = .ok (.agg #[.int .i64 td, .int .i64 tr]) w' := by rw [HT.out] at hl2; exact hl2
      clear hl2
      go_upto_region 4 with fail
      refine region_lexg (fun w' => Below w6.heap.size w6 w') [9] 3 [(0, 0), (2, 1), (2, 2), (2, 3), (0, 4), (2, 5), (0, 6)] #[true, true, true, true, true, true, true, false, false, false] (by kernel_rfl) (by kernel_rfl) (by decide) (by kernel_rfl) (by kernel_rfl) (fun _ _ _ _ _ h => h) (by (first | assumption | exact r6.drew | exact belowL (by assumption) _ | exact (belowL r6 _).drew)) (fun hS0 => ?_)
      simp only [List.map_cons, List.map_nil, List.getElem?_toArray, List.getElem?_cons_succ, List.getElem?_cons_zero]
      (apply lexg_take (by rfl); (focus (intro w hw; (try dsimp only at hw); go_simp; (try with_reducible rfl); done)); simp only [Act.put, List.setIfInBounds_toArray, List.set_cons_zero, List.set_cons_succ])
      (apply lexg_pure (by rfl); (focus (intro w; go_simp; (try with_reducible rfl); done)); simp only [Act.put, List.setIfInBounds_toArray, List.set_cons_zero, List.set_cons_succ])
      (apply lexg_pure (by rfl); (focus (intro w; go_simp; (try with_reducible rfl); done)); simp only [Act.put, List.setIfInBounds_toArray, List.set_cons_zero, List.set_cons_succ])
      (apply lexg_pure (by rfl); (focus (intro w; go_simp; (try with_reducible rfl); done)); simp only [Act.put, List.setIfInBounds_toArray, List.set_cons_zero, List.set_cons_succ])
      (apply lexg_take (by rfl); (focus (intro w hw; (try dsimp only at hw); go_simp; (try with_reducible rfl); done)); simp only [Act.put, List.setIfInBounds_toArray, List.set_cons_zero, List.set_cons_succ])
      (apply lexg_pure (by rfl); (focus (intro w; go_simp; (try with_reducible rfl); done)); simp only [Act.put, List.setIfInBounds_toArray, List.set_cons_zero, List.set_cons_succ])
      (apply lexg_take (by rfl); (focus (intro w hw; (try dsimp only at hw); go_simp; (try with_reducible rfl); done)); simp only [Act.put, List.setIfInBounds_toArray, List.set_cons_zero, List.set_cons_succ])
      refine lexg_nil (fun hS2 => ?_)
      refine lexg_fork2 (i := 7) (j := 8) (by kernel_rfl) (by kernel_rfl : _ = #[true, true, true, true, true, true, true, true, false, false]) (by kernel_rfl : _ = #[true, true, true, true, true, true, true, false, true, false]) ?_ ?_
      focus
        apply lexg_act (by simp only [List.getElem?_toArray, List.getElem?_cons_succ, List.getElem?_cons_zero]; rfl) (by rfl)
        go_simp
        ((go_at_call 78; with_reducible refine (HL2.out _).mono ?_; rintro e w7 ⟨rfl, hb7⟩; have hb7q : Below w6.heap.size w6 w7 := belowA hb7 (by assumption); (try (have qb : Blk w7 w6.heap.size 125 [.int .i64 0, .int .i64 0] := (by refine Blk.below ?_ hb7; first | exact Blk.new rfl | exact Blk.drewT (Blk.new rfl)); have q0 := qb.cell 0; have q1 := qb.cell 1; have qf := qb.frozen; simp only [List.getElem?_cons_succ, List.getElem?_cons_zero] at q0 q1)); clear hb7))
        refine lexg_both (by (first | assumption | exact r6.drew | exact belowL (by assumption) _ | exact (belowL r6 _).drew)) (fun hS1 => ?_)
        refine lexg_more 0 [(1, 8), (3, 9)] #[true, true, true, true, true, true, true, true, true, true] (by kernel_rfl) (by decide) (by kernel_rfl) (by kernel_rfl) (fun _ _ _ _ _ h => h) (fun _ => by assumption) ?_
        simp only [List.map_cons, List.map_nil, List.getElem?_toArray, List.getElem?_cons_succ, List.getElem?_cons_zero]
        (refine lexg_eff (by rfl) ?_; go_simp; refine lexg_both (by (first | assumption | exact r6.drew | exact belowL (by assumption) _ | exact (belowL r6 _).drew)) (fun hS1 => ?_))
        (refine lexg_effN (by rfl) ?_; go_simp)
        refine lexg_nil (fun _ => wpAnyG_done (by kernel_rfl) ?_ _)
      rotate_left
      focus
        apply lexg_act (by simp only [List.getElem?_toArray, List.getElem?_cons_succ, List.getElem?_cons_zero]; rfl) (by rfl)
        go_simp
        refine lexg_both (by (first | assumption | exact r6.drew | exact belowL (by assumption) _ | exact (belowL r6 _).drew)) (fun hS1 => ?_)
        refine lexg_more 0 [(1, 7), (3, 9)] #[true, true, true, true, true, true, true, true, true, true] (by kernel_rfl) (by decide) (by kernel_rfl) (by kernel_rfl) (fun _ _ _ _ _ h => h) (fun _ => by assumption) ?_
        simp only [List.map_cons, List.map_nil, List.getElem?_toArray, List.getElem?_cons_succ, List.getElem?_cons_zero]
        (refine lexg_eff (by rfl) ?_; go_simp; ((go_at_call 78; with_reducible refine (HL2.out _).mono ?_; rintro e w7 ⟨rfl, hb7⟩; have hb7q : Below w6.heap.size w6 w7 := belowA hb7 (by assumption); (try (have qb : Blk w7 w6.heap.size 125 [.int .i64 0, .int .i64 0] := (by refine Blk.below ?_ hb7; first | exact Blk.new rfl | exact Blk.drewT (Blk.new rfl)); have q0 := qb.cell 0; have q1 := qb.cell 1; have qf := qb.frozen; simp only [List.getElem?_cons_succ, List.getElem?_cons_zero] at q0 q1)); clear hb7)); refine lexg_both (by (first | assumption | exact r6.drew | exact belowL (by assumption) _ | exact (belowL r6 _).drew)) (fun hS1 => ?_))
        (refine lexg_effN (by rfl) ?_; go_simp)
        refine lexg_nil (fun _ => wpAnyG_done (by kernel_rfl) ?_ _)
      rotate_left
      · skip
        rename_i hunm
        clear hunm
        obtain ⟨w8, hw8⟩ : ∃ w8, w7.alloc (.cells #[.int .i64 (ad - qd - td), .int .i64 (ar - qr - tr)] 125) = w8 := ⟨_, rfl⟩
        obtain ⟨nd, hnd⟩ : ∃ nd, w7.heap.size = nd := ⟨_, rfl⟩
        have hY : Blk w8 nd 125 [.int .i64 (ad - qd - td), .int .i64 (ar - qr - tr)] ∧ Below w6.heap.size w6 w8 := by
          subst hw8
          subst hnd
          exact ⟨Blk.new rfl, belowL hb7q _⟩
        rw [hw8, hnd]
        have HY := hide hY
        clear hY hw8 hnd hS2
        have r8 := Below.refl w8.heap.size w8
        have z0 := HY.out.1.rule 0 _ rfl
        have z1 := HY.out.1.rule 1 _ rfl
        have v0 := (HX.out.1.below HY.out.2).rule 0 _ rfl
        have v1 := (HX.out.1.below HY.out.2).rule 1 _ rfl
        have v3 := (HB6.out.below HY.out.2).rule 3 _ rfl
        have hch := H12.out.2.2.chg (L := []) (Chg.of_below (HX.out.2.trans (HY.out.2.mono HX.out.2.size))) (by simp)
        have HC8 := hide hch
        clear hch y0 y1 x3 r6 l2 hS0 hS1
        (try clear hb7q qb q0 q1 qf)
        go_upto_region 5 with fail
        refine region_lexg (fun w' => Below w8.heap.size w8 w') [6] 0 [(2, 0), (2, 1), (2, 2), (0, 3), (2, 4), (0, 5), (3, 6)] #[true, true, true, true, true, true, true] (by kernel_rfl) (by kernel_rfl) (by decide) (by kernel_rfl) (by kernel_rfl) (fun _ _ _ _ _ h => h) (by (first | assumption | exact r8.drew)) (fun hS0 => ?_)
        simp only [List.map_cons, List.map_nil, List.getElem?_toArray, List.getElem?_cons_succ, List.getElem?_cons_zero]
        (apply lexg_pure (by rfl); (focus (intro w; go_simp; (try with_reducible rfl); done)); simp only [Act.put, List.setIfInBounds_toArray, List.set_cons_zero, List.set_cons_succ])
        (apply lexg_pure (by rfl); (focus (intro w; go_simp; (try with_reducible rfl); done)); simp only [Act.put, List.setIfInBounds_toArray, List.set_cons_zero, List.set_cons_succ])
        (apply lexg_pure (by rfl); (focus (intro w; go_simp; (try with_reducible rfl); done)); simp only [Act.put, List.setIfInBounds_toArray, List.set_cons_zero, List.set_cons_succ])
        (apply lexg_take (by rfl); (focus (intro w hw; (try dsimp only at hw); go_simp; (try with_reducible rfl); done)); simp only [Act.put, List.setIfInBounds_toArray, List.set_cons_zero, List.set_cons_succ])
        (apply lexg_pure (by rfl); (focus (intro w; go_simp; (try with_reducible rfl); done)); simp only [Act.put, List.setIfInBounds_toArray, List.set_cons_zero, List.set_cons_succ])
        (apply lexg_take (by rfl); (focus (intro w hw; (try dsimp only at hw); go_simp; (try with_reducible rfl); done)); simp only [Act.put, List.setIfInBounds_toArray, List.set_cons_zero, List.set_cons_succ])
        (refine lexg_effN (by rfl) ?_; (refine Ctab.wp_put _ _ _ (⟨ad - qd, ar - qr⟩ : Cnt) rfl rfl rfl rfl (HC8.out.chg (L := []) (Chg.of_below r8.drew) (by simp)) hs (by omega) ?_; intro w9 ht9 hch9); simp only [Act.put])
        refine lexg_nil (fun _ => wpAnyG_done (by kernel_rfl) ?_ _)
        have hnb8 := (HB6.out.below HY.out.2).below r8.drew
        have hnd := (HY.out.1.below r8.drew).chg hch9 (by simp; exact ((HC8.out.chg (L := []) (Chg.of_below r8.drew) (by simp)).ne (HY.out.1.below r8.drew)).symm)
        have hB9 := hnb8.chg hch9 (by simp; exact ((HC8.out.chg (L := []) (Chg.of_below r8.drew) (by simp)).ne hnb8).symm)
        have hBW : Below w.heap.size w w8 := HX.out.2.trans (HY.out.2.mono HX.out.2.size)
        have hC1 := ((H12.out.2.1.chg (L := []) (Chg.of_below (hBW.trans (r8.drew.mono hBW.size))) (by simp)).chg hch9 (by simp; exact HNE.out))
        have hCH : Chg [b, m1, m2] w w9 := ((Chg.of_below (L := [b, m1, m2]) hBW).below r8.drew).trans hch9 (fun z hz => Or.inl (by rw [List.mem_singleton.1 hz]; simp))
        have H9 := hide (And.intro hB9 (And.intro hC1 (And.intro ht9 hCH)))
        have e0 := hnd.rule 0 _ rfl
        have e1 := hnd.rule 1 _ rfl
        have r9 := Below.refl w9.heap.size w9
        clear hnb8 hnd hB9 hBW hC1 hCH ht9 hch9 z0 z1 v0 v1 v3 r8 hS0
        go_upto_region 6 with fail
        refine region_lexg (fun w' => Below w9.heap.size w9 w') [5] 0 [(2, 0), (0, 1), (2, 2), (0, 3), (2, 4), (3, 5)] #[true, true, true, true, true, true] (by kernel_rfl) (by kernel_rfl) (by decide) (by kernel_rfl) (by kernel_rfl) (fun _ _ _ _ _ h => h) (by (first | assumption | exact r9.drew)) (fun hS0 => ?_)
        simp only [List.map_cons, List.map_nil, List.getElem?_toArray, List.getElem?_cons_succ, List.getElem?_cons_zero]
        (apply lexg_pure (by rfl); (focus (intro w; go_simp; (try with_reducible rfl); done)); simp only [Act.put, List.setIfInBounds_toArray, List.set_cons_zero, List.set_cons_succ])
        (apply lexg_take (by rfl); (focus (intro w hw; (try dsimp only at hw); go_simp; (try with_reducible rfl); done)); simp only [Act.put, List.setIfInBounds_toArray, List.set_cons_zero, List.set_cons_succ])
        (apply lexg_pure (by rfl); (focus (intro w; go_simp; (try with_reducible rfl); done)); simp only [Act.put, List.setIfInBounds_toArray, List.set_cons_zero, List.set_cons_succ])
        (apply lexg_take (by rfl); (focus (intro w hw; (try dsimp only at hw); go_simp; (try with_reducible rfl); done)); simp only [Act.put, List.setIfInBounds_toArray, List.set_cons_zero, List.set_cons_succ])
        (apply lexg_pure (by rfl); (focus (intro w; go_simp; (try with_reducible rfl); done)); simp only [Act.put, List.setIfInBounds_toArray, List.set_cons_zero, List.set_cons_succ])
        (refine lexg_effN (by rfl) ?_; go_simp)
        refine lexg_nil (fun _ => wpAnyG_done (by kernel_rfl) ?_ _)
        go_wp2
        refine bodyPost_ret (v := .tuple #[.int .i64 (ad - qd - td), .int .i64 (ar - qr - tr)]) (by simp [results, Tryz.results56, go_sem, *]) rfl ?_
        have hnow : Trk.now ⟨⟨ad, ar⟩, own, told⟩ s = ⟨ad - qd, ar - qr⟩ := by
          have := HQ.out
          (try simp only [] at this)
          simp only [Trk.now, this, Cnt.less]
        have hdel : Trk.delta ⟨⟨ad, ar⟩, own, told⟩ s = ⟨ad - qd - td, ar - qr - tr⟩ := by
          have := HT.out
          (try simp only [] at this)
          simp only [Trk.delta, hnow, this, Cnt.less]
        refine ⟨by rw [hdel], ⟨(HLE.out.beg s).mono (by omega), Or.inr ⟨m1, m2, rfl, HNE.out, H9.out.1.drewT, (H9.out.2.1.chg (L := []) (Chg.of_below r9.drew) (by simp)).mono (by omega), ?_⟩⟩, H9.out.2.2.2.drew⟩
        simp only [Trk.beg, hnow]
        exact H9.out.2.2.1.chg (L := []) (Chg.of_below r9.drew) (by simp)
      · skip
        rename_i hunm
        clear hunm
        obtain ⟨w8, hw8⟩ : ∃ w8, (w7.setCell ⟨w6.heap.size, 0, none⟩ (.int .i64 (ad - qd - td))).setCell ⟨w6.heap.size, 1, none⟩ (.int .i64 (ar - qr - tr)) = w8 := ⟨_, rfl⟩
        obtain ⟨nd, hnd⟩ : ∃ nd, w6.heap.size = nd := ⟨_, rfl⟩
        have hY : Blk w8 nd 125 [.int .i64 (ad - qd - td), .int .i64 (ar - qr - tr)] ∧ Below w6.heap.size w6 w8 := by
          subst hw8
          subst hnd
          exact ⟨(qb.set 0 (.int .i64 (ad - qd - td))).set 1 (.int .i64 (ar - qr - tr)), (hb7q.setCell (Nat.le_refl _) _).setCell (Nat.le_refl _) _⟩
        rw [hw8, hnd]
        have HY := hide hY
        clear hY hw8 hnd hS2
        have r8 := Below.refl w8.heap.size w8
        have z0 := HY.out.1.rule 0 _ rfl
        have z1 := HY.out.1.rule 1 _ rfl
        have v0 := (HX.out.1.below HY.out.2).rule 0 _ rfl
        have v1 := (HX.out.1.below HY.out.2).rule 1 _ rfl
        have v3 := (HB6.out.below HY.out.2).rule 3 _ rfl
        have hch := H12.out.2.2.chg (L := []) (Chg.of_below (HX.out.2.trans (HY.out.2.mono HX.out.2.size))) (by simp)
        have HC8 := hide hch
        clear hch y0 y1 x3 r6 l2 hS0 hS1
        (try clear hb7q qb q0 q1 qf)
        go_upto_region 5 with fail
        refine region_lexg (fun w' => Below w8.heap.size w8 w') [6] 0 [(2, 0), (2, 1), (2, 2), (0, 3), (2, 4), (0, 5), (3, 6)] #[true, true, true, true, true, true, true] (by kernel_rfl) (by kernel_rfl) (by decide) (by kernel_rfl) (by kernel_rfl) (fun _ _ _ _ _ h => h) (by (first | assumption | exact r8.drew)) (fun hS0 => ?_)
        simp only [List.map_cons, List.map_nil, List.getElem?_toArray, List.getElem?_cons_succ, List.getElem?_cons_zero]
        (apply lexg_pure (by rfl); (focus (intro w; go_simp; (try with_reducible rfl); done)); simp only [Act.put, List.setIfInBounds_toArray, List.set_cons_zero, List.set_cons_succ])
        (apply lexg_pure (by rfl); (focus (intro w; go_simp; (try with_reducible rfl); done)); simp only [Act.put, List.setIfInBounds_toArray, List.set_cons_zero, List.set_cons_succ])
        (apply lexg_pure (by rfl); (focus (intro w; go_simp; (try with_reducible rfl); done)); simp only [Act.put, List.setIfInBounds_toArray, List.set_cons_zero, List.set_cons_succ])
        (apply lexg_take (by rfl); (focus (intro w hw; (try dsimp only at hw); go_simp; (try with_reducible rfl); done)); simp only [Act.put, List.setIfInBounds_toArray, List.set_cons_zero, List.set_cons_succ])
        (apply lexg_pure (by rfl); (focus (intro w; go_simp; (try with_reducible rfl); done)); simp only [Act.put, List.setIfInBounds_toArray, List.set_cons_zero, List.set_cons_succ])
        (apply lexg_take (by rfl); (focus (intro w hw; (try dsimp only at hw); go_simp; (try with_reducible rfl); done)); simp only [Act.put, List.setIfInBounds_toArray, List.set_cons_zero, List.set_cons_succ])
        (refine lexg_effN (by rfl) ?_; (refine Ctab.wp_put _ _ _ (⟨ad - qd, ar - qr⟩ : Cnt) rfl rfl rfl rfl (HC8.out.chg (L := []) (Chg.of_below r8.drew) (by simp)) hs (by omega) ?_; intro w9 ht9 hch9); simp only [Act.put])
        refine lexg_nil (fun _ => wpAnyG_done (by kernel_rfl) ?_ _)
        have hnb8 := (HB6.out.below HY.out.2).below r8.drew
        have hnd := (HY.out.1.below r8.drew).chg hch9 (by simp; exact ((HC8.out.chg (L := []) (Chg.of_below r8.drew) (by simp)).ne (HY.out.1.below r8.drew)).symm)
        have hB9 := hnb8.chg hch9 (by simp; exact ((HC8.out.chg (L := []) (Chg.of_below r8.drew) (by simp)).ne hnb8).symm)
        have hBW : Below w.heap.size w w8 := HX.out.2.trans (HY.out.2.mono HX.out.2.size)
        have hC1 := ((H12.out.2.1.chg (L := []) (Chg.of_below (hBW.trans (r8.drew.mono hBW.size))) (by simp)).chg hch9 (by simp; exact HNE.out))
        have hCH : Chg [b, m1, m2] w w9 := ((Chg.of_below (L := [b, m1, m2]) hBW).below r8.drew).trans hch9 (fun z hz => Or.inl (by rw [List.mem_singleton.1 hz]; simp))
        have H9 := hide (And.intro hB9 (And.intro hC1 (And.intro ht9 hCH)))
        have e0 := hnd.rule 0 _ rfl
        have e1 := hnd.rule 1 _ rfl
        have r9 := Below.refl w9.heap.size w9
        clear hnb8 hnd hB9 hBW hC1 hCH ht9 hch9 z0 z1 v0 v1 v3 r8 hS0
        go_upto_region 6 with fail
        refine region_lexg (fun w' => Below w9.heap.size w9 w') [5] 0 [(2, 0), (0, 1), (2, 2), (0, 3), (2, 4), (3, 5)] #[true, true, true, true, true, true] (by kernel_rfl) (by kernel_rfl) (by decide) (by kernel_rfl) (by kernel_rfl) (fun _ _ _ _ _ h => h) (by (first | assumption | exact r9.drew)) (fun hS0 => ?_)
        simp only [List.map_cons, List.map_nil, List.getElem?_toArray, List.getElem?_cons_succ, List.getElem?_cons_zero]
        (apply lexg_pure (by rfl); (focus (intro w; go_simp; (try with_reducible rfl); done)); simp only [Act.put, List.setIfInBounds_toArray, List.set_cons_zero, List.set_cons_succ])
        (apply lexg_take (by rfl); (focus (intro w hw; (try dsimp only at hw); go_simp; (try with_reducible rfl); done)); simp only [Act.put, List.setIfInBounds_toArray, List.set_cons_zero, List.set_cons_succ])
        (apply lexg_pure (by rfl); (focus (intro w; go_simp; (try with_reducible rfl); done)); simp only [Act.put, List.setIfInBounds_toArray, List.set_cons_zero, List.set_cons_succ])
        (apply lexg_take (by rfl); (focus (intro w hw; (try dsimp only at hw); go_simp; (try with_reducible rfl); done)); simp only [Act.put, List.setIfInBounds_toArray, List.set_cons_zero, List.set_cons_succ])
        (apply lexg_pure (by rfl); (focus (intro w; go_simp; (try with_reducible rfl); done)); simp only [Act.put, List.setIfInBounds_toArray, List.set_cons_zero, List.set_cons_succ])
        (refine lexg_effN (by rfl) ?_; go_simp)
        refine lexg_nil (fun _ => wpAnyG_done (by kernel_rfl) ?_ _)
        go_wp2
        refine bodyPost_ret (v := .tuple #[.int .i64 (ad - qd - td), .int .i64 (ar - qr - tr)]) (by simp [results, Tryz.results56, go_sem, *]) rfl ?_
        have hnow : Trk.now ⟨⟨ad, ar⟩, own, told⟩ s = ⟨ad - qd, ar - qr⟩ := by
          have := HQ.out
          (try simp only [] at this)
          simp only [Trk.now, this, Cnt.less]
        have hdel : Trk.delta ⟨⟨ad, ar⟩, own, told⟩ s = ⟨ad - qd - td, ar - qr - tr⟩ := by
          have := HT.out
          (try simp only [] at this)
          simp only [Trk.delta, hnow, this, Cnt.less]
        refine ⟨by rw [hdel], ⟨(HLE.out.beg s).mono (by omega), Or.inr ⟨m1, m2, rfl, HNE.out, H9.out.1.drewT, (H9.out.2.1.chg (L := []) (Chg.of_below r9.drew) (by simp)).mono (by omega), ?_⟩⟩, H9.out.2.2.2.drew⟩
        simp only [Trk.beg, hnow]
        exact H9.out.2.2.1.chg (L := []) (Chg.of_below r9.drew) (by simp)
    · skip
      rename_i hunm
      clear hunm
      obtain ⟨w6, hw6⟩ : ∃ w6, (w5.setCell ⟨w.heap.size, 0, none⟩ (.int .i64 (ad - qd))).setCell ⟨w.heap.size, 1, none⟩ (.int .i64 (ar - qr)) = w6 := ⟨_, rfl⟩
      obtain ⟨nb, hnb⟩ : ∃ nb, w.heap.size = nb := ⟨_, rfl⟩
      have hX : Blk w6 nb 125 [.int .i64 (ad - qd), .int .i64 (ar - qr)] ∧ Below w.heap.size w w6 := by
        subst hw6
        subst hnb
        exact ⟨(qb.set 0 (.int .i64 (ad - qd))).set 1 (.int .i64 (ar - qr)), (hb5q.setCell (Nat.le_refl _) _).setCell (Nat.le_refl _) _⟩
      rw [hw6, hnb]
      have HX := hide hX
      have HB6 := hide (H12.out.1.below hX.2)
      clear hX hw6 hnb x0 x1 x2 x3 l1 rr hS0 hS1 hS2
      (try clear hb5q qb q0 q1 qf)
      have r6 := Below.refl w6.heap.size w6
      have y0 := HX.out.1.rule 0 _ rfl
      have y1 := HX.out.1.rule 1 _ rfl
      have x3 := HB6.out.rule 3 _ rfl
      have hl2 : ∀ w', Below w6.heap.size w6 w' → (Instr.lookup 126 (.map (some m2)) (.int .i64 s) false).run Tryz.prog w' = .ok (told s).val w' := fun w' hb' => (H12.out.2.2.chg (L := []) (Chg.of_below (HX.out.2.trans (hb'.mono HX.out.2.size))) (by simp)).look hs
      have l2 : ∀ w', Below w6.heap.size w6 w' → (Instr.lookup 126 (.map (some m2)) (.int .i64 s) false).run Tryz.prog w' = .ok (.agg #[.int .i64 td, .int .i64 tr]) w' := by rw [HT.out] at hl2; exact hl2
      clear hl2
      go_upto_region 4 with fail
      refine region_lexg (fun w' => Below w6.heap.size w6 w') [9] 3 [(0, 0), (2, 1), (2, 2), (2, 3), (0, 4), (2, 5), (0, 6)] #[true, true, true, true, true, true, true, false, false, false] (by kernel_rfl) (by kernel_rfl) (by decide) (by kernel_rfl) (by kernel_rfl) (fun _ _ _ _ _ h => h) (by (first | assumption | exact r6.drew | exact belowL (by assumption) _ | exact (belowL r6 _).drew)) (fun hS0 => ?_)
      simp only [List.map_cons, List.map_nil, List.getElem?_toArray, List.getElem?_cons_succ, List.getElem?_cons_zero]
      (apply lexg_take (by rfl); (focus (intro w hw; (try dsimp only at hw); go_simp; (try with_reducible rfl); done)); simp only [Act.put, List.setIfInBounds_toArray, List.set_cons_zero, List.set_cons_succ])
      (apply lexg_pure (by rfl); (focus (intro w; go_simp; (try with_reducible rfl); done)); simp only [Act.put, List.setIfInBounds_toArray, List.set_cons_zero, List.set_cons_succ])
      (apply lexg_pure (by rfl); (focus (intro w; go_simp; (try with_reducible rfl); done)); simp only [Act.put, List.setIfInBounds_toArray, List.set_cons_zero, List.set_cons_succ])
      (apply lexg_pure (by rfl); (focus (intro w; go_simp; (try with_reducible rfl); done)); simp only [Act.put, List.setIfInBounds_toArray, List.set_cons_zero, List.set_cons_succ])
      (apply lexg_take (by rfl); (focus (intro w hw; (try dsimp only at hw); go_simp; (try with_reducible rfl); done)); simp only [Act.put, List.setIfInBounds_toArray, List.set_cons_zero, List.set_cons_succ])
      (apply lexg_pure (by rfl); (focus (intro w; go_simp; (try with_reducible rfl); done)); simp only [Act.put, List.setIfInBounds_toArray, List.set_cons_zero, List.set_cons_succ])
      (apply lexg_take (by rfl); (focus (intro w hw; (try dsimp only at hw); go_simp; (try with_reducible rfl); done)); simp only [Act.put, List.setIfInBounds_toArray, List.set_cons_zero, List.set_cons_succ])
      refine lexg_nil (fun hS2 => ?_)
      refine lexg_fork2 (i := 7) (j := 8) (by kernel_rfl) (by kernel_rfl : _ = #[true, true, true, true, true, true, true, true, false, false]) (by kernel_rfl : _ = #[true, true, true, true, true, true, true, false, true, false]) ?_ ?_
      focus
        apply lexg_act (by simp only [List.getElem?_toArray, List.getElem?_cons_succ, List.getElem?_cons_zero]; rfl) (by rfl)
        go_simp
        ((go_at_call 78; with_reducible refine (HL2.out _).mono ?_; rintro e w7 ⟨rfl, hb7⟩; have hb7q : Below w6.heap.size w6 w7 := belowA hb7 (by assumption); (try (have qb : Blk w7 w6.heap.size 125 [.int .i64 0, .int .i64 0] := (by refine Blk.below ?_ hb7; first | exact Blk.new rfl | exact Blk.drewT (Blk.new rfl)); have q0 := qb.cell 0; have q1 := qb.cell 1; have qf := qb.frozen; simp only [List.getElem?_cons_succ, List.getElem?_cons_zero] at q0 q1)); clear hb7))
        refine lexg_both (by (first | assumption | exact r6.drew | exact belowL (by assumption) _ | exact (belowL r6 _).drew)) (fun hS1 => ?_)
        refine lexg_more 0 [(1, 8), (3, 9)] #[true, true, true, true, true, true, true, true, true, true] (by kernel_rfl) (by decide) (by kernel_rfl) (by kernel_rfl) (fun _ _ _ _ _ h => h) (fun _ => by assumption) ?_
        simp only [List.map_cons, List.map_nil, List.getElem?_toArray, List.getElem?_cons_succ, List.getElem?_cons_zero]
        (refine lexg_eff (by rfl) ?_; go_simp; refine lexg_both (by (first | assumption | exact r6.drew | exact belowL (by assumption) _ | exact (belowL r6 _).drew)) (fun hS1 => ?_))
        (refine lexg_effN (by rfl) ?_; go_simp)
        refine lexg_nil (fun _ => wpAnyG_done (by kernel_rfl) ?_ _)
      rotate_left
      focus
        apply lexg_act (by simp only [List.getElem?_toArray, List.getElem?_cons_succ, List.getElem?_cons_zero]; rfl) (by rfl)
        go_simp
        refine lexg_both (by (first | assumption | exact r6.drew | exact belowL (by assumption) _ | exact (belowL r6 _).drew)) (fun hS1 => ?_)
        refine lexg_more 0 [(1, 7), (3, 9)] #[true, true, true, true, true, true, true, true, true, true] (by kernel_rfl) (by decide) (by kernel_rfl) (by kernel_rfl) (fun _ _ _ _ _ h => h) (fun _ => by assumption) ?_
        simp only [List.map_cons, List.map_nil, List.getElem?_toArray, List.getElem?_cons_succ, List.getElem?_cons_zero]
        (refine lexg_eff (by rfl) ?_; go_simp; ((go_at_call 78; with_reducible refine (HL2.out _).mono ?_; rintro e w7 ⟨rfl, hb7⟩; have hb7q : Below w6.heap.size w6 w7 := belowA hb7 (by assumption); (try (have qb : Blk w7 w6.heap.size 125 [.int .i64 0, .int .i64 0] := (by refine Blk.below ?_ hb7; first | exact Blk.new rfl | exact Blk.drewT (Blk.new rfl)); have q0 := qb.cell 0; have q1 := qb.cell 1; have qf := qb.frozen; simp only [List.getElem?_cons_succ, List.getElem?_cons_zero] at q0 q1)); clear hb7)); refine lexg_both (by (first | assumption | exact r6.drew | exact belowL (by assumption) _ | exact (belowL r6 _).drew)) (fun hS1 => ?_))
        (refine lexg_effN (by rfl) ?_; go_simp)
        refine lexg_nil (fun _ => wpAnyG_done (by kernel_rfl) ?_ _)
      rotate_left
      · skip
        rename_i hunm
        clear hunm
        obtain ⟨w8, hw8⟩ : ∃ w8, w7.alloc (.cells #[.int .i64 (ad - qd - td), .int .i64 (ar - qr - tr)] 125) = w8 := ⟨_, rfl⟩
        obtain ⟨nd, hnd⟩ : ∃ nd, w7.heap.size = nd := ⟨_, rfl⟩
        have hY : Blk w8 nd 125 [.int .i64 (ad - qd - td), .int .i64 (ar - qr - tr)] ∧ Below w6.heap.size w6 w8 := by
          subst hw8
          subst hnd
          exact ⟨Blk.new rfl, belowL hb7q _⟩
        rw [hw8, hnd]
        have HY := hide hY
        clear hY hw8 hnd hS2
        have r8 := Below.refl w8.heap.size w8
        have z0 := HY.out.1.rule 0 _ rfl
        have z1 := HY.out.1.rule 1 _ rfl
        have v0 := (HX.out.1.below HY.out.2).rule 0 _ rfl
        have v1 := (HX.out.1.below HY.out.2).rule 1 _ rfl
        have v3 := (HB6.out.below HY.out.2).rule 3 _ rfl
        have hch := H12.out.2.2.chg (L := []) (Chg.of_below (HX.out.2.trans (HY.out.2.mono HX.out.2.size))) (by simp)
        have HC8 := hide hch
        clear hch y0 y1 x3 r6 l2 hS0 hS1
        (try clear hb7q qb q0 q1 qf)
        go_upto_region 5 with fail
        refine region_lexg (fun w' => Below w8.heap.size w8 w') [6] 0 [(2, 0), (2, 1), (2, 2), (0, 3), (2, 4), (0, 5), (3, 6)] #[true, true, true, true, true, true, true] (by kernel_rfl) (by kernel_rfl) (by decide) (by kernel_rfl) (by kernel_rfl) (fun _ _ _ _ _ h => h) (by (first | assumption | exact r8.drew)) (fun hS0 => ?_)
        simp only [List.map_cons, List.map_nil, List.getElem?_toArray, List.getElem?_cons_succ, List.getElem?_cons_zero]
        (apply lexg_pure (by rfl); (focus (intro w; go_simp; (try with_reducible rfl); done)); simp only [Act.put, List.setIfInBounds_toArray, List.set_cons_zero, List.set_cons_succ])
        (apply lexg_pure (by rfl); (focus (intro w; go_simp; (try with_reducible rfl); done)); simp only [Act.put, List.setIfInBounds_toArray, List.set_cons_zero, List.set_cons_succ])
        (apply lexg_pure (by rfl); (focus (intro w; go_simp; (try with_reducible rfl); done)); simp only [Act.put, List.setIfInBounds_toArray, List.set_cons_zero, List.set_cons_succ])
        (apply lexg_take (by rfl); (focus (intro w hw; (try dsimp only at hw); go_simp; (try with_reducible rfl); done)); simp only [Act.put, List.setIfInBounds_toArray, List.set_cons_zero, List.set_cons_succ])
        (apply lexg_pure (by rfl); (focus (intro w; go_simp; (try with_reducible rfl); done)); simp only [Act.put, List.setIfInBounds_toArray, List.set_cons_zero, List.set_cons_succ])
        (apply lexg_take (by rfl); (focus (intro w hw; (try dsimp only at hw); go_simp; (try with_reducible rfl); done)); simp only [Act.put, List.setIfInBounds_toArray, List.set_cons_zero, List.set_cons_succ])
        (refine lexg_effN (by rfl) ?_; (refine Ctab.wp_put _ _ _ (⟨ad - qd, ar - qr⟩ : Cnt) rfl rfl rfl rfl (HC8.out.chg (L := []) (Chg.of_below r8.drew) (by simp)) hs (by omega) ?_; intro w9 ht9 hch9); simp only [Act.put])
        refine lexg_nil (fun _ => wpAnyG_done (by kernel_rfl) ?_ _)
        have hnb8 := (HB6.out.below HY.out.2).below r8.drew
        have hnd := (HY.out.1.below r8.drew).chg hch9 (by simp; exact ((HC8.out.chg (L := []) (Chg.of_below r8.drew) (by simp)).ne (HY.out.1.below r8.drew)).symm)
        have hB9 := hnb8.chg hch9 (by simp; exact ((HC8.out.chg (L := []) (Chg.of_below r8.drew) (by simp)).ne hnb8).symm)
        have hBW : Below w.heap.size w w8 := HX.out.2.trans (HY.out.2.mono HX.out.2.size)
        have hC1 := ((H12.out.2.1.chg (L := []) (Chg.of_below (hBW.trans (r8.drew.mono hBW.size))) (by simp)).chg hch9 (by simp; exact HNE.out))
        have hCH : Chg [b, m1, m2] w w9 := ((Chg.of_below (L := [b, m1, m2]) hBW).below r8.drew).trans hch9 (fun z hz => Or.inl (by rw [List.mem_singleton.1 hz]; simp))
        have H9 := hide (And.intro hB9 (And.intro hC1 (And.intro ht9 hCH)))
        have e0 := hnd.rule 0 _ rfl
        have e1 := hnd.rule 1 _ rfl
        have r9 := Below.refl w9.heap.size w9
        clear hnb8 hnd hB9 hBW hC1 hCH ht9 hch9 z0 z1 v0 v1 v3 r8 hS0
        go_upto_region 6 with fail
        refine region_lexg (fun w' => Below w9.heap.size w9 w') [5] 0 [(2, 0), (0, 1), (2, 2), (0, 3), (2, 4), (3, 5)] #[true, true, true, true, true, true] (by kernel_rfl) (by kernel_rfl) (by decide) (by kernel_rfl) (by kernel_rfl) (fun _ _ _ _ _ h => h) (by (first | assumption | exact r9.drew)) (fun hS0 => ?_)
        simp only [List.map_cons, List.map_nil, List.getElem?_toArray, List.getElem?_cons_succ, List.getElem?_cons_zero]
        (apply lexg_pure (by rfl); (focus (intro w; go_simp; (try with_reducible rfl); done)); simp only [Act.put, List.setIfInBounds_toArray, List.set_cons_zero, List.set_cons_succ])
        (apply lexg_take (by rfl); (focus (intro w hw; (try dsimp only at hw); go_simp; (try with_reducible rfl); done)); simp only [Act.put, List.setIfInBounds_toArray, List.set_cons_zero, List.set_cons_succ])
        (apply lexg_pure (by rfl); (focus (intro w; go_simp; (try with_reducible rfl); done)); simp only [Act.put, List.setIfInBounds_toArray, List.set_cons_zero, List.set_cons_succ])
        (apply lexg_take (by rfl); (focus (intro w hw; (try dsimp only at hw); go_simp; (try with_reducible rfl); done)); simp only [Act.put, List.setIfInBounds_toArray, List.set_cons_zero, List.set_cons_succ])
        (apply lexg_pure (by rfl); (focus (intro w; go_simp; (try with_reducible rfl); done)); simp only [Act.put, List.setIfInBounds_toArray, List.set_cons_zero, List.set_cons_succ])
        (refine lexg_effN (by rfl) ?_; go_simp)
        refine lexg_nil (fun _ => wpAnyG_done (by kernel_rfl) ?_ _)
        go_wp2
        refine bodyPost_ret (v := .tuple #[.int .i64 (ad - qd - td), .int .i64 (ar - qr - tr)]) (by simp [results, Tryz.results56, go_sem, *]) rfl ?_
        have hnow : Trk.now ⟨⟨ad, ar⟩, own, told⟩ s = ⟨ad - qd, ar - qr⟩ := by
          have := HQ.out
          (try simp only [] at this)
          simp only [Trk.now, this, Cnt.less]
        have hdel : Trk.delta ⟨⟨ad, ar⟩, own, told⟩ s = ⟨ad - qd - td, ar - qr - tr⟩ := by
          have := HT.out
          (try simp only [] at this)
          simp only [Trk.delta, hnow, this, Cnt.less]
        refine ⟨by rw [hdel], ⟨(HLE.out.beg s).mono (by omega), Or.inr ⟨m1, m2, rfl, HNE.out, H9.out.1.drewT, (H9.out.2.1.chg (L := []) (Chg.of_below r9.drew) (by simp)).mono (by omega), ?_⟩⟩, H9.out.2.2.2.drew⟩
        simp only [Trk.beg, hnow]
        exact H9.out.2.2.1.chg (L := []) (Chg.of_below r9.drew) (by simp)
      · skip
        rename_i hunm
        clear hunm
        obtain ⟨w8, hw8⟩ : ∃ w8, (w7.setCell ⟨w6.heap.size, 0, none⟩ (.int .i64 (ad - qd - td))).setCell ⟨w6.heap.size, 1, none⟩ (.int .i64 (ar - qr - tr)) = w8 := ⟨_, rfl⟩
        obtain ⟨nd, hnd⟩ : ∃ nd, w6.heap.size = nd := ⟨_, rfl⟩
        have hY : Blk w8 nd 125 [.int .i64 (ad - qd - td), .int .i64 (ar - qr - tr)] ∧ Below w6.heap.size w6 w8 := by
          subst hw8
          subst hnd
          exact ⟨(qb.set 0 (.int .i64 (ad - qd - td))).set 1 (.int .i64 (ar - qr - tr)), (hb7q.setCell (Nat.le_refl _) _).setCell (Nat.le_refl _) _⟩
        rw [hw8, hnd]
        have HY := hide hY
        clear hY hw8 hnd hS2
        have r8 := Below.refl w8.heap.size w8
        have z0 := HY.out.1.rule 0 _ rfl
        have z1 := HY.out.1.rule 1 _ rfl
        have v0 := (HX.out.1.below HY.out.2).rule 0 _ rfl
        have v1 := (HX.out.1.below HY.out.2).rule 1 _ rfl
        have v3 := (HB6.out.below HY.out.2).rule 3 _ rfl
        have hch := H12.out.2.2.chg (L := []) (Chg.of_below (HX.out.2.trans (HY.out.2.mono HX.out.2.size))) (by simp)
        have HC8 := hide hch
        clear hch y0 y1 x3 r6 l2 hS0 hS1
        (try clear hb7q qb q0 q1 qf)
        go_upto_region 5 with fail
        refine region_lexg (fun w' => Below w8.heap.size w8 w') [6] 0 [(2, 0), (2, 1), (2, 2), (0, 3), (2, 4), (0, 5), (3, 6)] #[true, true, true, true, true, true, true] (by kernel_rfl) (by kernel_rfl) (by decide) (by kernel_rfl) (by kernel_rfl) (fun _ _ _ _ _ h => h) (by (first | assumption | exact r8.drew)) (fun hS0 => ?_)
        simp only [List.map_cons, List.map_nil, List.getElem?_toArray, List.getElem?_cons_succ, List.getElem?_cons_zero]
        (apply lexg_pure (by rfl); (focus (intro w; go_simp; (try with_reducible rfl); done)); simp only [Act.put, List.setIfInBounds_toArray, List.set_cons_zero, List.set_cons_succ])
        (apply lexg_pure (by rfl); (focus (intro w; go_simp; (try with_reducible rfl); done)); simp only [Act.put, List.setIfInBounds_toArray, List.set_cons_zero, List.set_cons_succ])
        (apply lexg_pure (by rfl); (focus (intro w; go_simp; (try with_reducible rfl); done)); simp only [Act.put, List.setIfInBounds_toArray, List.set_cons_zero, List.set_cons_succ])
        (apply lexg_take (by rfl); (focus (intro w hw; (try dsimp only at hw); go_simp; (try with_reducible rfl); done)); simp only [Act.put, List.setIfInBounds_toArray, List.set_cons_zero, List.set_cons_succ])
        (apply lexg_pure (by rfl); (focus (intro w; go_simp; (try with_reducible rfl); done)); simp only [Act.put, List.setIfInBounds_toArray, List.set_cons_zero, List.set_cons_succ])
        (apply lexg_take (by rfl); (focus (intro w hw; (try dsimp only at hw); go_simp; (try with_reducible rfl); done)); simp only [Act.put, List.setIfInBounds_toArray, List.set_cons_zero, List.set_cons_succ])
        (refine lexg_effN (by rfl) ?_; (refine Ctab.wp_put _ _ _ (⟨ad - qd, ar - qr⟩ : Cnt) rfl rfl rfl rfl (HC8.out.chg (L := []) (Chg.of_below r8.drew) (by simp)) hs (by omega) ?_; intro w9 ht9 hch9); simp only [Act.put])
        refine lexg_nil (fun _ => wpAnyG_done (by kernel_rfl) ?_ _)
        have hnb8 := (HB6.out.below HY.out.2).below r8.drew
        have hnd := (HY.out.1.below r8.drew).chg hch9 (by simp; exact ((HC8.out.chg (L := []) (Chg.of_below r8.drew) (by simp)).ne (HY.out.1.below r8.drew)).symm)
        have hB9 := hnb8.chg hch9 (by simp; exact ((HC8.out.chg (L := []) (Chg.of_below r8.drew) (by simp)).ne hnb8).symm)
        have hBW : Below w.heap.size w w8 := HX.out.2.trans (HY.out.2.mono HX.out.2.size)
        have hC1 := ((H12.out.2.1.chg (L := []) (Chg.of_below (hBW.trans (r8.drew.mono hBW.size))) (by simp)).chg hch9 (by simp; exact HNE.out))
        have hCH : Chg [b, m1, m2] w w9 := ((Chg.of_below (L := [b, m1, m2]) hBW).below r8.drew).trans hch9 (fun z hz => Or.inl (by rw [List.mem_singleton.1 hz]; simp))
        have H9 := hide (And.intro hB9 (And.intro hC1 (And.intro ht9 hCH)))
        have e0 := hnd.rule 0 _ rfl
        have e1 := hnd.rule 1 _ rfl
        have r9 := Below.refl w9.heap.size w9
        clear hnb8 hnd hB9 hBW hC1 hCH ht9 hch9 z0 z1 v0 v1 v3 r8 hS0
        go_upto_region 6 with fail
        refine region_lexg (fun w' => Below w9.heap.size w9 w') [5] 0 [(2, 0), (0, 1), (2, 2), (0, 3), (2, 4), (3, 5)] #[true, true, true, true, true, true] (by kernel_rfl) (by kernel_rfl) (by decide) (by kernel_rfl) (by kernel_rfl) (fun _ _ _ _ _ h => h) (by (first | assumption | exact r9.drew)) (fun hS0 => ?_)
        simp only [List.map_cons, List.map_nil, List.getElem?_toArray, List.getElem?_cons_succ, List.getElem?_cons_zero]
        (apply lexg_pure (by rfl); (focus (intro w; go_simp; (try with_reducible rfl); done)); simp only [Act.put, List.setIfInBounds_toArray, List.set_cons_zero, List.set_cons_succ])
        (apply lexg_take (by rfl); (focus (intro w hw; (try dsimp only at hw); go_simp; (try with_reducible rfl); done)); simp only [Act.put, List.setIfInBounds_toArray, List.set_cons_zero, List.set_cons_succ])
        (apply lexg_pure (by rfl); (focus (intro w; go_simp; (try with_reducible rfl); done)); simp only [Act.put, List.setIfInBounds_toArray, List.set_cons_zero, List.set_cons_succ])
        (apply lexg_take (by rfl); (focus (intro w hw; (try dsimp only at hw); go_simp; (try with_reducible rfl); done)); simp only [Act.put, List.setIfInBounds_toArray, List.set_cons_zero, List.set_cons_succ])
        (apply lexg_pure (by rfl); (focus (intro w; go_simp; (try with_reducible rfl); done)); simp only [Act.put, List.setIfInBounds_toArray, List.set_cons_zero, List.set_cons_succ])
        (refine lexg_effN (by rfl) ?_; go_simp)
        refine lexg_nil (fun _ => wpAnyG_done (by kernel_rfl) ?_ _)
        go_wp2
        refine bodyPost_ret (v := .tuple #[.int .i64 (ad - qd - td), .int .i64 (ar - qr - tr)]) (by simp [results, Tryz.results56, go_sem, *]) rfl ?_
        have hnow : Trk.now ⟨⟨ad, ar⟩, own, told⟩ s = ⟨ad - qd, ar - qr⟩ := by
          have := HQ.out
          (try simp only [] at this)
          simp only [Trk.now, this, Cnt.less]
        have hdel : Trk.delta ⟨⟨ad, ar⟩, own, told⟩ s = ⟨ad - qd - td, ar - qr - tr⟩ := by
          have := HT.out
          (try simp only [] at this)
          simp only [Trk.delta, hnow, this, Cnt.less]
        refine ⟨by rw [hdel], ⟨(HLE.out.beg s).mono (by omega), Or.inr ⟨m1, m2, rfl, HNE.out, H9.out.1.drewT, (H9.out.2.1.chg (L := []) (Chg.of_below r9.drew) (by simp)).mono (by omega), ?_⟩⟩, H9.out.2.2.2.drew⟩
        simp only [Trk.beg, hnow]
        exact H9.out.2.2.1.chg (L := []) (Chg.of_below r9.drew) (by simp)
theorem Blk.oth {w : World} {b : Nat} {t : TypeId} {cs : List Value} (h : Blk w b t cs) {p : Addr} (hne : b ≠ p.block) (u : Value) : Blk (w.setCell p u) b t cs := h.keep (Below.heap_setCell w _ u b hne)
set_option maxHeartbeats 4000000 in
set_option maxRecDepth 100000 in
theorem tdone_calls (w : World) (F : List Nat) (b n : Nat) (T : Trk) (s p : Int) (h : TM w F b n T) (hs : i64ok s) (hn : n ≤ 100000) :
    Calls Tryz.prog 30 #[.pointer (some ⟨b, 0, none⟩), .int .i64 s, .int .i64 p] w fun e w' => e = .returned (.tuple #[]) ∧ ∃ F', TM w' F' b (n + 1) (T.fin s p) ∧ Chg F w w' ∧ (∀ x ∈ F', x ∈ F ∨ w.heap.size ≤ x) ∧ F'.Nodup := by
  have qm := eqlCm
  obtain ⟨hle, ⟨rfl, rfl, hb⟩ | ⟨m1, m2, rfl, hne, hb, h1, h2⟩⟩ := h
  · obtain ⟨T, hT⟩ : ∃ T : Trk, Trk.zero = T := ⟨_, rfl⟩
    rw [hT] at hle ⊢
    obtain ⟨⟨ad, ar⟩, own, told⟩ := T
    unfold Trk.zero Cnt.zero at hT
    injection hT with ha ho ht
    injection ha with ha1 ha2
    have rr := Below.refl w.heap.size w
    have e2 := hb.cell 2
    have e3 := hb.cell 3
    have ef := hb.frozen
    have hlt := hb.lt
    simp only [List.getElem?_cons_succ, List.getElem?_cons_zero] at e2 e3
    obtain ⟨m1, hm1⟩ : ∃ m1, w.heap.size = m1 := ⟨_, rfl⟩
    obtain ⟨m2, hm2⟩ : ∃ m2, w.heap.size + 1 = m2 := ⟨_, rfl⟩
    obtain ⟨v, hv⟩ : ∃ v, (w.setCell ⟨b, 2, none⟩ (.map (some m1))).setCell ⟨b, 3, none⟩ (.map (some m2)) = v := ⟨_, rfl⟩
    have hvs : v.heap.size = w.heap.size := by rw [← hv]; simp
    obtain ⟨wx, hwx⟩ : ∃ wx, (v.alloc (.map #[] 0)).alloc (.map #[] 0) = wx := ⟨_, rfl⟩
    have hbx : Blk wx b 128 [.int .i64 ad, .int .i64 ar, .map (some m1), .map (some m2)] := by
      rw [← hwx, ← hv, ← ha1, ← ha2]
      exact (((hb.set 2 _).set 3 _).alloc _).alloc _
    have hc2 : Chg [b] w v := hv ▸ ((Chg.refl _ _).setCell (Or.inl (by simp)) _).setCell (Or.inl (by simp)) _
    have h1 : Ctab wx m1 n own := by
      rw [← hwx, ← ho, ← hm1, ← hvs]
      exact ((Ctab.made v).chg (L := []) (w' := (v.alloc (.map #[] 0)).alloc (.map #[] 0)) ((Chg.refl _ _).alloc _) (by simp)).mono (by omega)
    have h2 : Ctab wx m2 n told := by
      rw [← hwx, ← ht, ← hm2, ← hvs]
      have h3 := Ctab.made (v.alloc (.map #[] 0))
      rw [show (v.alloc (.map #[] 0)).heap.size = v.heap.size + 1 from by simp] at h3
      exact h3.mono (by omega)
    have HCX : Hid (Chg [b] w wx) := hide (hwx ▸ (hc2.alloc _).alloc _)
    have HFR : Hid (∀ x ∈ [b, m1, m2], x ∈ [b] ∨ w.heap.size ≤ x) := hide (fun x hx => by
      simp only [List.mem_cons, List.not_mem_nil, or_false] at hx ⊢
      omega)
    have HM1 : Hid (∀ z, z = m1 → z ∈ [b] ∨ w.heap.size ≤ z) := hide (fun z hz => Or.inr (by omega))
    have HNE : Hid (m1 ≠ m2) := hide (by omega)
    have HWX := hide hwx
    have HMM := hide (And.intro hm1 hm2)
    have HV := hide hv
    clear hb hwx hm1 hm2 hc2 ha1 ha2 ho ht hv hvs
    have hmm := @run_makeMap Tryz.prog
    go_enter Tryz.func30, Tryz.ntmps30
    go_upto_region 2 with fail
    rw [HMM.out.2, HMM.out.1, HV.out, HWX.out]
    clear e2 e3 ef rr hlt
    have rx := Below.refl wx.heap.size wx
    have q8 := hbx.lt
    have x1 := hbx.rule 2 _ rfl
    have l1 : ∀ w', Below wx.heap.size wx w' → (Instr.lookup 126 (.map (some m1)) (.int .i64 s) false).run Tryz.prog w' = .ok (own s).val w' := fun w' hb' => (h1.chg (L := []) (Chg.of_below hb') (by simp)).look hs
    obtain ⟨⟨qd, qr⟩, hq⟩ : ∃ q, own s = q := ⟨_, rfl⟩
    rw [hq] at l1
    unfold Cnt.val at l1
    simp only [] at l1
    have k1 : IntKind.i64.wrap (ad + 1) = ad + 1 := by
      obtain ⟨q1, q2, q3, q4⟩ := hle.a; simp only [] at q1 q2 q3 q4; exact IntWalk.i64_in _ (by omega)
    have k2 : IntKind.i64.wrap (ar + 1) = ar + 1 := by
      obtain ⟨q1, q2, q3, q4⟩ := hle.a; simp only [] at q1 q2 q3 q4; exact IntWalk.i64_in _ (by omega)
    have k3 : IntKind.i64.wrap (qd + 1) = qd + 1 := by
      have := hle.own s; simp only [] at this; rw [hq] at this; obtain ⟨q1, q2, q3, q4⟩ := this; simp only [] at q1 q2 q3 q4; exact IntWalk.i64_in _ (by omega)
    have k4 : IntKind.i64.wrap (qr + 1) = qr + 1 := by
      have := hle.own s; simp only [] at this; rw [hq] at this; obtain ⟨q1, q2, q3, q4⟩ := this; simp only [] at q1 q2 q3 q4; exact IntWalk.i64_in _ (by omega)
    have HQ := hide hq
    have HLE := hide hle
    have HB := hide hbx
    clear hq hle hbx
    go_upto_region 3 with fail
    obtain ⟨w2, hw2⟩ : ∃ w2, wx.alloc (.cells #[.int .i64 qd, .int .i64 qr] 125) = w2 := ⟨_, rfl⟩
    obtain ⟨nb, hnb⟩ : ∃ nb, wx.heap.size = nb := ⟨_, rfl⟩
    have hw2b : Below wx.heap.size wx w2 := hw2 ▸ rx.alloc (Nat.le_refl _) _
    have hn2 : Blk w2 nb 125 [.int .i64 qd, .int .i64 qr] := by rw [← hw2, ← hnb]; exact Blk.new rfl
    have hb2 := HB.out.below hw2b
    have hne2 : b ≠ nb := by omega
    have H2 := hide (And.intro hb2 (And.intro hn2 (And.intro (h1.chg (L := []) (Chg.of_below hw2b) (by simp)) (And.intro (h2.chg (L := []) (Chg.of_below hw2b) (by simp)) (And.intro (HCX.out.below hw2b) (show w.heap.size ≤ nb from by rw [← hnb]; exact HCX.out.size))))))
    rw [hw2, hnb]
    have e0 := hb2.cell 0
    have e1 := hb2.cell 1
    have e2 := hb2.cell 2
    have e3 := hb2.cell 3
    have ef := hb2.frozen
    have q0 := hn2.cell 0
    have q1 := hn2.cell 1
    have qf := hn2.frozen
    simp only [List.getElem?_cons_succ, List.getElem?_cons_zero] at e0 e1 e2 e3 q0 q1
    have HNE2 := hide hne2
    have hne3 := hne2.symm
    have hl2 := hb2.lt
    have hl3 := hn2.lt
    clear x1 l1 h1 h2 rx hw2 hnb hw2b hb2 hn2 q8
    by_cases hp1 : p = 1
    · have hp : (p == 1) = true := by simp [hp1]
      have HP := hide hp1
      clear hp1
      go_upto_region 10 with fail
      rename_i hunm
      clear hunm
      obtain ⟨w3, hw3⟩ : ∃ w3, (((w2.setCell ⟨b, 1, none⟩ (.int .i64 (ar + 1))).setCell ⟨nb, 1, none⟩ (.int .i64 (qr + 1))).setCell ⟨b, 0, none⟩ (.int .i64 (ad + 1))).setCell ⟨nb, 0, none⟩ (.int .i64 (qd + 1)) = w3 := ⟨_, rfl⟩
      have hX : Blk w3 b 128 [.int .i64 (ad + 1), .int .i64 (ar + 1), .map (some m1), .map (some m2)] ∧ Blk w3 nb 125 [.int .i64 (qd + 1), .int .i64 (qr + 1)] ∧ Chg [b, nb] w2 w3 := by
        subst hw3
        exact ⟨((((H2.out.1.set 1 _).oth HNE2.out _).set 0 _).oth HNE2.out _), ((((H2.out.2.1.oth HNE2.out.symm _).set 1 _).oth HNE2.out.symm _).set 0 _), ((((Chg.refl _ _).setCell (Or.inl (by simp)) _).setCell (Or.inl (by simp)) _).setCell (Or.inl (by simp)) _).setCell (Or.inl (by simp)) _⟩
      rw [hw3]
      have HX := hide hX
      clear hX hw3 e0 e1 e2 e3 ef q0 q1 qf
      have r3 := Below.refl w3.heap.size w3
      have x1 := HX.out.1.rule 2 _ rfl
      have v0 := HX.out.2.1.rule 0 _ rfl
      have v1 := HX.out.2.1.rule 1 _ rfl
      have HC3 := hide (H2.out.2.2.1.chg HX.out.2.2 (by simp; exact ⟨H2.out.2.2.1.ne H2.out.1, H2.out.2.2.1.ne H2.out.2.1⟩))
      have HD3 := hide (H2.out.2.2.2.1.chg HX.out.2.2 (by simp; exact ⟨H2.out.2.2.2.1.ne H2.out.1, H2.out.2.2.2.1.ne H2.out.2.1⟩))
      have HCW := hide (H2.out.2.2.2.2.1.trans HX.out.2.2 (fun z hz => by
        simp only [List.mem_cons, List.not_mem_nil, or_false] at hz
        rcases hz with rfl | rfl
        · exact Or.inl (by simp)
        · exact Or.inr H2.out.2.2.2.2.2))
      go_upto_region 10 with fail
      refine region_lexg (fun w' => Below w3.heap.size w3 w') [6] 0 [(2, 0), (2, 1), (2, 2), (0, 3), (2, 4), (0, 5), (3, 6)] #[true, true, true, true, true, true, true] (by kernel_rfl) (by kernel_rfl) (by decide) (by kernel_rfl) (by kernel_rfl) (fun _ _ _ _ _ h => h) (by (first | assumption | exact r3.drew)) (fun hS0 => ?_)
      simp only [List.map_cons, List.map_nil, List.getElem?_toArray, List.getElem?_cons_succ, List.getElem?_cons_zero]
      (apply lexg_pure (by rfl); (focus (intro w; go_simp; (try with_reducible rfl); done)); simp only [Act.put, List.setIfInBounds_toArray, List.set_cons_zero, List.set_cons_succ])
      (apply lexg_pure (by rfl); (focus (intro w; go_simp; (try with_reducible rfl); done)); simp only [Act.put, List.setIfInBounds_toArray, List.set_cons_zero, List.set_cons_succ])
      (apply lexg_pure (by rfl); (focus (intro w; go_simp; (try with_reducible rfl); done)); simp only [Act.put, List.setIfInBounds_toArray, List.set_cons_zero, List.set_cons_succ])
      (apply lexg_take (by rfl); (focus (intro w hw; (try dsimp only at hw); go_simp; (try with_reducible rfl); done)); simp only [Act.put, List.setIfInBounds_toArray, List.set_cons_zero, List.set_cons_succ])
      (apply lexg_pure (by rfl); (focus (intro w; go_simp; (try with_reducible rfl); done)); simp only [Act.put, List.setIfInBounds_toArray, List.set_cons_zero, List.set_cons_succ])
      (apply lexg_take (by rfl); (focus (intro w hw; (try dsimp only at hw); go_simp; (try with_reducible rfl); done)); simp only [Act.put, List.setIfInBounds_toArray, List.set_cons_zero, List.set_cons_succ])
      (refine lexg_effN (by rfl) ?_; (refine Ctab.wp_put _ _ _ (⟨(qd + 1), (qr + 1)⟩ : Cnt) rfl rfl rfl rfl (HC3.out.chg (L := []) (Chg.of_below r3.drew) (by simp)) hs (by omega) ?_; intro w9 ht9 hch9); simp only [Act.put])
      refine lexg_nil (fun _ => wpAnyG_done (by kernel_rfl) ?_ _)
      have hb9 := (HX.out.1.below r3.drew).chg hch9 (by simp; exact (HC3.out.ne HX.out.1).symm)
      have hd9 := (HD3.out.chg (L := []) (Chg.of_below r3.drew) (by simp)).chg hch9 (by simp; exact HNE.out.symm)
      have HCH := hide ((HCW.out.below r3.drew).trans hch9 (fun z hz => HM1.out z (List.mem_singleton.1 hz)))
      have H9 := hide (And.intro hb9 (And.intro hd9 ht9))
      clear hb9 hd9 ht9 hch9 x1 v0 v1 r3 hS0
      go_wp2
      go_end0
      have hfin : Trk.fin ⟨⟨ad, ar⟩, own, told⟩ s p = ⟨⟨(ad + 1), (ar + 1)⟩, upC own s ⟨(qd + 1), (qr + 1)⟩, told⟩ := by
        have := HQ.out
        (try simp only [] at this)
        simp [Trk.fin, this, Cnt.more, HP.out]
      refine ⟨rfl, [b, m1, m2], ⟨HLE.out.fin s p, Or.inr ⟨m1, m2, rfl, HNE.out, ?_, ?_, ?_⟩⟩, HCH.out, (fun x hx => by first | exact HFR.out x hx | simpa using HFR.out x hx), ?_⟩
      · rw [hfin]; exact H9.out.1
      · rw [hfin]; exact H9.out.2.2
      · rw [hfin]; exact H9.out.2.1.mono (by omega)
      · simp only [List.nodup_cons, List.mem_cons, List.not_mem_nil, or_false, not_or, List.nodup_nil, and_true, not_false_eq_true]
        exact ⟨⟨(HC3.out.ne HX.out.1).symm, (HD3.out.ne HX.out.1).symm⟩, HNE.out⟩
    · by_cases hp2 : p = 2
      · have hp : (p == 1) = false := by simp [hp1]
        have hp' : (p == 2) = true := by simp [hp2]
        have HP := hide hp2
        have HP1 := hide hp1
        clear hp1 hp2
        go_upto_region 10 with fail
        rename_i hunm
        clear hunm
        obtain ⟨w3, hw3⟩ : ∃ w3, (w2.setCell ⟨b, 0, none⟩ (.int .i64 (ad + 1))).setCell ⟨nb, 0, none⟩ (.int .i64 (qd + 1)) = w3 := ⟨_, rfl⟩
        have hX : Blk w3 b 128 [.int .i64 (ad + 1), .int .i64 ar, .map (some m1), .map (some m2)] ∧ Blk w3 nb 125 [.int .i64 (qd + 1), .int .i64 qr] ∧ Chg [b, nb] w2 w3 := by
          subst hw3
          exact ⟨((H2.out.1.set 0 _).oth HNE2.out _), ((H2.out.2.1.oth HNE2.out.symm _).set 0 _), (((Chg.refl _ _).setCell (Or.inl (by simp)) _).setCell (Or.inl (by simp)) _)⟩
        rw [hw3]
        have HX := hide hX
        clear hX hw3 e0 e1 e2 e3 ef q0 q1 qf
        have r3 := Below.refl w3.heap.size w3
        have x1 := HX.out.1.rule 2 _ rfl
        have v0 := HX.out.2.1.rule 0 _ rfl
        have v1 := HX.out.2.1.rule 1 _ rfl
        have HC3 := hide (H2.out.2.2.1.chg HX.out.2.2 (by simp; exact ⟨H2.out.2.2.1.ne H2.out.1, H2.out.2.2.1.ne H2.out.2.1⟩))
        have HD3 := hide (H2.out.2.2.2.1.chg HX.out.2.2 (by simp; exact ⟨H2.out.2.2.2.1.ne H2.out.1, H2.out.2.2.2.1.ne H2.out.2.1⟩))
        have HCW := hide (H2.out.2.2.2.2.1.trans HX.out.2.2 (fun z hz => by
          simp only [List.mem_cons, List.not_mem_nil, or_false] at hz
          rcases hz with rfl | rfl
          · exact Or.inl (by simp)
          · exact Or.inr H2.out.2.2.2.2.2))
        go_upto_region 10 with fail
        refine region_lexg (fun w' => Below w3.heap.size w3 w') [6] 0 [(2, 0), (2, 1), (2, 2), (0, 3), (2, 4), (0, 5), (3, 6)] #[true, true, true, true, true, true, true] (by kernel_rfl) (by kernel_rfl) (by decide) (by kernel_rfl) (by kernel_rfl) (fun _ _ _ _ _ h => h) (by (first | assumption | exact r3.drew)) (fun hS0 => ?_)
        simp only [List.map_cons, List.map_nil, List.getElem?_toArray, List.getElem?_cons_succ, List.getElem?_cons_zero]
        (apply lexg_pure (by rfl); (focus (intro w; go_simp; (try with_reducible rfl); done)); simp only [Act.put, List.setIfInBounds_toArray, List.set_cons_zero, List.set_cons_succ])
        (apply lexg_pure (by rfl); (focus (intro w; go_simp; (try with_reducible rfl); done)); simp only [Act.put, List.setIfInBounds_toArray, List.set_cons_zero, List.set_cons_succ])
        (apply lexg_pure (by rfl); (focus (intro w; go_simp; (try with_reducible rfl); done)); simp only [Act.put, List.setIfInBounds_toArray, List.set_cons_zero, List.set_cons_succ])
        (apply lexg_take (by rfl); (focus (intro w hw; (try dsimp only at hw); go_simp; (try with_reducible rfl); done)); simp only [Act.put, List.setIfInBounds_toArray, List.set_cons_zero, List.set_cons_succ])
        (apply lexg_pure (by rfl); (focus (intro w; go_simp; (try with_reducible rfl); done)); simp only [Act.put, List.setIfInBounds_toArray, List.set_cons_zero, List.set_cons_succ])
        (apply lexg_take (by rfl); (focus (intro w hw; (try dsimp only at hw); go_simp; (try with_reducible rfl); done)); simp only [Act.put, List.setIfInBounds_toArray, List.set_cons_zero, List.set_cons_succ])
        (refine lexg_effN (by rfl) ?_; (refine Ctab.wp_put _ _ _ (⟨(qd + 1), qr⟩ : Cnt) rfl rfl rfl rfl (HC3.out.chg (L := []) (Chg.of_below r3.drew) (by simp)) hs (by omega) ?_; intro w9 ht9 hch9); simp only [Act.put])
        refine lexg_nil (fun _ => wpAnyG_done (by kernel_rfl) ?_ _)
        have hb9 := (HX.out.1.below r3.drew).chg hch9 (by simp; exact (HC3.out.ne HX.out.1).symm)
        have hd9 := (HD3.out.chg (L := []) (Chg.of_below r3.drew) (by simp)).chg hch9 (by simp; exact HNE.out.symm)
        have HCH := hide ((HCW.out.below r3.drew).trans hch9 (fun z hz => HM1.out z (List.mem_singleton.1 hz)))
        have H9 := hide (And.intro hb9 (And.intro hd9 ht9))
        clear hb9 hd9 ht9 hch9 x1 v0 v1 r3 hS0
        go_wp2
        go_end0
        have hfin : Trk.fin ⟨⟨ad, ar⟩, own, told⟩ s p = ⟨⟨(ad + 1), ar⟩, upC own s ⟨(qd + 1), qr⟩, told⟩ := by
          have := HQ.out
          (try simp only [] at this)
          simp [Trk.fin, this, Cnt.more, HP.out]
        refine ⟨rfl, [b, m1, m2], ⟨HLE.out.fin s p, Or.inr ⟨m1, m2, rfl, HNE.out, ?_, ?_, ?_⟩⟩, HCH.out, (fun x hx => by first | exact HFR.out x hx | simpa using HFR.out x hx), ?_⟩
        · rw [hfin]; exact H9.out.1
        · rw [hfin]; exact H9.out.2.2
        · rw [hfin]; exact H9.out.2.1.mono (by omega)
        · simp only [List.nodup_cons, List.mem_cons, List.not_mem_nil, or_false, not_or, List.nodup_nil, and_true, not_false_eq_true]
          exact ⟨⟨(HC3.out.ne HX.out.1).symm, (HD3.out.ne HX.out.1).symm⟩, HNE.out⟩
      · have hp : (p == 1) = false := by simp [hp1]
        have hp' : (p == 2) = false := by simp [hp2]
        have HP := hide hp2
        have HP1 := hide hp1
        clear hp1 hp2
        go_upto_region 10 with fail
        rename_i hunm
        clear hunm
        obtain ⟨w3, hw3⟩ : ∃ w3, w2 = w3 := ⟨_, rfl⟩
        have hX : Blk w3 b 128 [.int .i64 ad, .int .i64 ar, .map (some m1), .map (some m2)] ∧ Blk w3 nb 125 [.int .i64 qd, .int .i64 qr] ∧ Chg [b, nb] w2 w3 := by
          subst hw3
          exact ⟨H2.out.1, H2.out.2.1, Chg.refl _ _⟩
        rw [hw3]
        have HX := hide hX
        clear hX hw3 e0 e1 e2 e3 ef q0 q1 qf
        have r3 := Below.refl w3.heap.size w3
        have x1 := HX.out.1.rule 2 _ rfl
        have v0 := HX.out.2.1.rule 0 _ rfl
        have v1 := HX.out.2.1.rule 1 _ rfl
        have HC3 := hide (H2.out.2.2.1.chg HX.out.2.2 (by simp; exact ⟨H2.out.2.2.1.ne H2.out.1, H2.out.2.2.1.ne H2.out.2.1⟩))
        have HD3 := hide (H2.out.2.2.2.1.chg HX.out.2.2 (by simp; exact ⟨H2.out.2.2.2.1.ne H2.out.1, H2.out.2.2.2.1.ne H2.out.2.1⟩))
        have HCW := hide (H2.out.2.2.2.2.1.trans HX.out.2.2 (fun z hz => by
          simp only [List.mem_cons, List.not_mem_nil, or_false] at hz
          rcases hz with rfl | rfl
          · exact Or.inl (by simp)
          · exact Or.inr H2.out.2.2.2.2.2))
        go_upto_region 10 with fail
        refine region_lexg (fun w' => Below w3.heap.size w3 w') [6] 0 [(2, 0), (2, 1), (2, 2), (0, 3), (2, 4), (0, 5), (3, 6)] #[true, true, true, true, true, true, true] (by kernel_rfl) (by kernel_rfl) (by decide) (by kernel_rfl) (by kernel_rfl) (fun _ _ _ _ _ h => h) (by (first | assumption | exact r3.drew)) (fun hS0 => ?_)
        simp only [List.map_cons, List.map_nil, List.getElem?_toArray, List.getElem?_cons_succ, List.getElem?_cons_zero]
        (apply lexg_pure (by rfl); (focus (intro w; go_simp; (try with_reducible rfl); done)); simp only [Act.put, List.setIfInBounds_toArray, List.set_cons_zero, List.set_cons_succ])
        (apply lexg_pure (by rfl); (focus (intro w; go_simp; (try with_reducible rfl); done)); simp only [Act.put, List.setIfInBounds_toArray, List.set_cons_zero, List.set_cons_succ])
        (apply lexg_pure (by rfl); (focus (intro w; go_simp; (try with_reducible rfl); done)); simp only [Act.put, List.setIfInBounds_toArray, List.set_cons_zero, List.set_cons_succ])
        (apply lexg_take (by rfl); (focus (intro w hw; (try dsimp only at hw); go_simp; (try with_reducible rfl); done)); simp only [Act.put, List.setIfInBounds_toArray, List.set_cons_zero, List.set_cons_succ])
        (apply lexg_pure (by rfl); (focus (intro w; go_simp; (try with_reducible rfl); done)); simp only [Act.put, List.setIfInBounds_toArray, List.set_cons_zero, List.set_cons_succ])
        (apply lexg_take (by rfl); (focus (intro w hw; (try dsimp only at hw); go_simp; (try with_reducible rfl); done)); simp only [Act.put, List.setIfInBounds_toArray, List.set_cons_zero, List.set_cons_succ])
        (refine lexg_effN (by rfl) ?_; (refine Ctab.wp_put _ _ _ (⟨qd, qr⟩ : Cnt) rfl rfl rfl rfl (HC3.out.chg (L := []) (Chg.of_below r3.drew) (by simp)) hs (by omega) ?_; intro w9 ht9 hch9); simp only [Act.put])
        refine lexg_nil (fun _ => wpAnyG_done (by kernel_rfl) ?_ _)
        have hb9 := (HX.out.1.below r3.drew).chg hch9 (by simp; exact (HC3.out.ne HX.out.1).symm)
        have hd9 := (HD3.out.chg (L := []) (Chg.of_below r3.drew) (by simp)).chg hch9 (by simp; exact HNE.out.symm)
        have HCH := hide ((HCW.out.below r3.drew).trans hch9 (fun z hz => HM1.out z (List.mem_singleton.1 hz)))
        have H9 := hide (And.intro hb9 (And.intro hd9 ht9))
        clear hb9 hd9 ht9 hch9 x1 v0 v1 r3 hS0
        go_wp2
        go_end0
        have hfin : Trk.fin ⟨⟨ad, ar⟩, own, told⟩ s p = ⟨⟨ad, ar⟩, upC own s ⟨qd, qr⟩, told⟩ := by
          have := HQ.out
          (try simp only [] at this)
          simp [Trk.fin, this, Cnt.more, HP.out, HP1.out]
        refine ⟨rfl, [b, m1, m2], ⟨HLE.out.fin s p, Or.inr ⟨m1, m2, rfl, HNE.out, ?_, ?_, ?_⟩⟩, HCH.out, (fun x hx => by first | exact HFR.out x hx | simpa using HFR.out x hx), ?_⟩
        · rw [hfin]; exact H9.out.1
        · rw [hfin]; exact H9.out.2.2
        · rw [hfin]; exact H9.out.2.1.mono (by omega)
        · simp only [List.nodup_cons, List.mem_cons, List.not_mem_nil, or_false, not_or, List.nodup_nil, and_true, not_false_eq_true]
          exact ⟨⟨(HC3.out.ne HX.out.1).symm, (HD3.out.ne HX.out.1).symm⟩, HNE.out⟩
  · obtain ⟨⟨ad, ar⟩, own, told⟩ := T
    have rr := Below.refl w.heap.size w
    have x2 := hb.rule 2 _ rfl
    have HFR : Hid (∀ x ∈ [b, m1, m2], x ∈ [b, m1, m2] ∨ w.heap.size ≤ x) := hide (fun x hx => Or.inl hx)
    have HM1 : Hid (∀ z, z = m1 → z ∈ [b, m1, m2] ∨ w.heap.size ≤ z) := hide (fun z hz => Or.inl (by rw [hz]; simp))
    have HNE := hide hne
    obtain ⟨wx, hwx⟩ : ∃ wx, w = wx := ⟨_, rfl⟩
    have HCX : Hid (Chg [b, m1, m2] w wx) := hide (by subst hwx; exact Chg.refl _ _)
    have hbx : Blk wx b 128 [.int .i64 ad, .int .i64 ar, .map (some m1), .map (some m2)] := by subst hwx; exact hb
    rw [hwx] at h1 h2
    have HWX := hide hwx
    clear hne hb hwx
    go_enter Tryz.func30, Tryz.ntmps30
    go_upto_region 2 with fail
    rw [HWX.out]
    clear x2 rr
    have rx := Below.refl wx.heap.size wx
    have q8 := hbx.lt
    have x1 := hbx.rule 2 _ rfl
    have l1 : ∀ w', Below wx.heap.size wx w' → (Instr.lookup 126 (.map (some m1)) (.int .i64 s) false).run Tryz.prog w' = .ok (own s).val w' := fun w' hb' => (h1.chg (L := []) (Chg.of_below hb') (by simp)).look hs
    obtain ⟨⟨qd, qr⟩, hq⟩ : ∃ q, own s = q := ⟨_, rfl⟩
    rw [hq] at l1
    unfold Cnt.val at l1
    simp only [] at l1
    have k1 : IntKind.i64.wrap (ad + 1) = ad + 1 := by
      obtain ⟨q1, q2, q3, q4⟩ := hle.a; simp only [] at q1 q2 q3 q4; exact IntWalk.i64_in _ (by omega)
    have k2 : IntKind.i64.wrap (ar + 1) = ar + 1 := by
      obtain ⟨q1, q2, q3, q4⟩ := hle.a; simp only [] at q1 q2 q3 q4; exact IntWalk.i64_in _ (by omega)
    have k3 : IntKind.i64.wrap (qd + 1) = qd + 1 := by
      have := hle.own s; simp only [] at this; rw [hq] at this; obtain ⟨q1, q2, q3, q4⟩ := this; simp only [] at q1 q2 q3 q4; exact IntWalk.i64_in _ (by omega)
    have k4 : IntKind.i64.wrap (qr + 1) = qr + 1 := by
      have := hle.own s; simp only [] at this; rw [hq] at this; obtain ⟨q1, q2, q3, q4⟩ := this; simp only [] at q1 q2 q3 q4; exact IntWalk.i64_in _ (by omega)
    have HQ := hide hq
    have HLE := hide hle
    have HB := hide hbx
    clear hq hle hbx
    go_upto_region 3 with fail
    obtain ⟨w2, hw2⟩ : ∃ w2, wx.alloc (.cells #[.int .i64 qd, .int .i64 qr] 125) = w2 := ⟨_, rfl⟩
    obtain ⟨nb, hnb⟩ : ∃ nb, wx.heap.size = nb := ⟨_, rfl⟩
    have hw2b : Below wx.heap.size wx w2 := hw2 ▸ rx.alloc (Nat.le_refl _) _
    have hn2 : Blk w2 nb 125 [.int .i64 qd, .int .i64 qr] := by rw [← hw2, ← hnb]; exact Blk.new rfl
    have hb2 := HB.out.below hw2b
    have hne2 : b ≠ nb := by omega
    have H2 := hide (And.intro hb2 (And.intro hn2 (And.intro (h1.chg (L := []) (Chg.of_below hw2b) (by simp)) (And.intro (h2.chg (L := []) (Chg.of_below hw2b) (by simp)) (And.intro (HCX.out.below hw2b) (show w.heap.size ≤ nb from by rw [← hnb]; exact HCX.out.size))))))
    rw [hw2, hnb]
    have e0 := hb2.cell 0
    have e1 := hb2.cell 1
    have e2 := hb2.cell 2
    have e3 := hb2.cell 3
    have ef := hb2.frozen
    have q0 := hn2.cell 0
    have q1 := hn2.cell 1
    have qf := hn2.frozen
    simp only [List.getElem?_cons_succ, List.getElem?_cons_zero] at e0 e1 e2 e3 q0 q1
    have HNE2 := hide hne2
    have hne3 := hne2.symm
    have hl2 := hb2.lt
    have hl3 := hn2.lt
    clear x1 l1 h1 h2 rx hw2 hnb hw2b hb2 hn2 q8
    by_cases hp1 : p = 1
    · have hp : (p == 1) = true := by simp [hp1]
      have HP := hide hp1
      clear hp1
      go_upto_region 10 with fail
      rename_i hunm
      clear hunm
      obtain ⟨w3, hw3⟩ : ∃ w3, (((w2.setCell ⟨b, 1, none⟩ (.int .i64 (ar + 1))).setCell ⟨nb, 1, none⟩ (.int .i64 (qr + 1))).setCell ⟨b, 0, none⟩ (.int .i64 (ad + 1))).setCell ⟨nb, 0, none⟩ (.int .i64 (qd + 1)) = w3 := ⟨_, rfl⟩
      have hX : Blk w3 b 128 [.int .i64 (ad + 1), .int .i64 (ar + 1), .map (some m1), .map (some m2)] ∧ Blk w3 nb 125 [.int .i64 (qd + 1), .int .i64 (qr + 1)] ∧ Chg [b, nb] w2 w3 := by
        subst hw3
        exact ⟨((((H2.out.1.set 1 _).oth HNE2.out _).set 0 _).oth HNE2.out _), ((((H2.out.2.1.oth HNE2.out.symm _).set 1 _).oth HNE2.out.symm _).set 0 _), ((((Chg.refl _ _).setCell (Or.inl (by simp)) _).setCell (Or.inl (by simp)) _).setCell (Or.inl (by simp)) _).setCell (Or.inl (by simp)) _⟩
      rw [hw3]
      have HX := hide hX
      clear hX hw3 e0 e1 e2 e3 ef q0 q1 qf
      have r3 := Below.refl w3.heap.size w3
      have x1 := HX.out.1.rule 2 _ rfl
      have v0 := HX.out.2.1.rule 0 _ rfl
      have v1 := HX.out.2.1.rule 1 _ rfl
      have HC3 := hide (H2.out.2.2.1.chg HX.out.2.2 (by simp; exact ⟨H2.out.2.2.1.ne H2.out.1, H2.out.2.2.1.ne H2.out.2.1⟩))
      have HD3 := hide (H2.out.2.2.2.1.chg HX.out.2.2 (by simp; exact ⟨H2.out.2.2.2.1.ne H2.out.1, H2.out.2.2.2.1.ne H2.out.2.1⟩))
      have HCW := hide (H2.out.2.2.2.2.1.trans HX.out.2.2 (fun z hz => by
        simp only [List.mem_cons, List.not_mem_nil, or_false] at hz
        rcases hz with rfl | rfl
        · exact Or.inl (by simp)
        · exact Or.inr H2.out.2.2.2.2.2))
      go_upto_region 10 with fail
      refine region_lexg (fun w' => Below w3.heap.size w3 w') [6] 0 [(2, 0), (2, 1), (2, 2), (0, 3), (2, 4), (0, 5), (3, 6)] #[true, true, true, true, true, true, true] (by kernel_rfl) (by kernel_rfl) (by decide) (by kernel_rfl) (by kernel_rfl) (fun _ _ _ _ _ h => h) (by (first | assumption | exact r3.drew)) (fun hS0 => ?_)
      simp only [List.map_cons, List.map_nil, List.getElem?_toArray, List.getElem?_cons_succ, List.getElem?_cons_zero]
      (apply lexg_pure (by rfl); (focus (intro w; go_simp; (try with_reducible rfl); done)); simp only [Act.put, List.setIfInBounds_toArray, List.set_cons_zero, List.set_cons_succ])
      (apply lexg_pure (by rfl); (focus (intro w; go_simp; (try with_reducible rfl); done)); simp only [Act.put, List.setIfInBounds_toArray, List.set_cons_zero, List.set_cons_succ])
      (apply lexg_pure (by rfl); (focus (intro w; go_simp; (try with_reducible rfl); done)); simp only [Act.put, List.setIfInBounds_toArray, List.set_cons_zero, List.set_cons_succ])
      (apply lexg_take (by rfl); (focus (intro w hw; (try dsimp only at hw); go_simp; (try with_reducible rfl); done)); simp only [Act.put, List.setIfInBounds_toArray, List.set_cons_zero, List.set_cons_succ])
      (apply lexg_pure (by rfl); (focus (intro w; go_simp; (try with_reducible rfl); done)); simp only [Act.put, List.setIfInBounds_toArray, List.set_cons_zero, List.set_cons_succ])
      (apply lexg_take (by rfl); (focus (intro w hw; (try dsimp only at hw); go_simp; (try with_reducible rfl); done)); simp only [Act.put, List.setIfInBounds_toArray, List.set_cons_zero, List.set_cons_succ])
      (refine lexg_effN (by rfl) ?_; (refine Ctab.wp_put _ _ _ (⟨(qd + 1), (qr + 1)⟩ : Cnt) rfl rfl rfl rfl (HC3.out.chg (L := []) (Chg.of_below r3.drew) (by simp)) hs (by omega) ?_; intro w9 ht9 hch9); simp only [Act.put])
      refine lexg_nil (fun _ => wpAnyG_done (by kernel_rfl) ?_ _)
      have hb9 := (HX.out.1.below r3.drew).chg hch9 (by simp; exact (HC3.out.ne HX.out.1).symm)
      have hd9 := (HD3.out.chg (L := []) (Chg.of_below r3.drew) (by simp)).chg hch9 (by simp; exact HNE.out.symm)
      have HCH := hide ((HCW.out.below r3.drew).trans hch9 (fun z hz => HM1.out z (List.mem_singleton.1 hz)))
      have H9 := hide (And.intro hb9 (And.intro hd9 ht9))
      clear hb9 hd9 ht9 hch9 x1 v0 v1 r3 hS0
      go_wp2
      go_end0
      have hfin : Trk.fin ⟨⟨ad, ar⟩, own, told⟩ s p = ⟨⟨(ad + 1), (ar + 1)⟩, upC own s ⟨(qd + 1), (qr + 1)⟩, told⟩ := by
        have := HQ.out
        (try simp only [] at this)
        simp [Trk.fin, this, Cnt.more, HP.out]
      refine ⟨rfl, [b, m1, m2], ⟨HLE.out.fin s p, Or.inr ⟨m1, m2, rfl, HNE.out, ?_, ?_, ?_⟩⟩, HCH.out, (fun x hx => by first | exact HFR.out x hx | simpa using HFR.out x hx), ?_⟩
      · rw [hfin]; exact H9.out.1
      · rw [hfin]; exact H9.out.2.2
      · rw [hfin]; exact H9.out.2.1.mono (by omega)
      · simp only [List.nodup_cons, List.mem_cons, List.not_mem_nil, or_false, not_or, List.nodup_nil, and_true, not_false_eq_true]
        exact ⟨⟨(HC3.out.ne HX.out.1).symm, (HD3.out.ne HX.out.1).symm⟩, HNE.out⟩
    · by_cases hp2 : p = 2
      · have hp : (p == 1) = false := by simp [hp1]
        have hp' : (p == 2) = true := by simp [hp2]
        have HP := hide hp2
        have HP1 := hide hp1
        clear hp1 hp2
        go_upto_region 10 with fail
        rename_i hunm
        clear hunm
        obtain ⟨w3, hw3⟩ : ∃ w3, (w2.setCell ⟨b, 0, none⟩ (.int .i64 (ad + 1))).setCell ⟨nb, 0, none⟩ (.int .i64 (qd + 1)) = w3 := ⟨_, rfl⟩
        have hX : Blk w3 b 128 [.int .i64 (ad + 1), .int .i64 ar, .map (some m1), .map (some m2)] ∧ Blk w3 nb 125 [.int .i64 (qd + 1), .int .i64 qr] ∧ Chg [b, nb] w2 w3 := by
          subst hw3
          exact ⟨((H2.out.1.set 0 _).oth HNE2.out _), ((H2.out.2.1.oth HNE2.out.symm _).set 0 _), (((Chg.refl _ _).setCell (Or.inl (by simp)) _).setCell (Or.inl (by simp)) _)⟩
        rw [hw3]
        have HX := hide hX
        clear hX hw3 e0 e1 e2 e3 ef q0 q1 qf
        have r3 := Below.refl w3.heap.size w3
        have x1 := HX.out.1.rule 2 _ rfl
        have v0 := HX.out.2.1.rule 0 _ rfl
        have v1 := HX.out.2.1.rule 1 _ rfl
        have HC3 := hide (H2.out.2.2.1.chg HX.out.2.2 (by simp; exact ⟨H2.out.2.2.1.ne H2.out.1, H2.out.2.2.1.ne H2.out.2.1⟩))
        have HD3 := hide (H2.out.2.2.2.1.chg HX.out.2.2 (by simp; exact ⟨H2.out.2.2.2.1.ne H2.out.1, H2.out.2.2.2.1.ne H2.out.2.1⟩))
        have HCW := hide (H2.out.2.2.2.2.1.trans HX.out.2.2 (fun z hz => by
          simp only [List.mem_cons, List.not_mem_nil, or_false] at hz
          rcases hz with rfl | rfl
          · exact Or.inl (by simp)
          · exact Or.inr H2.out.2.2.2.2.2))
        go_upto_region 10 with fail
        refine region_lexg (fun w' => Below w3.heap.size w3 w') [6] 0 [(2, 0), (2, 1), (2, 2), (0, 3), (2, 4), (0, 5), (3, 6)] #[true, true, true, true, true, true, true] (by kernel_rfl) (by kernel_rfl) (by decide) (by kernel_rfl) (by kernel_rfl) (fun _ _ _ _ _ h => h) (by (first | assumption | exact r3.drew)) (fun hS0 => ?_)
        simp only [List.map_cons, List.map_nil, List.getElem?_toArray, List.getElem?_cons_succ, List.getElem?_cons_zero]
        (apply lexg_pure (by rfl); (focus (intro w; go_simp; (try with_reducible rfl); done)); simp only [Act.put, List.setIfInBounds_toArray, List.set_cons_zero, List.set_cons_succ])
        (apply lexg_pure (by rfl); (focus (intro w; go_simp; (try with_reducible rfl); done)); simp only [Act.put, List.setIfInBounds_toArray, List.set_cons_zero, List.set_cons_succ])
        (apply lexg_pure (by rfl); (focus (intro w; go_simp; (try with_reducible rfl); done)); simp only [Act.put, List.setIfInBounds_toArray, List.set_cons_zero, List.set_cons_succ])
        (apply lexg_take (by rfl); (focus (intro w hw; (try dsimp only at hw); go_simp; (try with_reducible rfl); done)); simp only [Act.put, List.setIfInBounds_toArray, List.set_cons_zero, List.set_cons_succ])
        (apply lexg_pure (by rfl); (focus (intro w; go_simp; (try with_reducible rfl); done)); simp only [Act.put, List.setIfInBounds_toArray, List.set_cons_zero, List.set_cons_succ])
        (apply lexg_take (by rfl); (focus (intro w hw; (try dsimp only at hw); go_simp; (try with_reducible rfl); done)); simp only [Act.put, List.setIfInBounds_toArray, List.set_cons_zero, List.set_cons_succ])
        (refine lexg_effN (by rfl) ?_; (refine Ctab.wp_put _ _ _ (⟨(qd + 1), qr⟩ : Cnt) rfl rfl rfl rfl (HC3.out.chg (L := []) (Chg.of_below r3.drew) (by simp)) hs (by omega) ?_; intro w9 ht9 hch9); simp only [Act.put])
        refine lexg_nil (fun _ => wpAnyG_done (by kernel_rfl) ?_ _)
        have hb9 := (HX.out.1.below r3.drew).chg hch9 (by simp; exact (HC3.out.ne HX.out.1).symm)
        have hd9 := (HD3.out.chg (L := []) (Chg.of_below r3.drew) (by simp)).chg hch9 (by simp; exact HNE.out.symm)
        have HCH := hide ((HCW.out.below r3.drew).trans hch9 (fun z hz => HM1.out z (List.mem_singleton.1 hz)))
        have H9 := hide (And.intro hb9 (And.intro hd9 ht9))
        clear hb9 hd9 ht9 hch9 x1 v0 v1 r3 hS0
        go_wp2
        go_end0
        have hfin : Trk.fin ⟨⟨ad, ar⟩, own, told⟩ s p = ⟨⟨(ad + 1), ar⟩, upC own s ⟨(qd + 1), qr⟩, told⟩ := by
          have := HQ.out
          (try simp only [] at this)
          simp [Trk.fin, this, Cnt.more, HP.out]
        refine ⟨rfl, [b, m1, m2], ⟨HLE.out.fin s p, Or.inr ⟨m1, m2, rfl, HNE.out, ?_, ?_, ?_⟩⟩, HCH.out, (fun x hx => by first | exact HFR.out x hx | simpa using HFR.out x hx), ?_⟩
        · rw [hfin]; exact H9.out.1
        · rw [hfin]; exact H9.out.2.2
        · rw [hfin]; exact H9.out.2.1.mono (by omega)
        · simp only [List.nodup_cons, List.mem_cons, List.not_mem_nil, or_false, not_or, List.nodup_nil, and_true, not_false_eq_true]
          exact ⟨⟨(HC3.out.ne HX.out.1).symm, (HD3.out.ne HX.out.1).symm⟩, HNE.out⟩
      · have hp : (p == 1) = false := by simp [hp1]
        have hp' : (p == 2) = false := by simp [hp2]
        have HP := hide hp2
        have HP1 := hide hp1
        clear hp1 hp2
        go_upto_region 10 with fail
        rename_i hunm
        clear hunm
        obtain ⟨w3, hw3⟩ : ∃ w3, w2 = w3 := ⟨_, rfl⟩
        have hX : Blk w3 b 128 [.int .i64 ad, .int .i64 ar, .map (some m1), .map (some m2)] ∧ Blk w3 nb 125 [.int .i64 qd, .int .i64 qr] ∧ Chg [b, nb] w2 w3 := by
          subst hw3
          exact ⟨H2.out.1, H2.out.2.1, Chg.refl _ _⟩
        rw [hw3]
        have HX := hide hX
        clear hX hw3 e0 e1 e2 e3 ef q0 q1 qf
        have r3 := Below.refl w3.heap.size w3
        have x1 := HX.out.1.rule 2 _ rfl
        have v0 := HX.out.2.1.rule 0 _ rfl
        have v1 := HX.out.2.1.rule 1 _ rfl
        have HC3 := hide (H2.out.2.2.1.chg HX.out.2.2 (by simp; exact ⟨H2.out.2.2.1.ne H2.out.1, H2.out.2.2.1.ne H2.out.2.1⟩))
        have HD3 := hide (H2.out.2.2.2.1.chg HX.out.2.2 (by simp; exact ⟨H2.out.2.2.2.1.ne H2.out.1, H2.out.2.2.2.1.ne H2.out.2.1⟩))
        have HCW := hide (H2.out.2.2.2.2.1.trans HX.out.2.2 (fun z hz => by
          simp only [List.mem_cons, List.not_mem_nil, or_false] at hz
          rcases hz with rfl | rfl
          · exact Or.inl (by simp)
          · exact Or.inr H2.out.2.2.2.2.2))
        go_upto_region 10 with fail
        refine region_lexg (fun w' => Below w3.heap.size w3 w') [6] 0 [(2, 0), (2, 1), (2, 2), (0, 3), (2, 4), (0, 5), (3, 6)] #[true, true, true, true, true, true, true] (by kernel_rfl) (by kernel_rfl) (by decide) (by kernel_rfl) (by kernel_rfl) (fun _ _ _ _ _ h => h) (by (first | assumption | exact r3.drew)) (fun hS0 => ?_)
        simp only [List.map_cons, List.map_nil, List.getElem?_toArray, List.getElem?_cons_succ, List.getElem?_cons_zero]
        (apply lexg_pure (by rfl); (focus (intro w; go_simp; (try with_reducible rfl); done)); simp only [Act.put, List.setIfInBounds_toArray, List.set_cons_zero, List.set_cons_succ])
        (apply lexg_pure (by rfl); (focus (intro w; go_simp; (try with_reducible rfl); done)); simp only [Act.put, List.setIfInBounds_toArray, List.set_cons_zero, List.set_cons_succ])
        (apply lexg_pure (by rfl); (focus (intro w; go_simp; (try with_reducible rfl); done)); simp only [Act.put, List.setIfInBounds_toArray, List.set_cons_zero, List.set_cons_succ])
        (apply lexg_take (by rfl); (focus (intro w hw; (try dsimp only at hw); go_simp; (try with_reducible rfl); done)); simp only [Act.put, List.setIfInBounds_toArray, List.set_cons_zero, List.set_cons_succ])
        (apply lexg_pure (by rfl); (focus (intro w; go_simp; (try with_reducible rfl); done)); simp only [Act.put, List.setIfInBounds_toArray, List.set_cons_zero, List.set_cons_succ])
        (apply lexg_take (by rfl); (focus (intro w hw; (try dsimp only at hw); go_simp; (try with_reducible rfl); done)); simp only [Act.put, List.setIfInBounds_toArray, List.set_cons_zero, List.set_cons_succ])
        (refine lexg_effN (by rfl) ?_; (refine Ctab.wp_put _ _ _ (⟨qd, qr⟩ : Cnt) rfl rfl rfl rfl (HC3.out.chg (L := []) (Chg.of_below r3.drew) (by simp)) hs (by omega) ?_; intro w9 ht9 hch9); simp only [Act.put])
        refine lexg_nil (fun _ => wpAnyG_done (by kernel_rfl) ?_ _)
        have hb9 := (HX.out.1.below r3.drew).chg hch9 (by simp; exact (HC3.out.ne HX.out.1).symm)
        have hd9 := (HD3.out.chg (L := []) (Chg.of_below r3.drew) (by simp)).chg hch9 (by simp; exact HNE.out.symm)
        have HCH := hide ((HCW.out.below r3.drew).trans hch9 (fun z hz => HM1.out z (List.mem_singleton.1 hz)))
        have H9 := hide (And.intro hb9 (And.intro hd9 ht9))
        clear hb9 hd9 ht9 hch9 x1 v0 v1 r3 hS0
        go_wp2
        go_end0
        have hfin : Trk.fin ⟨⟨ad, ar⟩, own, told⟩ s p = ⟨⟨ad, ar⟩, upC own s ⟨qd, qr⟩, told⟩ := by
          have := HQ.out
          (try simp only [] at this)
          simp [Trk.fin, this, Cnt.more, HP.out, HP1.out]
        refine ⟨rfl, [b, m1, m2], ⟨HLE.out.fin s p, Or.inr ⟨m1, m2, rfl, HNE.out, ?_, ?_, ?_⟩⟩, HCH.out, (fun x hx => by first | exact HFR.out x hx | simpa using HFR.out x hx), ?_⟩
        · rw [hfin]; exact H9.out.1
        · rw [hfin]; exact H9.out.2.2
        · rw [hfin]; exact H9.out.2.1.mono (by omega)
        · simp only [List.nodup_cons, List.mem_cons, List.not_mem_nil, or_false, not_or, List.nodup_nil, and_true, not_false_eq_true]
          exact ⟨⟨(HC3.out.ne HX.out.1).symm, (HD3.out.ne HX.out.1).symm⟩, HNE.out⟩
end Go.Proofs.YtanfdnpnkdiiiaaGreat
