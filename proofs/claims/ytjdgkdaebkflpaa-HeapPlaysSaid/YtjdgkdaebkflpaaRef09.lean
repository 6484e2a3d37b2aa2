/- The walks through the document's heap: At, Out, Names, Put. -/
import Derived.Test.YtjdgkdaebkflpaaAll
namespace Go.Proofs.Ytjdgkdaebkflpaa
open Go.RowKit Go.Proofs
set_option linter.unusedVariables false

def AtX (L : List Ld) (k z : Int) : Prop := (z = -1 ∧ ∀ y ∈ L, y.id ≠ k) ∨ ∃ i, i < L.length ∧ z = (i : Int) ∧ (gt L i).id = k
set_option maxHeartbeats 1000000 in
theorem rat_calls (A : Option Addr) (n c : Nat) (L : List Ld) (k : Int) (w : World) (hr : Reads w w.heap.size 2 A n (ldCells L)) (hn : L.length = n) (hnn : n ≤ 1000000) :
    Calls Try.prog 40 #[.slice A n c, .int .i64 k] w fun e w' => (∃ z, e = .returned (.int .i64 z) ∧ AtX L k z) ∧ w = w' := by
  have HN := hide hn
  clear hn
  go_enter Try.func40, Try.ntmps40
  go_wp2
  go_loop [4, 5] (fun r i => ∃ j : Nat, j ≤ n ∧ r = .int .i64 0 ∧ i = .int .i64 j ∧ ∀ q, q < j → (gt L q).id ≠ k) (fun _ i => n - (intOf i).toNat)
  case atStart => exact ⟨0, Nat.zero_le _, rfl, rfl, fun q h => absurd h (by omega)⟩
  case round =>
    obtain ⟨j, hj, rfl, rfl, hq⟩ := hrel
    have HQ := hide hq
    clear hq
    by_cases hlt : j < n
    · have hjl : j < L.length := by rw [HN.out]; exact hlt
      obtain ⟨b, o, rfl, hbB, hcell⟩ := hr.at_ (by omega)
      have g0 : w.cell? ⟨b, o + j * 2, none⟩ = some (.int .i64 (gt L j).id) := by rw [gt_get hjl]; exact hcell _ _ (ldCells_get L j 0 hjl (by omega))
      have i1 : (j : Int) < n := by omega
      obtain ⟨x, hx⟩ : ∃ x, (gt L j).id = x := ⟨_, rfl⟩
      rw [hx] at g0
      have HX := hide hx
      have HR := hide hr
      clear hx hcell hr hjl
      by_cases he : x = k
      · have t1 : (x == k) = true := by simp [he]
        have HE := hide he
        clear he
        go_wp2
        go_ret
        exact ⟨⟨_, rfl, Or.inr ⟨j, by rw [HN.out]; exact hlt, rfl, by rw [HX.out, HE.out]⟩⟩, rfl⟩
      · have t1 : (x == k) = false := by simp [he]
        have HE := hide he
        clear he
        go_wp2
        go_round
        case rel =>
          refine ⟨j + 1, by omega, rfl, by go_num, fun q h => ?_⟩
          by_cases e : q = j
          · rw [e, HX.out]; exact HE.out
          · exact HQ.out q (by omega)
        case measure => simp [intOf]; omega
    · have i1 : ¬ ((j : Int) < n) := by omega
      have e : j = n := by omega
      have HE := hide e
      clear e
      go_wp2
      go_ret
      refine ⟨⟨_, rfl, Or.inl ⟨rfl, fun y hy e2 => ?_⟩⟩, rfl⟩
      obtain ⟨q, hq, rfl⟩ := List.mem_iff_getElem.1 hy
      have h1 := HN.out
      have h2 := HE.out
      exact HQ.out q (by omega) (by rw [gt_get hq]; exact e2)
set_option maxHeartbeats 4000000 in
theorem rnames_calls (A : Option Addr) (n c : Nat) (L : List Ld) (w : World) (hr : Reads w w.heap.size 2 A n (ldCells L)) (hn : L.length = n) (hnn : n ≤ 1000000) :
    Calls Try.prog 43 #[.slice A n c] w fun e w' => OutInts w w' e (L.map Ld.id) := by
  obtain ⟨i0, hi, hz0, hz1, hz2⟩ := info_parts Try.infoInt2
  obtain ⟨M, hM⟩ : ∃ M, L.map Ld.id = M := ⟨_, rfl⟩
  have hMl : M.length = n := by rw [← hM, List.length_map, hn]
  have HN := hide hn
  have HLl := hide hMl
  have HL := hide hM
  clear hM hMl hn
  go_enter Try.func43, Try.ntmps43
  go_wp2
  go_loopw [3, 4] (fun v i wr => ∃ k : Nat, k ≤ n ∧ IntsInv w M v i wr k) (fun _ i _ => n - (intOf i).toNat)
  case atStart => exact ⟨0, Nat.zero_le _, IntsInv.start _ _ _ (Below.refl _ _)⟩
  case round =>
    obtain ⟨k, hkn, hinv⟩ := hrel
    have HI := hide hinv
    obtain ⟨A', cap', rfl, rfl, _, hown, hgb, hb⟩ := hinv
    have HO := hide hown
    clear hown hgb
    by_cases hlt : k < n
    · have hks : k < L.length := by have := HN.out; omega
      obtain ⟨b, o, rfl, hbB, hcell⟩ := hr.at_ (by omega)
      have g0 : wr.cell? ⟨b, o + k * 2, none⟩ = some (.int .i64 L[k].id) := (hb.cell (p := ⟨b, o + k * 2, none⟩) hbB).trans (hcell _ _ (ldCells_get L k 0 hks (by omega)))
      have hLk : M[k]'(by rw [HLl.out]; exact hlt) = L[k].id := by simp [← HL.out]
      obtain ⟨x, hx⟩ : ∃ x, L[k] = x := ⟨_, rfl⟩
      rw [hx] at g0 hLk
      have HLK := hide hLk
      have HR := hide hr
      have i1 : (k : Int) < n := by omega
      clear hLk hx hcell hr
      go_wp2_with (at_builtin; refine app_law rfl _ _ 51 rfl 3 i0 _ 1 8 Try.underlying51 hi hz0 hz1 hz2 rfl (by decide) (.slice A' k cap') k ((M.take k).map (Value.int .i64)) rfl (HO.out.alloc _) (wr.heap.size) 1 1 [.int .i64 x.id] rfl (Blk.new rfl) rfl ?c1 (by decide) ?c3 ?c4 ?_)
      case c1 => first | rfl | (intro u hu; simp at hu; subst hu; rfl)
      case c3 => unfold maxLen; omega
      case c4 => omega
      intro g cap2 w4 hown2 hch hor hlt2
      rw [ownBlock_slice] at hch hor
      rw [← List.map_take] at hown2
      have I1 := HI.out.below ((Below.refl wr.heap.size wr).alloc (Nat.le_refl _) (.cells #[.int .i64 x.id] 3))
      have F := IntsInv.push (n := k + 1) I1 (by rw [HLl.out]; exact hlt) HLK.out rfl hown2 hch (hor.imp id (fun e => by simp at e ⊢; omega)) (z := (k : Int) + 1) (by omega)
      clear hown2 hch hor hlt2 g0 I1
      go_wp2
      go_roundw
      case rel => exact ⟨k + 1, by omega, F⟩
      case measure => simp [intOf]; omega
    · have e : k = n := by omega
      have HE := hide e
      clear e
      go_wp2
      go_ret
      have F := (HI.out.out (most := (n : Int)) (by omega) (Or.inr (by rw [HLl.out, HE.out]; exact Nat.le_refl _))).back (Below.refl _ _)
      rw [Int.toNat_natCast, List.take_of_length_le (by rw [HLl.out]; exact Nat.le_refl _)] at F
      rw [HL.out]
      exact F
set_option maxHeartbeats 1000000 in
theorem rahead_calls (x y : Ld) (w : World) : Calls Try.prog 69 #[.agg #[.int .i64 x.id, .int .i64 x.n], .agg #[.int .i64 y.id, .int .i64 y.n]] w fun e w' => e = .returned (.bool (ldLt x y)) ∧ Below w.heap.size w w' := by
  have B0 := (Blk.new (w := w) (cs := x.cells) (t := 76) rfl).alloc (.cells y.cells.toArray 76)
  have B1 := Blk.new (w := w.alloc (.cells x.cells.toArray 76)) (b := w.heap.size + 1) (cs := y.cells) (t := 76) (by simp)
  have c0 := B0.cell 0
  have c1 := B0.cell 1
  have d0 := B1.cell 0
  have d1 := B1.cell 1
  have R : Below w.heap.size w ((w.alloc (.cells x.cells.toArray 76)).alloc (.cells y.cells.toArray 76)) := ((Below.refl _ _).alloc (Nat.le_refl _) _).alloc (by simp) _
  have HR := hide R
  obtain ⟨xi, xn⟩ := x
  obtain ⟨yi, yn⟩ := y
  by_cases h1 : xn < yn
  · have t1 : decide (xn < yn) = true := decide_eq_true h1
    have HB := hide (show ldLt ⟨xi, xn⟩ ⟨yi, yn⟩ = true from ldLt_iff.2 (Or.inl h1))
    clear B0 B1 R h1
    go_enter Try.func69, Try.ntmps69
    go_wp2
    go_ret
    exact ⟨by rw [HB.out]; rfl, HR.out⟩
  · by_cases h2 : xn = yn
    · have t1 : decide (xn < yn) = false := decide_eq_false h1
      have t2 : (xn == yn) = true := by simp [h2]
      have HB := hide (show ldLt ⟨xi, xn⟩ ⟨yi, yn⟩ = decide (xi < yi) by unfold ldLt; congr 1; apply propext; simp only; omega)
      clear B0 B1 R h1 h2
      go_enter Try.func69, Try.ntmps69
      go_wp2
      go_ret
      exact ⟨by rw [HB.out]; rfl, HR.out⟩
    · have t1 : decide (xn < yn) = false := decide_eq_false h1
      have t2 : (xn == yn) = false := by simp [h2]
      have HB := hide (show ldLt ⟨xi, xn⟩ ⟨yi, yn⟩ = false from ldLt_no.2 (by simp only; omega))
      clear B0 B1 R h1 h2
      go_enter Try.func69, Try.ntmps69
      go_wp2
      go_ret
      exact ⟨by rw [HB.out]; rfl, HR.out⟩
/-- a new slice of the document's entries -/
def EsInv (w wr : World) (L : List Ld) (m : Nat) (v : Value) : Prop :=
  ∃ A' cap', v = .slice A' m cap' ∧ L.length = m ∧ wr.ownsRow 0 76 2 (.slice A' m cap') m (ldCells L) ∧ (∀ g, A'.map Addr.block = some g → w.heap.size ≤ g) ∧ Below w.heap.size w wr
theorem EsInv.start (w wr : World) (h : Below w.heap.size w wr) : EsInv w wr [] 0 (.slice none 0 0) :=
  ⟨none, 0, rfl, rfl, ⟨rfl, Or.inl ⟨rfl, rfl⟩⟩, (fun g hg => by cases hg), h⟩
theorem EsInv.below {w wr wr' : World} {L : List Ld} {m : Nat} {v : Value} (h : EsInv w wr L m v) (hb : Below wr.heap.size wr wr') : EsInv w wr' L m v := by
  obtain ⟨A', cap', hv, hl, ho, hg, hbw⟩ := h
  exact ⟨A', cap', hv, hl, own_chg ho (Chg.of_below (L := []) hb) (fun _ _ hx => by cases hx), hg, hbw.trans (hb.mono hbw.size)⟩
theorem EsInv.push {w w1 w2 : World} {L : List Ld} {m : Nat} {A' : Option Addr} {cap' : Nat} {x : Ld} {g cap2 : Nat} (h : EsInv w w1 L m (.slice A' m cap'))
    (hown2 : w2.ownsRow 0 76 2 (.slice (some ⟨g, 0, none⟩) (m + 1) cap2) (m + 1) (ldCells L ++ [.int .i64 x.id, .int .i64 x.n])) (hch : Chg (A'.map Addr.block).toList w1 w2) (hor : A'.map Addr.block = some g ∨ w1.heap.size ≤ g) :
    EsInv w w2 (L ++ [x]) (m + 1) (.slice (some ⟨g, 0, none⟩) (m + 1) cap2) := by
  obtain ⟨B', c', hv, hl, ho, hg, hbw⟩ := h
  cases hv
  refine ⟨some ⟨g, 0, none⟩, cap2, rfl, by simp [hl], by rw [ldCells_app]; exact hown2, ?_, Chg.onto hbw hbw.size hch fun z hz => hg z (by simpa using hz)⟩
  intro z hz
  obtain rfl : g = z := by simpa using hz
  rcases hor with hor | hor
  · exact hg g hor
  · exact Nat.le_trans hbw.size hor
theorem EsInv.back {w w2 w' : World} {L : List Ld} {m : Nat} {v : Value} (h : EsInv w2 w' L m v) (hb : Below w.heap.size w w2) : EsInv w w' L m v := by
  obtain ⟨A', cap', hv, hl, ho, hg, hbw⟩ := h
  exact ⟨A', cap', hv, hl, ho, fun g h => Nat.le_trans hb.size (hg g h), hb.trans (hbw.mono hb.size)⟩
theorem EsInv.reads {w wr : World} {L : List Ld} {m : Nat} {v : Value} (h : EsInv w wr L m v) : ∃ A' cap', v = .slice A' m cap' ∧ L.length = m ∧ Reads wr wr.heap.size 2 A' m (ldCells L) ∧ (∀ g, A'.map Addr.block = some g → w.heap.size ≤ g) ∧ Below w.heap.size w wr := by
  obtain ⟨A', cap', hv, hl, ho, hg, hbw⟩ := h
  obtain ⟨A2, c2, e2, _, _, _, _, hr⟩ := own_view ho
  cases e2
  exact ⟨A', cap', hv, hl, hr _ (fun g hg => own_lt ho hg), hg, hbw⟩
theorem Try.infoEntR : (Try.prog.info? 76).map (fun i => (i.zero, i.size, i.bytes)) = some (some (.agg #[.int .i64 0, .int .i64 0]), 2, 16) := by kernel_rfl
set_option maxHeartbeats 4000000 in
theorem rout_calls (A : Option Addr) (n c : Nat) (L : List Ld) (nm : Int) (w : World) (hr : Reads w w.heap.size 2 A n (ldCells L)) (hn : L.length = n) (hnn : n ≤ 1000000) :
    Calls Try.prog 41 #[.slice A n c, .int .i64 nm] w fun e w' => ∃ m v, e = .returned v ∧ EsInv w w' (outL L nm) m v := by
  obtain ⟨i0, hi, hz0, hz1, hz2⟩ := info_parts Try.infoEntR
  have HN := hide hn
  clear hn
  go_enter Try.func41, Try.ntmps41
  go_wp2
  go_loopw [5, 6] (fun v i wr => ∃ (k m : Nat) (Q : List Ld), k ≤ n ∧ m ≤ k ∧ i = .int .i64 k ∧ Q = outL (L.take k) nm ∧ EsInv w wr Q m v) (fun _ i _ => n - (intOf i).toNat)
  case atStart => exact ⟨0, 0, [], Nat.zero_le _, Nat.le_refl _, rfl, by simp [outL], EsInv.start _ _ (Below.refl _ _)⟩
  case round =>
    obtain ⟨k, m, Q, hkn, hmk, rfl, hQ, hinv⟩ := hrel
    have HI := hide hinv
    have HQ := hide hQ
    obtain ⟨A', cap', rfl, hl, hown, _, hb⟩ := hinv
    have HO := hide hown
    clear hown hQ hl
    by_cases hlt : k < n
    · have hks : k < L.length := by have := HN.out; omega
      obtain ⟨b, o, rfl, hbB, hcell⟩ := hr.at_ (by omega)
      have g0 : wr.cell? ⟨b, o + k * 2, none⟩ = some (.int .i64 L[k].id) := (hb.cell (p := ⟨b, o + k * 2, none⟩) hbB).trans (hcell _ _ (ldCells_get L k 0 hks (by omega)))
      have g1 : wr.cell? ⟨b, o + k * 2 + 1, none⟩ = some (.int .i64 L[k].n) := (hb.cell (p := ⟨b, o + k * 2 + 1, none⟩) hbB).trans (hcell _ _ (ldCells_get L k 1 hks (by omega)))
      have htk : L.take (k + 1) = L.take k ++ [L[k]] := List.take_succ_eq_append_getElem hks
      obtain ⟨x, hx⟩ : ∃ x, L[k] = x := ⟨_, rfl⟩
      rw [hx] at g0 g1 htk
      have HTK := hide htk
      have HR := hide hr
      have i1 : (k : Int) < n := by omega
      clear hx hcell hr htk hks
      by_cases he : x.id = nm
      · have t1 : (x.id != nm) = false := by simp [he]
        have HE := hide he
        clear he
        go_wp2
        go_roundw
        case rel => exact ⟨k + 1, m, Q, by omega, by omega, by go_num, by rw [HQ.out, HTK.out]; unfold outL; rw [List.filter_append]; simp [HE.out], HI.out⟩
        case measure => simp [intOf]; omega
      · have t1 : (x.id != nm) = true := by simp [he]
        have HE := hide he
        clear he
        go_wp2_with (at_builtin; refine app_law rfl _ _ 71 rfl 76 i0 _ 2 16 Try.underlying71 hi hz0 hz1 hz2 rfl (by decide) (.slice A' m cap') m (ldCells Q) rfl (HO.out.alloc _) wr.heap.size 1 1 [.int .i64 x.id, .int .i64 x.n] rfl (Blk.new rfl) rfl ?c1 (by decide) ?c3 ?c4 ?_)
        case c1 => first | rfl | (intro u hu; simp at hu; rcases hu with rfl | rfl <;> rfl)
        case c3 => unfold maxLen; omega
        case c4 => omega
        intro g cap2 w4 hown2 hch hor hlt2
        rw [ownBlock_slice] at hch hor
        have I1 := HI.out.below ((Below.refl wr.heap.size wr).alloc (Nat.le_refl _) (.cells #[.int .i64 x.id, .int .i64 x.n] 76))
        have FF := I1.push (x := x) hown2 hch (hor.imp id (fun e => by simp at e ⊢; omega))
        clear hown2 hch hor hlt2 I1
        go_wp2
        go_roundw
        case rel => exact ⟨k + 1, m + 1, Q ++ [x], by omega, by omega, by go_num, by rw [HQ.out, HTK.out]; unfold outL; rw [List.filter_append]; simp [HE.out], FF⟩
        case measure => simp [intOf]; omega
    · have e : k = n := by omega
      have i1 : ¬ ((k : Int) < n) := by omega
      have HE := hide e
      clear e
      go_wp2
      go_ret
      have h1 := HQ.out
      rw [List.take_of_length_le (by rw [HN.out, HE.out]; exact Nat.le_refl _)] at h1
      rw [← h1]
      exact ⟨m, _, rfl, HI.out⟩
/-- where an entry goes in -/
def PutX (P : List Ld) (x : Ld) (R : List Ld) : Prop := ∃ a, a ≤ P.length ∧ R = P.take a ++ x :: P.drop a ∧ (∀ y ∈ P.take a, ldLt x y = false) ∧ (a < P.length → ldLt x (gt P a) = true)
/-- behind k entries -/
def PutS (P : List Ld) (x : Ld) (k m : Nat) (Q : List Ld) (d : Bool) : Prop :=
  (d = false ∧ m = k ∧ Q = P.take k ∧ ∀ y ∈ P.take k, ldLt x y = false) ∨
  (d = true ∧ m = k + 1 ∧ ∃ a, a < k ∧ k ≤ P.length ∧ Q = P.take a ++ x :: (P.take k).drop a ∧ (∀ y ∈ P.take a, ldLt x y = false) ∧ ldLt x (gt P a) = true)
theorem PutS.keep {P : List Ld} {x : Ld} {k m : Nat} {Q : List Ld} (h : PutS P x k m Q false) (hk : k < P.length) (hx : ldLt x P[k] = false) : PutS P x (k + 1) (m + 1) (Q ++ [P[k]]) false := by
  rcases h with ⟨_, rfl, rfl, h⟩ | ⟨h, _⟩
  · refine Or.inl ⟨rfl, rfl, (List.take_succ_eq_append_getElem hk).symm, fun y hy => ?_⟩
    rw [List.take_succ_eq_append_getElem hk] at hy
    rcases List.mem_append.1 hy with hy | hy
    · exact h y hy
    · rw [List.mem_singleton.1 hy]; exact hx
  · cases h
theorem PutS.hit {P : List Ld} {x : Ld} {k m : Nat} {Q : List Ld} (h : PutS P x k m Q false) (hk : k < P.length) (hx : ldLt x P[k] = true) : PutS P x (k + 1) (m + 1 + 1) (Q ++ [x] ++ [P[k]]) true := by
  rcases h with ⟨_, rfl, rfl, h⟩ | ⟨h, _⟩
  · refine Or.inr ⟨rfl, rfl, m, by omega, by omega, ?_, h, by rw [gt_get hk]; exact hx⟩
    rw [List.take_succ_eq_append_getElem hk, List.drop_append_of_le_length (by rw [List.length_take]; omega)]
    simp [List.drop_take_self]
  · cases h
theorem PutS.go {P : List Ld} {x : Ld} {k m : Nat} {Q : List Ld} (h : PutS P x k m Q true) (hk : k < P.length) : PutS P x (k + 1) (m + 1) (Q ++ [P[k]]) true := by
  rcases h with ⟨h, _⟩ | ⟨_, rfl, a, ha, hkl, rfl, h1, h2⟩
  · cases h
  · refine Or.inr ⟨rfl, rfl, a, by omega, by omega, ?_, h1, h2⟩
    rw [List.take_succ_eq_append_getElem hk, List.drop_append_of_le_length (by rw [List.length_take]; omega)]
    simp
theorem PutS.end1 {P : List Ld} {x : Ld} {m : Nat} {Q : List Ld} (h : PutS P x P.length m Q true) : PutX P x Q := by
  rcases h with ⟨h, _⟩ | ⟨_, _, a, ha, _, rfl, h1, h2⟩
  · cases h
  · exact ⟨a, by omega, by rw [List.take_length], h1, fun _ => h2⟩
theorem PutS.end0 {P : List Ld} {x : Ld} {m : Nat} {Q : List Ld} (h : PutS P x P.length m Q false) : PutX P x (Q ++ [x]) := by
  rcases h with ⟨_, _, rfl, h⟩ | ⟨h, _⟩
  · exact ⟨P.length, Nat.le_refl _, by simp, h, fun h => absurd h (by omega)⟩
  · cases h
set_option maxHeartbeats 8000000 in
theorem rput_calls (A : Option Addr) (n c : Nat) (L : List Ld) (x : Ld) (w : World) (hr : Reads w w.heap.size 2 A n (ldCells L)) (hn : L.length = n) (hnn : n ≤ 1000000) :
    Calls Try.prog 39 #[.slice A n c, .agg #[.int .i64 x.id, .int .i64 x.n]] w fun e w' => ∃ R m v, e = .returned v ∧ PutX (outL L x.id) x R ∧ EsInv w w' R m v := by
  obtain ⟨i0, hi, hz0, hz1, hz2⟩ := info_parts Try.infoEntR
  have B0 := Blk.new (w := w) (cs := x.cells) (t := 76) rfl
  have R0 := (Below.refl w.heap.size w).alloc (Nat.le_refl _) (.cells x.cells.toArray 76)
  obtain ⟨w0, hw0⟩ : ∃ w0, w.alloc (.cells x.cells.toArray 76) = w0 := ⟨_, rfl⟩
  rw [hw0] at B0 R0
  have c0 := B0.cell 0
  go_enter Try.func39, Try.ntmps39
  go_wp2_with fail
  rw [show w.alloc (.cells #[.int .i64 x.id, .int .i64 x.n] 76) = w0 from hw0]
  have C0 := B0.rule 0 _ rfl
  have C1 := B0.rule 1 _ rfl
  have HC0 := hide C0
  have HC1 := hide C1
  have HW := hide hw0
  clear C0 C1 hw0 B0 c0
  refine (rout_calls A n c L x.id w0 ((hr.below R0).more R0.size) hn hnn).mono ?_
  rintro e w1 ⟨m1, v1, rfl, hE1⟩
  obtain ⟨A1, cap1, rfl, hl1, hr1, _, hb1⟩ := hE1.reads
  have hm1 : m1 ≤ n := by rw [← hl1, ← hn]; exact List.length_filter_le _ _
  obtain ⟨P, hP⟩ : ∃ P, outL L x.id = P := ⟨_, rfl⟩
  rw [hP] at hr1 hl1
  have HP := hide hP
  have HN := hide hl1
  have HB1 := hide hb1
  clear hE1 hP hl1 hr hn hb1
  go_wp2
  go_loopw [5, 6, 7] (fun v d i wr => ∃ (k m : Nat) (Q : List Ld) (b : Bool), k ≤ m1 ∧ m ≤ k + 1 ∧ d = .bool b ∧ i = .int .i64 k ∧ PutS P x k m Q b ∧ EsInv w1 wr Q m v) (fun _ _ i _ => m1 - (intOf i).toNat)
  case atStart => exact ⟨0, 0, [], false, Nat.zero_le _, by omega, rfl, rfl, Or.inl ⟨rfl, rfl, by simp, by simp⟩, EsInv.start _ _ (Below.refl _ _)⟩
  case round =>
    obtain ⟨k, m, Q, d, hkn, hmk, rfl, rfl, hS, hinv⟩ := hrel
    have HI := hide hinv
    have HS := hide hS
    obtain ⟨A', cap', rfl, hl, hown, _, hb⟩ := hinv
    have HO := hide hown
    have hbw : Below w0.heap.size w0 wr := HB1.out.trans (hb.mono HB1.out.size)
    have x0 := HC0.out wr hbw
    have x1 := HC1.out wr hbw
    clear hown hl hS
    by_cases hlt : k < m1
    · have hks : k < P.length := by have := HN.out; omega
      obtain ⟨y, hy⟩ : ∃ y, P[k] = y := ⟨_, rfl⟩
      have q0 : (ldCells P)[k * 2]? = some (.int .i64 y.id) := by rw [← hy]; exact ldCells_get P k 0 hks (by omega)
      have q1 : (ldCells P)[k * 2 + 1]? = some (.int .i64 y.n) := by rw [← hy]; exact ldCells_get P k 1 hks (by omega)
      obtain ⟨b, o, rfl, hbB, hcell⟩ := hr1.at_ (by omega)
      have g0 : ∀ w', Below w1.heap.size w1 w' → w'.cell? ⟨b, o + k * 2, none⟩ = some (.int .i64 y.id) := fun w' h' => (h'.cell (p := ⟨b, o + k * 2, none⟩) hbB).trans (hcell _ _ q0)
      have g1 : ∀ w', Below w1.heap.size w1 w' → w'.cell? ⟨b, o + k * 2 + 1, none⟩ = some (.int .i64 y.n) := fun w' h' => (h'.cell (p := ⟨b, o + k * 2 + 1, none⟩) hbB).trans (hcell _ _ q1)
      have y0 : ∀ w', Below w1.heap.size w1 w' → w'.cell? ⟨w.heap.size, 0, none⟩ = some (.int .i64 x.id) := fun w' h' => HC0.out w' (HB1.out.trans (h'.mono HB1.out.size))
      have y1 : ∀ w', Below w1.heap.size w1 w' → w'.cell? ⟨w.heap.size, 1, none⟩ = some (.int .i64 x.n) := fun w' h' => HC1.out w' (HB1.out.trans (h'.mono HB1.out.size))
      have HY := hide (show ∃ h : k < P.length, P[k] = y from ⟨hks, hy⟩)
      have HR := hide hr1
      have i1 : (k : Int) < m1 := by omega
      clear hy hcell hr1 hks x0 x1 q0 q1
      cases d with
      | false =>
        have hmk2 : m ≤ k := by
          rcases HS.out with ⟨_, e, _⟩ | ⟨h, _⟩
          · omega
          · cases h
        by_cases ht : ldLt x y = true
        · have HTT := hide ht
          go_wp2
          refine region_lexg (fun w' => Below w1.heap.size w1 w') [] 0 [(2, 0), (2, 1), (2, 2), (0, 3), (2, 4), (2, 5), (2, 6), (0, 7), (1, 8), (2, 9)] #[true, true, true, true, true, true, true, true, true, true] (by kernel_rfl) (by kernel_rfl) (by decide) (by kernel_rfl) (by kernel_rfl) (fun _ _ _ _ _ h => h) (by (first | exact hb.drew | exact hb2)) (fun hS0 => ?_)
          simp only [List.map_cons, List.map_nil, List.getElem?_toArray, List.getElem?_cons_succ, List.getElem?_cons_zero]
          (apply lexg_pure (by rfl); (focus (intro w; go_simp; (try with_reducible rfl); done)); simp only [Act.put, List.setIfInBounds_toArray, List.set_cons_zero, List.set_cons_succ])
          (apply lexg_pure (by rfl); (focus (intro w; go_simp; (try with_reducible rfl); done)); simp only [Act.put, List.setIfInBounds_toArray, List.set_cons_zero, List.set_cons_succ])
          (apply lexg_pure (by rfl); (focus (intro w; go_simp; (try with_reducible rfl); done)); simp only [Act.put, List.setIfInBounds_toArray, List.set_cons_zero, List.set_cons_succ])
          first | (apply lexg_take (by rfl); (focus (intro w hw; (try dsimp only at hw); go_simp; (try with_reducible rfl); done)); simp only [Act.put, List.setIfInBounds_toArray, List.set_cons_zero, List.set_cons_succ]) | (refine lexg_skip (by rfl) ?_; simp only [Act.put, List.setIfInBounds_toArray, List.set_cons_zero, List.set_cons_succ])
          first | (apply lexg_pure (by rfl); (focus (intro w; go_simp; (try with_reducible rfl); done)); simp only [Act.put, List.setIfInBounds_toArray, List.set_cons_zero, List.set_cons_succ]) | (refine lexg_skipP (by rfl) ?_; simp only [Act.put, List.setIfInBounds_toArray, List.set_cons_zero, List.set_cons_succ])
          first | (apply lexg_pure (by rfl); (focus (intro w; go_simp; (try with_reducible rfl); done)); simp only [Act.put, List.setIfInBounds_toArray, List.set_cons_zero, List.set_cons_succ]) | (refine lexg_skipP (by rfl) ?_; simp only [Act.put, List.setIfInBounds_toArray, List.set_cons_zero, List.set_cons_succ])
          first | (apply lexg_pure (by rfl); (focus (intro w; go_simp; (try with_reducible rfl); done)); simp only [Act.put, List.setIfInBounds_toArray, List.set_cons_zero, List.set_cons_succ]) | (refine lexg_skipP (by rfl) ?_; simp only [Act.put, List.setIfInBounds_toArray, List.set_cons_zero, List.set_cons_succ])
          first | (apply lexg_take (by rfl); (focus (intro w hw; (try dsimp only at hw); go_simp; (try with_reducible rfl); done)); simp only [Act.put, List.setIfInBounds_toArray, List.set_cons_zero, List.set_cons_succ]) | (refine lexg_skip (by rfl) ?_; simp only [Act.put, List.setIfInBounds_toArray, List.set_cons_zero, List.set_cons_succ])
          first | (refine lexg_eff (by rfl) ?_; go_simp; ((go_at_call 69; (with_reducible refine (rahead_calls x y _).mono ?_); rintro e w2 ⟨rfl, hb9⟩; have hb2 : Below w1.heap.size w1 w2 := hb.drew.trans (hb9.mono hb.drew.size); have hb3 : Below wr.heap.size wr w2 := (Below.refl wr.heap.size wr).drew.trans hb9; clear hb9)); refine lexg_both (by (first | exact hb.drew | exact hb2)) (fun hS1 => ?_)) | (refine lexg_effskip (by rfl) (by assumption) ?_; simp only [Act.put, List.setIfInBounds_toArray, List.set_cons_zero, List.set_cons_succ])
          (apply lexg_pure (by rfl); (focus (intro w; go_simp; (try with_reducible rfl); done)); simp only [Act.put, List.setIfInBounds_toArray, List.set_cons_zero, List.set_cons_succ])
          refine lexg_nil (fun _ => wpAnyG_done (by kernel_rfl) ?_ _)
          have I2 := HI.out.below hb3
          have I2' := I2
          obtain ⟨_, _, e0, hl9, O2, _, hb4⟩ := I2'
          clear hl9
          cases e0
          go_wp2_with (at_builtin; refine app_law rfl _ _ 71 rfl 76 i0 _ 2 16 Try.underlying71 hi hz0 hz1 hz2 rfl (by decide) (.slice A' m cap') m (ldCells Q) rfl (O2.alloc _) w2.heap.size 1 1 [.int .i64 x.id, .int .i64 x.n] rfl (Blk.new rfl) rfl ?c1 (by decide) ?c3 ?c4 ?_)
          case c1 => first | exact ⟨rfl, rfl⟩ | rfl | (intro u hu; simp at hu; rcases hu with rfl | rfl <;> rfl)
          case c3 => unfold maxLen; omega
          case c4 => omega
          intro g3 cap3 w3 hown2 hch hor hlt2
          rw [ownBlock_slice] at hch hor
          have F3 := EsInv.push (x := x) (I2.below ((Below.refl w2.heap.size w2).alloc (Nat.le_refl _) (.cells #[.int .i64 x.id, .int .i64 x.n] 76))) hown2 hch (hor.imp id (fun e => by simp at e ⊢; omega))
          clear hown2 hch hor hlt2
          have F3' := F3
          obtain ⟨_, _, e0, hl9, O3, _, hb5⟩ := F3'
          clear hl9
          cases e0
          have c40 := g0 _ hb5
          have c41 := g1 _ hb5
          go_wp2_with (at_builtin; refine app_law rfl _ _ 71 rfl 76 i0 _ 2 16 Try.underlying71 hi hz0 hz1 hz2 rfl (by decide) (.slice (some ⟨g3, 0, none⟩) (m + 1) cap3) (m + 1) (ldCells (Q ++ [x])) rfl (O3.alloc _) w3.heap.size 1 1 [.int .i64 y.id, .int .i64 y.n] rfl (Blk.new rfl) rfl ?c1 (by decide) ?c3 ?c4 ?_)
          case c1 => first | exact ⟨rfl, rfl⟩ | rfl | (intro u hu; simp at hu; rcases hu with rfl | rfl <;> rfl)
          case c3 => unfold maxLen; omega
          case c4 => omega
          intro g4 cap4 w4 hown2 hch hor hlt2
          rw [ownBlock_slice] at hch hor
          have F4 := EsInv.push (x := y) (F3.below ((Below.refl w3.heap.size w3).alloc (Nat.le_refl _) (.cells #[.int .i64 y.id, .int .i64 y.n] 76))) hown2 hch (hor.imp id (fun e => by simp at e ⊢; omega))
          clear hown2 hch hor hlt2
          clear c40 c41
          go_wp2
          go_roundw
          case rel => exact ⟨k + 1, m + 1 + 1, Q ++ [x] ++ [y], true, by omega, by omega, rfl, by go_num, by obtain ⟨h1, h2⟩ := HY.out; have := HS.out.hit h1 (by rw [h2]; exact HTT.out); rw [h2] at this; exact this, F4⟩
          case measure => simp [intOf]; omega
        · have ht : ldLt x y = false := by simpa using ht
          have HTT := hide ht
          go_wp2
          refine region_lexg (fun w' => Below w1.heap.size w1 w') [] 0 [(2, 0), (2, 1), (2, 2), (0, 3), (2, 4), (2, 5), (2, 6), (0, 7), (1, 8), (2, 9)] #[true, true, true, true, true, true, true, true, true, true] (by kernel_rfl) (by kernel_rfl) (by decide) (by kernel_rfl) (by kernel_rfl) (fun _ _ _ _ _ h => h) (by (first | exact hb.drew | exact hb2)) (fun hS0 => ?_)
          simp only [List.map_cons, List.map_nil, List.getElem?_toArray, List.getElem?_cons_succ, List.getElem?_cons_zero]
          (apply lexg_pure (by rfl); (focus (intro w; go_simp; (try with_reducible rfl); done)); simp only [Act.put, List.setIfInBounds_toArray, List.set_cons_zero, List.set_cons_succ])
          (apply lexg_pure (by rfl); (focus (intro w; go_simp; (try with_reducible rfl); done)); simp only [Act.put, List.setIfInBounds_toArray, List.set_cons_zero, List.set_cons_succ])
          (apply lexg_pure (by rfl); (focus (intro w; go_simp; (try with_reducible rfl); done)); simp only [Act.put, List.setIfInBounds_toArray, List.set_cons_zero, List.set_cons_succ])
          first | (apply lexg_take (by rfl); (focus (intro w hw; (try dsimp only at hw); go_simp; (try with_reducible rfl); done)); simp only [Act.put, List.setIfInBounds_toArray, List.set_cons_zero, List.set_cons_succ]) | (refine lexg_skip (by rfl) ?_; simp only [Act.put, List.setIfInBounds_toArray, List.set_cons_zero, List.set_cons_succ])
          first | (apply lexg_pure (by rfl); (focus (intro w; go_simp; (try with_reducible rfl); done)); simp only [Act.put, List.setIfInBounds_toArray, List.set_cons_zero, List.set_cons_succ]) | (refine lexg_skipP (by rfl) ?_; simp only [Act.put, List.setIfInBounds_toArray, List.set_cons_zero, List.set_cons_succ])
          first | (apply lexg_pure (by rfl); (focus (intro w; go_simp; (try with_reducible rfl); done)); simp only [Act.put, List.setIfInBounds_toArray, List.set_cons_zero, List.set_cons_succ]) | (refine lexg_skipP (by rfl) ?_; simp only [Act.put, List.setIfInBounds_toArray, List.set_cons_zero, List.set_cons_succ])
          first | (apply lexg_pure (by rfl); (focus (intro w; go_simp; (try with_reducible rfl); done)); simp only [Act.put, List.setIfInBounds_toArray, List.set_cons_zero, List.set_cons_succ]) | (refine lexg_skipP (by rfl) ?_; simp only [Act.put, List.setIfInBounds_toArray, List.set_cons_zero, List.set_cons_succ])
          first | (apply lexg_take (by rfl); (focus (intro w hw; (try dsimp only at hw); go_simp; (try with_reducible rfl); done)); simp only [Act.put, List.setIfInBounds_toArray, List.set_cons_zero, List.set_cons_succ]) | (refine lexg_skip (by rfl) ?_; simp only [Act.put, List.setIfInBounds_toArray, List.set_cons_zero, List.set_cons_succ])
          first | (refine lexg_eff (by rfl) ?_; go_simp; ((go_at_call 69; (with_reducible refine (rahead_calls x y _).mono ?_); rintro e w2 ⟨rfl, hb9⟩; have hb2 : Below w1.heap.size w1 w2 := hb.drew.trans (hb9.mono hb.drew.size); have hb3 : Below wr.heap.size wr w2 := (Below.refl wr.heap.size wr).drew.trans hb9; clear hb9)); refine lexg_both (by (first | exact hb.drew | exact hb2)) (fun hS1 => ?_)) | (refine lexg_effskip (by rfl) (by assumption) ?_; simp only [Act.put, List.setIfInBounds_toArray, List.set_cons_zero, List.set_cons_succ])
          (apply lexg_pure (by rfl); (focus (intro w; go_simp; (try with_reducible rfl); done)); simp only [Act.put, List.setIfInBounds_toArray, List.set_cons_zero, List.set_cons_succ])
          refine lexg_nil (fun _ => wpAnyG_done (by kernel_rfl) ?_ _)
          have I2 := HI.out.below hb3
          have I2' := I2
          obtain ⟨_, _, e0, hl9, O2, _, hb4⟩ := I2'
          clear hl9
          cases e0
          have c40 := g0 _ hb4
          have c41 := g1 _ hb4
          go_wp2_with (at_builtin; refine app_law rfl _ _ 71 rfl 76 i0 _ 2 16 Try.underlying71 hi hz0 hz1 hz2 rfl (by decide) (.slice A' m cap') m (ldCells Q) rfl (O2.alloc _) w2.heap.size 1 1 [.int .i64 y.id, .int .i64 y.n] rfl (Blk.new rfl) rfl ?c1 (by decide) ?c3 ?c4 ?_)
          case c1 => first | exact ⟨rfl, rfl⟩ | rfl | (intro u hu; simp at hu; rcases hu with rfl | rfl <;> rfl)
          case c3 => unfold maxLen; omega
          case c4 => omega
          intro g3 cap3 w3 hown2 hch hor hlt2
          rw [ownBlock_slice] at hch hor
          have F3 := EsInv.push (x := y) (I2.below ((Below.refl w2.heap.size w2).alloc (Nat.le_refl _) (.cells #[.int .i64 y.id, .int .i64 y.n] 76))) hown2 hch (hor.imp id (fun e => by simp at e ⊢; omega))
          clear hown2 hch hor hlt2
          clear c40 c41
          go_wp2
          go_roundw
          case rel => exact ⟨k + 1, m + 1, Q ++ [y], false, by omega, by omega, rfl, by go_num, by obtain ⟨h1, h2⟩ := HY.out; have := HS.out.keep h1 (by rw [h2]; exact HTT.out); rw [h2] at this; exact this, F3⟩
          case measure => simp [intOf]; omega
      | true =>
        go_wp2
        refine region_lexg (fun w' => Below w1.heap.size w1 w') [] 0 [(2, 0), (2, 1), (2, 2), (0, 3), (2, 4), (2, 5), (2, 6), (0, 7), (1, 8), (2, 9)] #[true, true, true, true, true, true, true, true, true, true] (by kernel_rfl) (by kernel_rfl) (by decide) (by kernel_rfl) (by kernel_rfl) (fun _ _ _ _ _ h => h) (by (first | exact hb.drew | exact hb2)) (fun hS0 => ?_)
        simp only [List.map_cons, List.map_nil, List.getElem?_toArray, List.getElem?_cons_succ, List.getElem?_cons_zero]
        (apply lexg_pure (by rfl); (focus (intro w; go_simp; (try with_reducible rfl); done)); simp only [Act.put, List.setIfInBounds_toArray, List.set_cons_zero, List.set_cons_succ])
        (apply lexg_pure (by rfl); (focus (intro w; go_simp; (try with_reducible rfl); done)); simp only [Act.put, List.setIfInBounds_toArray, List.set_cons_zero, List.set_cons_succ])
        (apply lexg_pure (by rfl); (focus (intro w; go_simp; (try with_reducible rfl); done)); simp only [Act.put, List.setIfInBounds_toArray, List.set_cons_zero, List.set_cons_succ])
        first | (apply lexg_take (by rfl); (focus (intro w hw; (try dsimp only at hw); go_simp; (try with_reducible rfl); done)); simp only [Act.put, List.setIfInBounds_toArray, List.set_cons_zero, List.set_cons_succ]) | (refine lexg_skip (by rfl) ?_; simp only [Act.put, List.setIfInBounds_toArray, List.set_cons_zero, List.set_cons_succ])
        first | (apply lexg_pure (by rfl); (focus (intro w; go_simp; (try with_reducible rfl); done)); simp only [Act.put, List.setIfInBounds_toArray, List.set_cons_zero, List.set_cons_succ]) | (refine lexg_skipP (by rfl) ?_; simp only [Act.put, List.setIfInBounds_toArray, List.set_cons_zero, List.set_cons_succ])
        first | (apply lexg_pure (by rfl); (focus (intro w; go_simp; (try with_reducible rfl); done)); simp only [Act.put, List.setIfInBounds_toArray, List.set_cons_zero, List.set_cons_succ]) | (refine lexg_skipP (by rfl) ?_; simp only [Act.put, List.setIfInBounds_toArray, List.set_cons_zero, List.set_cons_succ])
        first | (apply lexg_pure (by rfl); (focus (intro w; go_simp; (try with_reducible rfl); done)); simp only [Act.put, List.setIfInBounds_toArray, List.set_cons_zero, List.set_cons_succ]) | (refine lexg_skipP (by rfl) ?_; simp only [Act.put, List.setIfInBounds_toArray, List.set_cons_zero, List.set_cons_succ])
        first | (apply lexg_take (by rfl); (focus (intro w hw; (try dsimp only at hw); go_simp; (try with_reducible rfl); done)); simp only [Act.put, List.setIfInBounds_toArray, List.set_cons_zero, List.set_cons_succ]) | (refine lexg_skip (by rfl) ?_; simp only [Act.put, List.setIfInBounds_toArray, List.set_cons_zero, List.set_cons_succ])
        first | (refine lexg_eff (by rfl) ?_; go_simp; (skip); refine lexg_both (by (first | exact hb.drew | exact hb2)) (fun hS1 => ?_)) | (refine lexg_effskip (by rfl) (by assumption) ?_; simp only [Act.put, List.setIfInBounds_toArray, List.set_cons_zero, List.set_cons_succ])
        (apply lexg_pure (by rfl); (focus (intro w; go_simp; (try with_reducible rfl); done)); simp only [Act.put, List.setIfInBounds_toArray, List.set_cons_zero, List.set_cons_succ])
        refine lexg_nil (fun _ => wpAnyG_done (by kernel_rfl) ?_ _)
        have I2 := HI.out.below (Below.refl wr.heap.size wr).drew
        have I2' := I2
        obtain ⟨_, _, e0, hl9, O2, _, hb4⟩ := I2'
        clear hl9
        cases e0
        have c40 := g0 _ hb4
        have c41 := g1 _ hb4
        go_wp2_with (at_builtin; refine app_law rfl _ _ 71 rfl 76 i0 _ 2 16 Try.underlying71 hi hz0 hz1 hz2 rfl (by decide) (.slice A' m cap') m (ldCells Q) rfl (O2.alloc _) wr.drew.heap.size 1 1 [.int .i64 y.id, .int .i64 y.n] rfl (Blk.new rfl) rfl ?c1 (by decide) ?c3 ?c4 ?_)
        case c1 => first | exact ⟨rfl, rfl⟩ | rfl | (intro u hu; simp at hu; rcases hu with rfl | rfl <;> rfl)
        case c3 => unfold maxLen; omega
        case c4 => omega
        intro g3 cap3 w3 hown2 hch hor hlt2
        rw [ownBlock_slice] at hch hor
        have F3 := EsInv.push (x := y) (I2.below ((Below.refl wr.drew.heap.size wr.drew).alloc (Nat.le_refl _) (.cells #[.int .i64 y.id, .int .i64 y.n] 76))) hown2 hch (hor.imp id (fun e => by simp at e ⊢; omega))
        clear hown2 hch hor hlt2
        clear c40 c41
        go_wp2
        go_roundw
        case rel => exact ⟨k + 1, m + 1, Q ++ [y], true, by omega, by omega, rfl, by go_num, by obtain ⟨h1, h2⟩ := HY.out; have := HS.out.go h1; rw [h2] at this; exact this, F3⟩
        case measure => simp [intOf]; omega
    · have e : k = m1 := by omega
      have i1 : ¬ ((k : Int) < m1) := by omega
      have HE := hide e
      clear e
      cases d with
      | true =>
        go_wp2
        go_ret
        refine ⟨Q, m, _, rfl, ?_, HI.out.back (R0.trans (HB1.out.mono R0.size))⟩
        rw [HP.out]
        have h1 := HS.out
        rw [HE.out, ← HN.out] at h1
        exact h1.end1
      | false =>
        have I2 := HI.out
        have I2' := I2
        obtain ⟨_, _, e0, hl9, O2, _, hb4⟩ := I2'
        clear hl9
        cases e0
        go_wp2_with (at_builtin; refine app_law rfl _ _ 71 rfl 76 i0 _ 2 16 Try.underlying71 hi hz0 hz1 hz2 rfl (by decide) (.slice A' m cap') m (ldCells Q) rfl (O2.alloc _) wr.heap.size 1 1 [.int .i64 x.id, .int .i64 x.n] rfl (Blk.new rfl) rfl ?c1 (by decide) ?c3 ?c4 ?_)
        case c1 => first | exact ⟨rfl, rfl⟩ | rfl | (intro u hu; simp at hu; rcases hu with rfl | rfl <;> rfl)
        case c3 => unfold maxLen; omega
        case c4 => omega
        intro g3 cap3 w3 hown2 hch hor hlt2
        rw [ownBlock_slice] at hch hor
        have F3 := EsInv.push (x := x) (I2.below ((Below.refl wr.heap.size wr).alloc (Nat.le_refl _) (.cells #[.int .i64 x.id, .int .i64 x.n] 76))) hown2 hch (hor.imp id (fun e => by simp at e ⊢; omega))
        clear hown2 hch hor hlt2
        go_wp2
        go_ret
        refine ⟨Q ++ [x], m + 1, _, rfl, ?_, F3.back (R0.trans (HB1.out.mono R0.size))⟩
        rw [HP.out]
        have h1 := HS.out
        rw [HE.out, ← HN.out] at h1
        exact h1.end0
end Go.Proofs.Ytjdgkdaebkflpaa
