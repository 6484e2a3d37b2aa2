/- The walks through rlog: what each method of a log returns, and what it turns. -/
import Derived.Test.YtjdgkdaebkflpaaEnt
import Derived.Deep.QuietTactic
import Derived.BigQuiet
import Derived.Deep.RegionHeld3
namespace Go.Proofs.Ytjdgkdaebkflpaa
open Go.RowKit

def entCells (es : List Ent) : List Value := es.flatMap Ent.cells
theorem entCells_length (es : List Ent) : (entCells es).length = es.length * 3 := by
  induction es with
  | nil => rfl
  | cons e es ih => simp only [entCells, List.flatMap_cons, List.length_append, List.length_cons] at ih ⊢; rw [ih]; simp [Ent.cells]; omega
theorem entCells_get (es : List Ent) (k j : Nat) (hk : k < es.length) (hj : j < 3) : (entCells es)[k * 3 + j]? = es[k].cells[j]? := by
  induction es generalizing k with
  | nil => simp at hk
  | cons e es ih =>
    have hl : e.cells.length = 3 := rfl
    cases k with
    | zero =>
      simp only [entCells, List.flatMap_cons, Nat.zero_mul, Nat.zero_add, List.getElem_cons_zero]
      rw [List.getElem?_append_left (by omega)]
    | succ k =>
      have := ih k (by simpa using hk)
      simp only [entCells, List.flatMap_cons, List.getElem_cons_succ] at this ⊢
      rw [List.getElem?_append_right (by omega), hl, show (k + 1) * 3 + j - 3 = k * 3 + j by omega, this]
theorem entCells_take (es : List Ent) (k : Nat) : (entCells es).take (k * 3) = entCells (es.take k) := by
  induction es generalizing k with
  | nil => simp [entCells]
  | cons e es ih =>
    cases k with
    | zero => simp [entCells]
    | succ k =>
      have hl : e.cells.length = 3 := rfl
      have := ih k
      simp only [entCells, List.flatMap_cons, List.take_succ_cons] at this ⊢
      rw [List.take_append, hl, show (k + 1) * 3 - 3 = k * 3 by omega, this, List.take_of_length_le (by omega)]
theorem entCells_drop (es : List Ent) (k : Nat) : (entCells es).drop (k * 3) = entCells (es.drop k) := by
  induction es generalizing k with
  | nil => simp [entCells]
  | cons e es ih =>
    cases k with
    | zero => simp [entCells]
    | succ k =>
      have hl : e.cells.length = 3 := rfl
      have := ih k
      simp only [entCells, List.flatMap_cons, List.drop_succ_cons] at this ⊢
      rw [List.drop_append, hl, show (k + 1) * 3 - 3 = k * 3 by omega, this, List.drop_eq_nil_of_le (by omega), List.nil_append]

/-- a log in memory: at block p; its entries in a row of its own -/
structure LogAt (w : World) (p : Nat) (A : Option Addr) (cap : Nat) (base term : Int) (es : List Ent) : Prop where
  blk : Blk w p 86 [.int .i64 base, .int .i64 term, .slice A es.length cap]
  own : w.ownsRow 0 39 3 (.slice A es.length cap) es.length (entCells es)
  ok : ∀ e ∈ es, EntOk w e
def foot (p : Nat) (A : Option Addr) : List Nat := p :: (A.map Addr.block).toList
section
variable {L : List Nat} {w w' : World} {p : Nat} {A : Option Addr} {cap : Nat} {base term : Int} {es : List Ent}
theorem rowBlk {t : TypeId} {sz n c : Nat} {xs : List Value} (h : w.ownsRow 0 t sz (.slice A n c) n xs) {g : Nat} (hg : (A.map Addr.block) = some g) : ∃ cs, w.heap[g]? = some (.cells cs t (0, 0)) := by
  rcases h.2 with ⟨e, _⟩ | ⟨g', cap, cur, e, _, hh, _⟩
  · cases e; cases hg
  · cases e; cases hg
    exact ⟨_, hh⟩
theorem LogAt.plt (h : LogAt w p A cap base term es) : p < w.heap.size := h.blk.lt
theorem LogAt.glt (h : LogAt w p A cap base term es) {x : Nat} (hx : x ∈ foot p A) : x < w.heap.size := by
  unfold foot at hx
  rcases List.mem_cons.1 hx with rfl | hx
  · exact h.plt
  · obtain ⟨cs, hc⟩ := rowBlk h.own (g := x) (by simpa using hx)
    exact heap_lt hc
theorem LogAt.noByte (h : LogAt w p A cap base term es) : ∀ x ∈ foot p A, ¬ ByteBlk w x := by
  intro x hx
  unfold foot at hx
  rcases List.mem_cons.1 hx with rfl | hx
  · exact h.blk.notByte (by decide)
  · obtain ⟨cs, hc⟩ := rowBlk h.own (g := x) (by simpa using hx)
    rintro ⟨cs', fr, h'⟩
    have := hc.symm.trans h'
    simp at this
theorem LogAt.sep (h : LogAt w p A cap base term es) : p ∉ (A.map Addr.block).toList := by
  intro hp
  obtain ⟨cs, hc⟩ := rowBlk h.own (g := p) (by simpa using hp)
  have := h.blk.symm.trans hc
  simp at this
theorem LogAt.keep (h : LogAt w p A cap base term es) (hc : Chg L w w') (hf : ∀ x ∈ foot p A, x ∉ L) (hL : ∀ x ∈ L, ¬ ByteBlk w x) : LogAt w' p A cap base term es where
  blk := h.blk.chg hc (hf p (by simp [foot]))
  own := own_chg h.own hc fun g hg => hf g (by
    unfold foot
    refine List.mem_cons_of_mem _ ?_
    cases A with
    | none => cases hg
    | some a => cases hg; simp)
  ok := fun e he => (h.ok e he).chg hc hL
theorem LogAt.below (h : LogAt w p A cap base term es) (hb : Below w.heap.size w w') : LogAt w' p A cap base term es :=
  h.keep (L := []) (Chg.of_below hb) (fun _ _ hx => by cases hx) (fun _ hx => by cases hx)
theorem LogAt.drewN (h : LogAt w p A cap base term es) (n : Nat) : LogAt (w.drewN n) p A cap base term es := ⟨h.blk, h.own, h.ok⟩
theorem LogAt.reads (h : LogAt w p A cap base term es) : Reads w w.heap.size 3 A es.length (entCells es) := by
  obtain ⟨A', c', e, _, _, _, _, h5⟩ := own_view h.own
  cases e
  exact h5 _ fun g hg => own_lt h.own hg
theorem LogAt.cap_ge (h : LogAt w p A cap base term es) : es.length ≤ cap ∧ cap ≤ maxLen := by
  obtain ⟨A', c', e, h1, h2, _⟩ := own_view h.own
  cases e
  exact ⟨h1, h2⟩
end
def hasL (base : Int) (n : Nat) (i : Int) : Bool := decide (base < i ∧ i - base ≤ n)
theorem hasL_iff {base : Int} {n : Nat} {i : Int} : hasL base n i = true ↔ base < i ∧ i - base ≤ n := by simp [hasL]
set_option maxHeartbeats 1000000 in
theorem has_calls (p : Nat) (A : Option Addr) (cap : Nat) (base term : Int) (es : List Ent) (i : Int) (w : World) (h : LogAt w p A cap base term es) (h0 : 0 ≤ base) (h1 : base ≤ 4611686018427387904) 
    (i0 : -4611686018427387904 ≤ i) (i1 : i ≤ 4611686018427387904) :
    Calls Try.prog 57 #[.pointer (some ⟨p, 0, none⟩), .int .i64 i] w fun e w' => e = .returned (.bool (hasL base es.length i)) ∧ ∃ n, w' = w.drewN n := by
  have c0 : w.cell? ⟨p, 0, none⟩ = some (.int .i64 base) := h.blk.cell 0
  have c2 : w.cell? ⟨p, 2, none⟩ = some (.slice A es.length cap) := h.blk.cell 2
  have e1 : IntKind.i64.wrap (i - base) = i - base := IntWalk.i64_in _ (by omega)
  by_cases hb : base < i
  · by_cases hl : i - base ≤ es.length
    · have hr : hasL base es.length i = true := hasL_iff.2 ⟨hb, hl⟩
      have t1 : decide (base < i) = true := decide_eq_true hb
      have t2 : decide (i - base ≤ (es.length : Int)) = true := decide_eq_true hl
      rw [hr]
      clear hr h
      go_enter Try.func57, Try.ntmps57
      go_wp2
      go_quiet (fail)
      go_wp2
      go_ret
      exact ⟨rfl, _, rfl⟩
    · have hr : hasL base es.length i = false := by simp [hasL]; omega
      have t1 : decide (base < i) = true := decide_eq_true hb
      have t2 : decide (i - base ≤ (es.length : Int)) = false := decide_eq_false hl
      rw [hr]
      clear hr h
      go_enter Try.func57, Try.ntmps57
      go_wp2
      go_quiet (fail)
      go_wp2
      go_ret
      exact ⟨rfl, _, rfl⟩
  · have hr : hasL base es.length i = false := by simp [hasL]; omega
    have t1 : decide (base < i) = false := decide_eq_false hb
    rw [hr]
    clear hr h
    go_enter Try.func57, Try.ntmps57
    go_wp2
    go_quiet (fail)
    go_wp2
    go_ret
    exact ⟨rfl, _, rfl⟩

def lastL (base term : Int) (es : List Ent) : Int × Int := (base + es.length, match es.getLast? with | some e => e.t | none => term)
set_option maxHeartbeats 1000000 in
theorem last_calls (p : Nat) (A : Option Addr) (cap : Nat) (base term : Int) (es : List Ent) (w : World) (h : LogAt w p A cap base term es) (h0 : 0 ≤ base) (h1 : base ≤ 4611686018427387904) (hn : es.length ≤ 1099511627776) :
    Calls Try.prog 22 #[.pointer (some ⟨p, 0, none⟩)] w fun e w' => e = .returned (.tuple #[.int .i64 (lastL base term es).1, .int .i64 (lastL base term es).2]) ∧ ∃ n, w' = w.drewN n := by
  have c0 : w.cell? ⟨p, 0, none⟩ = some (.int .i64 base) := h.blk.cell 0
  have c1 : w.cell? ⟨p, 1, none⟩ = some (.int .i64 term) := h.blk.cell 1
  have c2 : w.cell? ⟨p, 2, none⟩ = some (.slice A es.length cap) := h.blk.cell 2
  have e1 : IntKind.i64.wrap (base + es.length) = base + es.length := IntWalk.i64_in _ (by omega)
  rcases Nat.eq_zero_or_pos es.length with hz | hp
  · obtain rfl : es = [] := List.eq_nil_of_length_eq_zero hz
    have hl : lastL base term [] = (base, term) := by simp [lastL]
    rw [hl]
    clear h hz e1 hl
    go_enter Try.func22, Try.ntmps22
    go_wp2
    go_quiet (fail)
    go_wp2
    go_ret2
    exact ⟨rfl, _, rfl⟩
  · obtain ⟨b, o, rfl, hbB, hcell⟩ := h.reads.at_ hp
    have hlt : es.length - 1 < es.length := by omega
    have hc : w.cell? ⟨b, o + (es.length - 1) * 3, none⟩ = some (.int .i64 es[es.length - 1].t) := hcell _ _ (entCells_get es (es.length - 1) 0 hlt (by omega))
    have e2 : IntKind.i64.wrap ((es.length : Int) - 1) = (es.length : Int) - 1 := IntWalk.i64_in _ (by omega)
    have e3 : ((es.length : Int) - 1).toNat = es.length - 1 := by omega
    have e4 : 0 ≤ (es.length : Int) - 1 := by omega
    have e5 : (es.length : Int) - 1 < es.length := by omega
    have hl : lastL base term es = (base + es.length, es[es.length - 1].t) := by
      unfold lastL
      rw [List.getLast?_eq_getElem?, List.getElem?_eq_getElem hlt]
    rw [hl]
    clear hl h hcell
    go_enter Try.func22, Try.ntmps22
    go_wp2
    go_quiet (fail)
    go_wp2
    go_ret2
    exact ⟨rfl, _, rfl⟩
def termL (base term : Int) (es : List Ent) (i : Int) : Int × Bool :=
  if i = base then (term, true) else match (if base < i then es[(i - base - 1).toNat]? else none) with | some e => (e.t, true) | none => (0, false)
theorem termL_base (base term : Int) (es : List Ent) : termL base term es base = (term, true) := by simp [termL]
theorem termL_in {base term : Int} {es : List Ent} {k : Nat} (hk : k < es.length) : termL base term es (base + k + 1) = (es[k].t, true) := by
  unfold termL
  rw [if_neg (by omega), if_pos (by omega), show (base + k + 1 - base - 1).toNat = k by omega, List.getElem?_eq_getElem hk]
theorem termL_out {base term : Int} {es : List Ent} {i : Int} (h : i ≠ base) (h2 : hasL base es.length i = false) : termL base term es i = (0, false) := by
  unfold termL
  rw [if_neg h]
  have h3 : ¬ (base < i ∧ i - base ≤ es.length) := fun hh => by rw [hasL_iff.2 hh] at h2; cases h2
  by_cases h4 : base < i
  · rw [if_pos h4, List.getElem?_eq_none (by omega)]
  · rw [if_neg h4]
set_option maxHeartbeats 1000000 in
theorem term_calls (p : Nat) (A : Option Addr) (cap : Nat) (base term : Int) (es : List Ent) (i : Int) (w : World) (h : LogAt w p A cap base term es) (h0 : 0 ≤ base) (h1 : base ≤ 4611686018427387904)
    (i0 : -4611686018427387904 ≤ i) (i1 : i ≤ 4611686018427387904) :
    Calls Try.prog 56 #[.pointer (some ⟨p, 0, none⟩), .int .i64 i] w fun e w' => e = .returned (.tuple #[.int .i64 (termL base term es i).1, .bool (termL base term es i).2]) ∧ ∃ n, w' = w.drewN n := by
  have c0 : w.cell? ⟨p, 0, none⟩ = some (.int .i64 base) := h.blk.cell 0
  have c1 : w.cell? ⟨p, 1, none⟩ = some (.int .i64 term) := h.blk.cell 1
  have c2 : w.cell? ⟨p, 2, none⟩ = some (.slice A es.length cap) := h.blk.cell 2
  by_cases hb : i = base
  · subst hb
    rw [termL_base]
    clear h
    go_enter Try.func56, Try.ntmps56
    go_wp2
    go_ret2
    exact ⟨rfl, 0, rfl⟩
  · have hb' : (i == base) = false := beq_eq_false_iff_ne.2 hb
    have H := hide h
    cases hh : hasL base es.length i with
    | false =>
      rw [termL_out hb hh]
      have HH := hide hh
      clear hb hh h
      go_enter Try.func56, Try.ntmps56
      go_wp2_with fail
      with_reducible refine (has_calls _ _ _ _ _ _ _ _ H.out h0 h1 i0 i1).mono ?_
      rintro e w1 ⟨rfl, n, rfl⟩
      rw [HH.out]
      go_wp2
      go_ret2
      exact ⟨rfl, n, rfl⟩
    | true =>
      obtain ⟨g1, g2⟩ := hasL_iff.1 hh
      obtain ⟨k, hk⟩ : ∃ k : Nat, i - base - 1 = k := ⟨(i - base - 1).toNat, by omega⟩
      obtain rfl : i = base + k + 1 := by omega
      have hkl : k < es.length := by omega
      rw [termL_in hkl]
      obtain ⟨b, o, rfl, hbB, hcell⟩ := h.reads.at_ (by omega)
      have hc : w.cell? ⟨b, o + k * 3, none⟩ = some (.int .i64 es[k].t) := hcell _ _ (entCells_get es k 0 hkl (by omega))
      have e1 : IntKind.i64.wrap (base + k + 1 - base) = k + 1 := by rw [IntWalk.i64_in _ (by omega)]; omega
      have e2 : IntKind.i64.wrap ((k : Int) + 1 - 1) = k := by rw [IntWalk.i64_in _ (by omega)]; omega
      have e3 : (k : Int) < es.length := by omega
      have HH := hide hh
      clear hb hh h hk hcell
      go_enter Try.func56, Try.ntmps56
      go_wp2_with fail
      with_reducible refine (has_calls _ _ _ _ _ _ _ _ H.out h0 h1 i0 i1).mono ?_
      rintro e w1 ⟨rfl, n, rfl⟩
      rw [HH.out]
      go_wp2
      go_quiet (fail)
      go_wp2
      go_ret2
      exact ⟨rfl, _, by rw [World.drewN_drewN]⟩
end Go.Proofs.Ytjdgkdaebkflpaa
