/- Slices of loads; the walk through fair.Most and fair.ticks. -/
import Derived.Test.YtjdkafamaoeifaaFair
import Derived.Test.YtjdkafamaoeifaaSep
import Derived.WalkMore
import Derived.Deep.LoopGhost
import Derived.Outline
-- PARTIAL
namespace Go.Proofs.Ytjdkafamaoeifaa
open Go.RowKit

theorem flat_length {α : Type} (f : α → List Value) (m : Nat) (hf : ∀ x, (f x).length = m) (xs : List α) : (xs.flatMap f).length = xs.length * m := by
  induction xs with
  | nil => simp
  | cons x xs ih => rw [List.flatMap_cons, List.length_append, ih, hf, List.length_cons, Nat.add_mul, Nat.one_mul, Nat.add_comm]
theorem flat_get {α : Type} (f : α → List Value) (m : Nat) (hf : ∀ x, (f x).length = m) (xs : List α) (k j : Nat) (hk : k < xs.length) (hj : j < m) : (xs.flatMap f)[k * m + j]? = (f xs[k])[j]? := by
  induction xs generalizing k with
  | nil => simp at hk
  | cons x xs ih =>
    have hl := hf x
    cases k with
    | zero =>
      simp only [List.flatMap_cons, Nat.zero_mul, Nat.zero_add, List.getElem_cons_zero]
      rw [List.getElem?_append_left (by omega)]
    | succ k =>
      have := ih k (by simpa using hk)
      simp only [List.flatMap_cons, List.getElem_cons_succ] at this ⊢
      rw [List.getElem?_append_right (by rw [hl, Nat.add_mul]; omega), hl, show (k + 1) * m + j - m = k * m + j by rw [Nat.add_mul]; omega, this]
structure Ld where
  id : Int
  n : Int
def Ld.cells (x : Ld) : List Value := [.int .i64 x.id, .int .i64 x.n]
def ldCells (xs : List Ld) : List Value := xs.flatMap Ld.cells
theorem ldCells_get (xs : List Ld) (k j : Nat) (hk : k < xs.length) (hj : j < 2) : (ldCells xs)[k * 2 + j]? = xs[k].cells[j]? :=
  flat_get Ld.cells 2 (fun _ => rfl) xs k j hk hj
def inSpan (flow from_ to : Int) (x : Ld) : Bool := decide (x.id = flow) && decide (from_ < x.n) && decide (x.n ≤ to)
def most (xs : List Ld) (flow from_ to : Int) : Nat := (xs.filter (inSpan flow from_ to)).length
theorem most_step (xs : List Ld) (flow from_ to : Int) (k : Nat) (h : k < xs.length) : most (xs.take (k + 1)) flow from_ to = most (xs.take k) flow from_ to + (if inSpan flow from_ to xs[k] then 1 else 0) := by
  unfold most
  rw [List.take_succ_eq_append_getElem h, List.filter_append, List.length_append]
  by_cases hh : inSpan flow from_ to xs[k] = true <;> simp [hh]
theorem most_le (xs : List Ld) (flow from_ to : Int) (k : Nat) : most (xs.take k) flow from_ to ≤ k := by
  unfold most
  refine Nat.le_trans (List.length_filter_le _ _) ?_
  rw [List.length_take]; omega
set_option maxHeartbeats 1000000 in
theorem most_calls (xs : List Ld) (flow from_ to : Int) (A : Option Addr) (c : Nat) (W : World) (hr : Reads W W.heap.size 2 A xs.length (ldCells xs)) (hn : xs.length ≤ 1099511627776) :
    Calls Try.prog 42 #[.slice A xs.length c, .int .i64 flow, .int .i64 from_, .int .i64 to] W fun e w' => e = .returned (.int .i64 (most xs flow from_ to)) ∧ Below W.heap.size W w' := by
  go_enter Try.func42, Try.ntmps42
  go_wp2
  go_step3
  go_wp2
  go_step3
  go_wp2
  go_loopw [9, 14] (fun s i wr => ∃ k : Nat, k ≤ xs.length ∧ i = .int .i64 k ∧ s = .int .i64 (most (xs.take k) flow from_ to) ∧ Below W.heap.size W wr) (fun _ i _ => xs.length - (intOf i).toNat)
  case atStart => exact ⟨0, by omega, rfl, rfl, Below.refl _ _⟩
  case round =>
    obtain ⟨k, hk, rfl, rfl, hb⟩ := hrel
    by_cases hlt : k < xs.length
    · obtain ⟨b, o, rfl, hbB, hcell⟩ := (hr.below hb).at_ (by omega)
      have c0 : wr.cell? ⟨b, o + k * 2, none⟩ = some (.int .i64 xs[k].id) := hcell _ _ (ldCells_get xs k 0 hlt (by omega))
      have c1 : wr.cell? ⟨b, o + k * 2 + 1, none⟩ = some (.int .i64 xs[k].n) := hcell _ _ (ldCells_get xs k 1 hlt (by omega))
      have ml := most_le xs flow from_ to k
      have HS := hide (most_step xs flow from_ to k hlt)
      obtain ⟨mm, hmm⟩ : ∃ mm, most (xs.take k) flow from_ to = mm := ⟨_, rfl⟩
      rw [hmm] at ml ⊢
      have HM := hide hmm
      clear hmm
      by_cases h1 : xs[k].id = flow
      · by_cases h2 : from_ < xs[k].n
        · by_cases h3 : xs[k].n ≤ to
          · have hin : inSpan flow from_ to xs[k] = true := by simp [inSpan, *]
            have HI := hide hin
            clear hin
            go_wp2
            go_roundw
            case rel => exact ⟨k + 1, by omega, by go_num, by rw [HS.out, HM.out, HI.out]; go_num, hb.alloc hb.size _⟩
            case measure => simp [intOf]; omega
          · have hin : inSpan flow from_ to xs[k] = false := by simp [inSpan, h1, h2]; omega
            have HI := hide hin
            clear hin
            go_wp2
            go_roundw
            case rel => exact ⟨k + 1, by omega, by go_num, by rw [HS.out, HM.out, HI.out]; rfl, hb.alloc hb.size _⟩
            case measure => simp [intOf]; omega
        · have hin : inSpan flow from_ to xs[k] = false := by simp [inSpan, h1, h2]
          have HI := hide hin
          clear hin
          go_wp2
          go_roundw
          case rel => exact ⟨k + 1, by omega, by go_num, by rw [HS.out, HM.out, HI.out]; rfl, hb.alloc hb.size _⟩
          case measure => simp [intOf]; omega
      · have hin : inSpan flow from_ to xs[k] = false := by simp [inSpan, h1]
        have HI := hide hin
        clear hin
        go_wp2
        go_roundw
        case rel => exact ⟨k + 1, by omega, by go_num, by rw [HS.out, HM.out, HI.out]; rfl, hb.alloc hb.size _⟩
        case measure => simp [intOf]; omega
    · have e : k = xs.length := by omega
      subst e
      go_wp2
      rw [Exit.noGoto_ret]
      go_ret
      exact ⟨ret_int (by rw [List.take_length]), hb⟩
theorem Try.infoInt : (Try.prog.info? 3).map (fun i => (i.zero, i.size, i.bytes)) = some (some (.int .i64 0), 1, 8) := by kernel_rfl
def ticksL (xs : List Ld) (flow : Int) : List Int := (xs.filter fun x => decide (x.id = flow)).map Ld.n
theorem ticksL_step (xs : List Ld) (flow : Int) (k : Nat) (h : k < xs.length) : ticksL (xs.take (k + 1)) flow = ticksL (xs.take k) flow ++ (if xs[k].id = flow then [xs[k].n] else []) := by
  unfold ticksL
  rw [List.take_succ_eq_append_getElem h, List.filter_append, List.map_append]
  by_cases hh : xs[k].id = flow <;> simp [hh]
theorem ticksL_le (xs : List Ld) (flow : Int) : (ticksL xs flow).length ≤ xs.length := by
  unfold ticksL
  rw [List.length_map]
  exact List.length_filter_le _ _
theorem ticksL_take_le (xs : List Ld) (flow : Int) (k : Nat) : (ticksL (xs.take k) flow).length ≤ k := by
  refine Nat.le_trans (ticksL_le _ _) ?_
  rw [List.length_take]; omega
set_option maxHeartbeats 1000000 in
theorem ticks_calls (xs : List Ld) (flow : Int) (A : Option Addr) (c : Nat) (W : World) (hr : Reads W W.heap.size 2 A xs.length (ldCells xs)) (hn : xs.length ≤ 1099511627776) :
    Calls Try.prog 44 #[.slice A xs.length c, .int .i64 flow] W fun e w' => ∃ v, e = .returned v ∧ w'.ownsRow 0 3 1 v (ticksL xs flow).length ((ticksL xs flow).map (Value.int .i64)) ∧ (∀ g, v.ownBlock = some g → W.heap.size ≤ g) ∧ Below W.heap.size W w' := by
  obtain ⟨i0, hi, hz0, hz1, hz2⟩ := info_parts Try.infoInt
  go_enter Try.func44, Try.ntmps44
  go_wp2
  go_loopw [5, 10] (fun v i wr => ∃ k : Nat, k ≤ xs.length ∧ i = .int .i64 k ∧ wr.ownsRow 0 3 1 v (ticksL (xs.take k) flow).length ((ticksL (xs.take k) flow).map (Value.int .i64)) ∧ (∀ g, v.ownBlock = some g → W.heap.size ≤ g) ∧ Below W.heap.size W wr) (fun _ i _ => xs.length - (intOf i).toNat)
  case atStart => exact ⟨0, by omega, rfl, World.ownsRow_nil _ _ _ _, (fun g hg => by cases hg), Below.refl _ _⟩
  case round =>
    obtain ⟨k, hk, rfl, hown, hgb, hb⟩ := hrel
    by_cases hlt : k < xs.length
    · obtain ⟨b, o, rfl, hbB, hcell⟩ := (hr.below hb).at_ (by omega)
      have c0 : wr.cell? ⟨b, o + k * 2, none⟩ = some (.int .i64 xs[k].id) := hcell _ _ (ldCells_get xs k 0 hlt (by omega))
      have c1 : wr.cell? ⟨b, o + k * 2 + 1, none⟩ = some (.int .i64 xs[k].n) := hcell _ _ (ldCells_get xs k 1 hlt (by omega))
      have HS := hide (ticksL_step xs flow k hlt)
      have hl := ticksL_take_le xs flow k
      have hsz := hb.size
      obtain ⟨L, hL⟩ : ∃ L, ticksL (xs.take k) flow = L := ⟨_, rfl⟩
      rw [hL] at hown hl
      have HL := hide hL
      clear hL
      by_cases h1 : xs[k].id = flow
      · have h1' : (xs[k].id == flow) = true := by simpa using h1
        have HE := hide h1
        clear h1
        go_wp2_with (at_builtin; refine app_law rfl _ _ 33 rfl 3 i0 (.int .i64 0) 1 8 Try.underlying33 hi hz0 hz1 hz2 rfl (by decide) _ _ _ rfl ((hown.alloc _).alloc _) (wr.heap.size + 1) 1 1 [.int .i64 xs[k].n] rfl (Blk.new (by simp)) rfl ?c1 (by decide) ?c3 ?c4 ?_)
        case c1 => intro u hu; simp at hu; subst hu; rfl
        case c3 => unfold maxLen; omega
        case c4 => omega
        intro g cap w1 hown1 hch hor _
        have hb1 := (hb.alloc hb.size (.cells #[.int .i64 xs[k].id, .int .i64 xs[k].n] 57)).alloc (by simp; omega) (.cells #[.int .i64 xs[k].n] 3)
        have R := Chg.onto hb1 (by simp; omega) hch (fun x hx => hgb x (by simpa using hx))
        have hg : W.heap.size ≤ g := by rcases hor with h | h; exact hgb g h; have := hb.size; omega
        clear hown hch hb1 hb hor
        go_wp2
        go_roundw
        case rel => exact ⟨k + 1, by omega, by go_num, by rw [HS.out, HL.out, if_pos HE.out]; simpa using hown1, fun x hx => by cases hx; exact hg, R⟩
        case measure => simp [intOf]; omega
      · have h1' : (xs[k].id == flow) = false := by simpa using h1
        have HE := hide h1
        clear h1
        go_wp2
        go_roundw
        case rel => exact ⟨k + 1, by omega, by go_num, by rw [HS.out, HL.out, if_neg HE.out, List.append_nil]; exact hown.alloc _, hgb, hb.alloc hb.size _⟩
        case measure => simp [intOf]; omega
    · have e : k = xs.length := by omega
      subst e
      go_wp2
      go_ret
      exact ⟨_, rfl, by rw [List.take_length] at hown; exact hown, hgb, hb⟩
end Go.Proofs.Ytjdkafamaoeifaa
