/- The law SchedOrder of layer 12: for every input it answers true. No conditions. -/
import Derived.Test.YtjdkafamaoeifaaFill
namespace Go.Proofs.Ytjdkafamaoeifaa
open Go.ChangeShapes Go.WideShapes Go.ChangeAt Go.RowKit Go.Proofs Go.Joins Go.Maps
set_option linter.unusedVariables false
set_option linter.unusedSimpArgs false

def fo (C : Nat → Clk) (Q : Nat → List It) (j : Nat) : Fl := ⟨(j : Int), 1, ⟨300 * (j : Int), 1 + (j : Int), 0, 0⟩, C j, Q j⟩
/-- three flows -/
def XO (C : Nat → Clk) (Q : Nat → List It) : List Fl := [fo C Q 0, fo C Q 1, fo C Q 2]
def upF {α : Type} (C : Nat → α) (j : Nat) (c : α) : Nat → α := fun k => if k = j then c else C k
theorem XO_set (C : Nat → Clk) (Q : Nat → List It) {j : Nat} (hj : j < 3) (c : Clk) (q : List It) : (XO C Q).set j ⟨(j : Int), 1, ⟨300 * (j : Int), 1 + (j : Int), 0, 0⟩, c, q⟩ = XO (upF C j c) (upF Q j q) := by
  have : j = 0 ∨ j = 1 ∨ j = 2 := by omega
  rcases this with rfl | rfl | rfl <;> rfl
theorem XO_get (C : Nat → Clk) (Q : Nat → List It) {j : Nat} (hj : j < (XO C Q).length) : (XO C Q)[j] = fo C Q j := by
  have : j = 0 ∨ j = 1 ∨ j = 2 := by simp [XO] at hj; omega
  rcases this with rfl | rfl | rfl <;> rfl
theorem XO_mem (C : Nat → Clk) (Q : Nat → List It) {j : Nat} (hj : j < 3) : fo C Q j ∈ XO C Q := by
  have : j = 0 ∨ j = 1 ∨ j = 2 := by omega
  rcases this with rfl | rfl | rfl <;> simp [XO]
theorem right_o {j : Nat} (hj : j < 3) : right (300 * (j : Int)) (1 + (j : Int)) 0 0 = true := by
  have : j = 0 ∨ j = 1 ∨ j = 2 := by omega
  rcases this with rfl | rfl | rfl <;> decide
theorem may_o (C : Nat → Clk) (Q : Nat → List It) {j : Nat} (hj : j < 3) (tag : Int) : mayL tag (fo C Q j) = true := by
  simp [mayL, byLimit, fo, right_o hj]
def gI (l : List Int) (i : Nat) : Int := l.getD i 0
theorem gI_get {l : List Int} {i : Nat} (h : i < l.length) : gI l i = l[i] := by simp [gI, h]
/-- flow j's items of the first k -/
def qs (l : List Int) (k : Nat) (j : Int) : List It := ((List.range k).filter fun i => gI l i % 3 == j).map fun (i : Nat) => ⟨(i : Int), 0, 0⟩
theorem qs_same {l : List Int} {k : Nat} {j : Int} (h : gI l k % 3 = j) : qs l (k + 1) j = qs l k j ++ [⟨(k : Int), 0, 0⟩] := by
  unfold qs
  rw [List.range_succ, List.filter_append, List.map_append]
  simp [h]
theorem qs_other {l : List Int} {k : Nat} {j : Int} (h : gI l k % 3 ≠ j) : qs l (k + 1) j = qs l k j := by
  unfold qs
  rw [List.range_succ, List.filter_append, List.map_append]
  simp [h]
theorem qs_len (l : List Int) (k : Nat) (j : Int) : (qs l k j).length ≤ k := by
  unfold qs
  rw [List.length_map]
  exact Nat.le_trans (List.length_filter_le _ _) (by simp)
theorem qs_total (l : List Int) (k : Nat) : (qs l k 0).length + (qs l k 1).length + (qs l k 2).length = k := by
  induction k with
  | zero => rfl
  | succ k ih =>
    have h3 : gI l k % 3 = 0 ∨ gI l k % 3 = 1 ∨ gI l k % 3 = 2 := by omega
    rcases h3 with h | h | h
    · rw [qs_same h, qs_other (j := 1) (by omega), qs_other (j := 2) (by omega), List.length_append, List.length_singleton]; omega
    · rw [qs_same h, qs_other (j := 0) (by omega), qs_other (j := 2) (by omega), List.length_append, List.length_singleton]; omega
    · rw [qs_same h, qs_other (j := 0) (by omega), qs_other (j := 1) (by omega), List.length_append, List.length_singleton]; omega
/-- a queue in order, behind 'last' -/
def QI (l : List Int) (j : Int) (last : Int) (q : List It) : Prop :=
  q.Pairwise (fun a b => a.name < b.name) ∧ ∀ x ∈ q, last < x.name ∧ 0 ≤ x.name ∧ x.name < l.length ∧ gI l x.name.toNat % 3 = j
theorem QI.start (l : List Int) (j : Int) : QI l j (-1) (qs l l.length j) := by
  refine ⟨?_, fun x hx => ?_⟩
  · unfold qs
    rw [List.pairwise_map]
    refine (List.Pairwise.filter _ List.pairwise_lt_range).imp fun h => ?_
    simpa using h
  · obtain ⟨i, hi, rfl⟩ := List.mem_map.1 hx
    obtain ⟨h1, h2⟩ := List.mem_filter.1 hi
    have h1' : i < l.length := by simpa using h1
    refine ⟨by simp only; omega, by simp only; omega, by simp only; omega, ?_⟩
    simpa using h2
theorem QI.head {l : List Int} {j last : Int} {x : It} {rest : List It} (h : QI l j last (x :: rest)) : (last < x.name ∧ 0 ≤ x.name ∧ x.name < l.length ∧ gI l x.name.toNat % 3 = j) ∧ QI l j x.name rest := by
  obtain ⟨h1, h2⟩ := h
  rw [List.pairwise_cons] at h1
  exact ⟨h2 x (by simp), h1.2, fun y hy => ⟨h1.1 y hy, (h2 y (by simp [hy])).2⟩⟩
theorem upF_same {α : Type} (C : Nat → α) (j : Nat) (c : α) : upF C j c j = c := by simp [upF]
theorem upF_other {α : Type} {C : Nat → α} {j k : Nat} (h : k ≠ j) (c : α) : upF C j c k = C k := by simp [upF, h]
/-- the state while they are picked -/
structure Ord (W wr : World) (b ps : Nat) (l : List Int) (k : Nat) (C : Nat → Clk) (Q : Nat → List It) (a : Nat → Int) : Prop where
  s : Sch W [(b, 48, #[.int .i64 (a 0), .int .i64 (a 1), .int .i64 (a 2)])] wr ps (XO C Q)
  q : ∀ j : Nat, j < 3 → QI l (j : Int) (a j) (Q j)
  n : (Q 0).length + (Q 1).length + (Q 2).length + k = l.length
theorem Ord.may {W wr : World} {b ps : Nat} {l : List Int} {k : Nat} {C : Nat → Clk} {Q : Nat → List It} {a : Nat → Int} (h : Ord W wr b ps l k C Q a) (hk : k < l.length) (tag : Int) : ¬ ∀ f ∈ XO C Q, up f = true → mayL tag f = false := by
  intro hn
  have : ∃ j, j < 3 ∧ Q j ≠ [] := by
    by_cases h0 : Q 0 = []
    · by_cases h1 : Q 1 = []
      · refine ⟨2, by omega, fun h2 => ?_⟩
        have := h.n
        rw [h0, h1, h2] at this
        simp at this
        omega
      · exact ⟨1, by omega, h1⟩
    · exact ⟨0, by omega, h0⟩
  obtain ⟨j, hj, hq⟩ := this
  have := hn _ (XO_mem C Q hj) (by simp [up, fo]; exact hq)
  rw [may_o C Q hj] at this
  cases this
theorem Ord.none_ {W wr : World} {b ps : Nat} {l : List Int} {C : Nat → Clk} {Q : Nat → List It} {a : Nat → Int} (h : Ord W wr b ps l l.length C Q a) : ∀ j, j < 3 → Q j = [] := by
  intro j hj
  have hn := h.n
  have : j = 0 ∨ j = 1 ∨ j = 2 := by omega
  rcases this with rfl | rfl | rfl <;> exact List.eq_nil_of_length_eq_zero (by omega)
theorem XO_congr (C : Nat → Clk) {Q Q' : Nat → List It} (h : ∀ j, j < 3 → Q j = Q' j) : XO C Q = XO C Q' := by
  unfold XO fo
  rw [h 0 (by omega), h 1 (by omega), h 2 (by omega)]
theorem qs_push (l : List Int) (k j : Nat) (h : gI l k % 3 = (j : Int)) : ∀ i, i < 3 → upF (fun (i : Nat) => qs l k (i : Int)) j (qs l k (j : Int) ++ [⟨(k : Int), 0, 0⟩]) i = qs l (k + 1) (i : Int) := by
  intro i hi
  by_cases e : i = j
  · subst e
    rw [upF_same, qs_same h]
  · rw [upF_other e, qs_other (by omega)]
theorem take_no {C : Nat → Clk} {Q : Nat → List It} {k : Nat} (hk : k < 3) : ∀ f ∈ (XO C Q).take k, f.id ≠ (k : Int) := by
  have : k = 0 ∨ k = 1 ∨ k = 2 := by omega
  rcases this with rfl | rfl | rfl <;> simp [XO, fo]
theorem take_step (C : Nat → Clk) (Q : Nat → List It) {k : Nat} (hk : k < 3) : (XO C Q).take k ++ [fo C Q k] = (XO C Q).take (k + 1) := by
  have : k = 0 ∨ k = 1 ∨ k = 2 := by omega
  rcases this with rfl | rfl | rfl <;> rfl
def zC : Nat → Clk := fun _ => ⟨0, 0, 0⟩
def zQ : Nat → List It := fun _ => []
set_option maxHeartbeats 8000000 in
set_option maxRecDepth 100000 in
/-- THE WALK of SchedOrder: whatever comes in, it answers true, and nothing that was there turns. -/
theorem schedOrder_walk {H : Type} {enc : TypeId × Value → H} (W : World) (base : Nat) (v0 : Value) (d0 : DataW H) (p0 : List MemPlace)
    (ok0 : Value.okWide Try.prog W .any base 23 v0) (h0 : DataW.Trod enc Try.prog W 0 (fun _ => true) true 23 v0 d0 p0) :
    Calls Try.prog 6 #[v0] W fun e w' => e = .returned (.bool true) ∧ Below W.heap.size W w' := by
  obtain ⟨A0, c0, l, rfl, l0, m0, fw, R0⟩ := open_intsR Try.underlying23 Try.underlying5 (by kernel_rfl) ok0 h0
  clear ok0 h0
  unfold maxLen at m0
  have HR0 := hide R0
  have HFW := hide fw
  clear R0 fw
  by_cases n0 : l.length ≤ 60
  · have hn : ¬ (60 < (l.length : Int)) := by omega
    have HN := hide (snew_s (Inv.refl W))
    go_enter Try.func6, Try.ntmps6
    go_wp2_with fail
    refine HN.out.mono ?_
    rintro e w1 ⟨ps, rfl, h1⟩
    have H1 := hide h1
    clear h1 HN
    go_wp2_with fail
    go_loopw [4] (fun i wr => ∃ k : Nat, k ≤ 3 ∧ i = .int .i64 k ∧ Sch W [] wr ps ((XO zC zQ).take k)) (fun i _ => 3 - (intOf i).toNat)
    case atStart => exact ⟨0, by omega, rfl, H1.out⟩
    case round =>
      obtain ⟨k, hk, rfl, hs⟩ := hrel
      by_cases hlt : k < 3
      · have HC := hide (set_new_s (k : Int) 1 ⟨300 * (k : Int), 1 + (k : Int), 0, 0⟩ hs (Nat.le_trans (List.length_take_le _ _) (by omega)) (take_no hlt) (by omega) (by omega) (by decide) (right_o hlt))
        have i1 : (k : Int) < 3 := by omega
        have e1 : IntKind.i64.wrap (1 + (k : Int)) = 1 + (k : Int) := IntWalk.i64_in _ (by omega)
        have e2 : IntKind.i64.wrap (300 * (k : Int)) = 300 * (k : Int) := IntWalk.i64_in _ (by omega)
        clear hs
        go_wp2_with fail
        refine HC.out.mono ?_
        rintro e w2 ⟨rfl, h2⟩
        have h2' : Sch W [] w2 ps ((XO zC zQ).take (k + 1)) := by rw [← take_step zC zQ hlt]; exact h2
        have H2 := hide h2'
        clear h2 h2' HC e1 e2
        go_wp2
        go_roundw
        case rel => exact ⟨k + 1, by omega, by go_num, H2.out⟩
        case measure => simp [intOf]; omega
      · have e3 : k = 3 := by omega
        subst e3
        rw [show ((3 : Nat) : Int) = 3 from rfl]
        have HS := hide hs
        clear hs H1
        go_wp2_with fail
        go_loopw [5] (fun i wr => ∃ (k : Nat) (C : Nat → Clk), k ≤ l.length ∧ i = .int .i64 k ∧ Sch W [] wr ps (XO C (fun (j : Nat) => qs l k (j : Int)))) (fun i _ => l.length - (intOf i).toNat)
        case atStart => exact ⟨0, zC, by omega, rfl, HS.out⟩
        case round =>
          obtain ⟨k, C, hk, rfl, hs⟩ := hrel
          by_cases hlt : k < l.length
          · obtain ⟨bA, o, rfl, hbA, hcell⟩ := HR0.out.at_ (by omega)
            have hcx : W.cell? ⟨bA, o + k, none⟩ = some (.int .u8 l[k]) := hcell k _ (by simp [hlt])
            have hwx := bounds_u8 (HFW.out _ (List.getElem_mem hlt))
            have hgx := gI_get hlt
            obtain ⟨x, hx⟩ : ∃ x, l[k] = x := ⟨_, rfl⟩
            rw [hx] at hcx hwx hgx
            have hcw : wr.cell? ⟨bA, o + k, none⟩ = some (.int .u8 x) := (hs.base.cell (p := ⟨bA, o + k, none⟩) hbA).trans hcx
            obtain ⟨j, hj, hjx⟩ : ∃ j : Nat, j < 3 ∧ (j : Int) = x % 3 := ⟨(x % 3).toNat, by omega, by omega⟩
            have hgj : gI l k % 3 = (j : Int) := by rw [hgx, hjx]
            have i1 : (k : Int) < l.length := by omega
            obtain ⟨x0, x1⟩ := hwx
            have HG := hide hgj
            have hln := qs_len l k (j : Int)
            have HCALL : Hid (∃ C', Calls Try.prog 16 #[.pointer (some ⟨ps, 0, none⟩), .int .i64 (x % 3), .agg #[.int .i64 k, .int .i64 0, .int .i64 0], .int .i64 k] wr fun e w' => e = .returned (.int .i64 0) ∧ Sch W [] w' ps (XO C' (fun (j : Nat) => qs l (k + 1) (j : Int)))) := by
              by_cases hq : qs l k (j : Int) = []
              · refine ⟨upF C j (wake (C j) (at_ (k : Int)) (leastP (XO C fun (j : Nat) => qs l k (j : Int)))), (push_first_s j (fo C (fun (j : Nat) => qs l k (j : Int)) j) (x % 3) (k : Int) ⟨(k : Int), 0, 0⟩ hs (by simp [XO]) (by simp [XO]; omega) (XO_get _ _ _) hjx hq).mono fun e w' ⟨he, h⟩ => ⟨he, ?_⟩⟩
                have h' : Sch W [] w' ps (XO (upF C j (wake (C j) (at_ (k : Int)) (leastP (XO C fun (j : Nat) => qs l k (j : Int))))) (upF (fun (i : Nat) => qs l k (i : Int)) j (qs l k (j : Int) ++ [⟨(k : Int), 0, 0⟩]))) := by
                  rw [← XO_set _ _ hj]; exact h
                rw [XO_congr _ (qs_push l k j HG.out)] at h'
                exact h'
              · refine ⟨upF C j (C j), (push_more_s j (fo C (fun (j : Nat) => qs l k (j : Int)) j) (x % 3) (k : Int) ⟨(k : Int), 0, 0⟩ hs (by simp [XO]) (by simp [XO]; omega) (XO_get _ _ _) hjx hq (Nat.lt_of_le_of_lt hln (by omega))).mono fun e w' ⟨he, h⟩ => ⟨he, ?_⟩⟩
                have h' : Sch W [] w' ps (XO (upF C j (C j)) (upF (fun (i : Nat) => qs l k (i : Int)) j (qs l k (j : Int) ++ [⟨(k : Int), 0, 0⟩]))) := by
                  rw [← XO_set _ _ hj]; exact h
                rw [XO_congr _ (qs_push l k j HG.out)] at h'
                exact h'
            clear hs hx hcx hgx hgj hcell hln hjx hj
            go_wp2_with fail
            obtain ⟨C', hcall⟩ := HCALL.out
            refine hcall.mono ?_
            rintro e w2 ⟨rfl, h2⟩
            have H2 := hide h2
            clear h2 hcall HCALL
            go_wp2
            go_roundw
            case rel => exact ⟨k + 1, C', by omega, by go_num, H2.out⟩
            case measure => simp [intOf]; omega
          · have e4 : k = l.length := by omega
            subst e4
            obtain ⟨b, hb⟩ : ∃ b, wr.heap.size = b := ⟨_, rfl⟩
            have h5 : Ord W (wr.alloc (.cells #[.int .i64 (-1), .int .i64 (-1), .int .i64 (-1)] 48)) b ps l 0 C (fun (j : Nat) => qs l l.length (j : Int)) (fun _ => -1) := by
              refine ⟨hs.new hb, fun j hj => QI.start l (j : Int), ?_⟩
              have := qs_total l l.length
              simpa using this
            have H5 := hide h5
            have hWb : W.heap.size ≤ b := by rw [← hb]; exact hs.base.size
            clear hs h5
            go_wp2_with fail
            go_loopw [7, 8, 9, 10, 11] (fun i _ _ _ _ wr => ∃ (k : Nat) (C : Nat → Clk) (Q : Nat → List It) (a : Nat → Int), k ≤ l.length ∧ i = .int .i64 k ∧ Ord W wr b ps l k C Q a) (fun i _ _ _ _ _ => l.length - (intOf i).toNat)
            case atStart => exact ⟨0, _, _, _, by omega, rfl, H5.out⟩
            case round =>
              obtain ⟨k, C, Q, a, hk, rfl, hs⟩ := hrel
              have HS := hide hs
              by_cases hlt : k < l.length
              · have HPK := hide (pick_s (60 + (k : Int)) hs.s (by simp [XO]))
                have hmay := hide (hs.may hlt (at_ (60 + (k : Int))))
                have i1 : (k : Int) < l.length := by omega
                have e1 : IntKind.i64.wrap (60 + (k : Int)) = 60 + (k : Int) := IntWalk.i64_in _ (by omega)
                obtain ⟨bA, o, rfl, hbA, hcell⟩ := HR0.out.at_ (by omega)
                have HCELL := hide hcell
                clear hs hcell
                go_wp2_with fail
                refine HPK.out.mono ?_
                rintro e w3 (⟨rfl, hno, _⟩ | ⟨i, phase, f, ⟨xn, xd, xr⟩, rest, hp, ⟨hi, hf⟩, hqf, rfl, h3⟩)
                · exact absurd hno hmay.out
                have hi3 : i < 3 := by simpa [XO] using hi
                rw [XO_get] at hf
                subst hf
                have hqi : Q i = ⟨xn, xd, xr⟩ :: rest := hqf
                have hQ := HS.out.q i hi3
                rw [hqi] at hQ
                obtain ⟨⟨g1, g2, g3, g4⟩, hQ2⟩ := hQ.head
                simp only at g1 g2 g3 g4 hQ2
                obtain ⟨nm, rfl⟩ : ∃ nm : Nat, xn = (nm : Int) := ⟨xn.toNat, by omega⟩
                have hnl : nm < l.length := by omega
                rw [Int.toNat_natCast, gI_get hnl] at g4
                have hyc : W.cell? ⟨bA, o + nm, none⟩ = some (.int .u8 l[nm]) := HCELL.out nm _ (by simp [hnl])
                have hyw := bounds_u8 (HFW.out _ (List.getElem_mem hnl))
                obtain ⟨y, hy⟩ : ∃ y, l[nm] = y := ⟨_, rfl⟩
                rw [hy] at g4 hyc hyw
                obtain ⟨y0, y1⟩ := hyw
                have HY := hide hyc
                have HQ2 := hide hQ2
                have HQI := hide hqi
                unfold popped at h3
                rw [show (fo C Q i).id = (i : Int) from rfl, show (fo C Q i).ver = 1 from rfl, show (fo C Q i).p = ⟨300 * (i : Int), 1 + (i : Int), 0, 0⟩ from rfl, XO_set _ _ hi3] at h3
                rw [show (fo C Q i).id = (i : Int) from rfl]
                clear hp hi hqf hqi hQ hQ2 hyc hy HPK hmay
                have hi012 : i = 0 ∨ i = 1 ∨ i = 2 := by omega
                rcases hi012 with rfl | rfl | rfl
                · have hy3 : y % 3 = 0 := g4
                  -- the flow 0 was picked
                  rw [show ((0 : Nat) : Int) = 0 from rfl]
                  have hA : w3.cell? ⟨b, 0, none⟩ = some (.int .i64 (a 0)) := h3.inv.cell (List.Mem.head _) 0
                  have hFz : w3.frozen? ⟨b, 0, none⟩ = false := h3.inv.frozen (List.Mem.head _) 0
                  have hbb : b < w3.heap.size := h3.inv.lt (List.Mem.head _)
                  have hYc : w3.cell? ⟨bA, o + nm, none⟩ = some (.int .u8 y) := (h3.base.cell (p := ⟨bA, o + nm, none⟩) hbA).trans HY.out
                  have hyA : bA < w3.heap.size := Nat.lt_of_lt_of_le hbA h3.base.size
                  have nb1 : ¬ (b = w3.heap.size) := by omega
                  have nb2 : ¬ (w3.heap.size = b) := by omega
                  have nb3 : ¬ (bA = w3.heap.size) := by omega
                  have nb4 : ¬ (w3.heap.size = bA) := by omega
                  have t1 : decide ((nm : Int) ≤ a 0) = false := decide_eq_false (by omega)
                  have t2 : decide ((l.length : Int) ≤ (nm : Int)) = false := decide_eq_false (by omega)
                  have t3 : (y % 3 != 0) = false := by simp; exact hy3
                  have t7 : (y % 3 == 0) = true := by simp; exact hy3
                  have hwy : IntKind.i64.wrap y = y := IntWalk.i64_in _ (by omega)
                  have t8 : decide (l.length ≤ nm) = false := decide_eq_false (by omega)
                  have t9 : ((IntKind.i64.wrap y).tmod 3 != 0) = false := by
                    rw [hwy, Int.tmod_eq_emod_of_nonneg y0]; exact t3
                  have t10 : ¬ (l.length ≤ nm) := by omega
                  clear hwy
                  have t4 : ¬ ((nm : Int) ≤ a 0) := by omega
                  have t5 : ¬ ((l.length : Int) ≤ (nm : Int)) := by omega
                  have t6 : (nm : Int) < l.length := by omega
                  have h5 := h3.alloc (.cells #[.int .i64 nm, .int .i64 xd, .int .i64 xr] 36)
                  have z0 : (w3.alloc (.cells #[.int .i64 nm, .int .i64 xd, .int .i64 xr] 36)).cell? ⟨w3.heap.size, 0, none⟩ = some (.int .i64 nm) := (Blk.new (w := w3) (cs := [.int .i64 nm, .int .i64 xd, .int .i64 xr]) (t := 36) rfl).cell 0
                  have z1 : (w3.alloc (.cells #[.int .i64 nm, .int .i64 xd, .int .i64 xr] 36)).cell? ⟨b, 0, none⟩ = some (.int .i64 (a 0)) := h5.inv.cell (List.Mem.head _) 0
                  have z2 : (w3.alloc (.cells #[.int .i64 nm, .int .i64 xd, .int .i64 xr] 36)).frozen? ⟨b, 0, none⟩ = false := h5.inv.frozen (List.Mem.head _) 0
                  have z3 : (w3.alloc (.cells #[.int .i64 nm, .int .i64 xd, .int .i64 xr] 36)).cell? ⟨bA, o + nm, none⟩ = some (.int .u8 y) := (h5.base.cell (p := ⟨bA, o + nm, none⟩) hbA).trans HY.out
                  go_wp2_with fail
                  obtain ⟨w5, hw5⟩ : ∃ w5, w3.alloc (.cells #[.int .i64 nm, .int .i64 xd, .int .i64 xr] 36) = w5 := ⟨_, rfl⟩
                  rw [hw5] at h5 z0 z1 z2 z3 ⊢
                  have H5s := hide h5
                  clear h3 h5 hA hFz hYc hyA nb1 nb2 nb3 nb4 hw5 hbb
                  go_quiet (fail)
                  go_wp2
                  go_roundw
                  case rel => exact ⟨k + 1, _, upF Q 0 rest, upF a 0 nm, by omega, by go_num, ⟨(H5s.out.drewN _).set hWb (by simp) 0 (.int .i64 nm), fun j hj => by
                      by_cases e : j = 0
                      · subst e
                        rw [upF_same, upF_same]
                        exact HQ2.out
                      · rw [upF_other e, upF_other e]
                        exact HS.out.q j hj, by
                      have hn := HS.out.n
                      rw [HQI.out] at hn
                      simp [upF] at hn ⊢
                      omega⟩⟩
                  case measure => simp [intOf]; omega
                · have hy3 : y % 3 = 1 := g4
                  -- the flow 1 was picked
                  rw [show ((1 : Nat) : Int) = 1 from rfl]
                  have hA : w3.cell? ⟨b, 1, none⟩ = some (.int .i64 (a 1)) := h3.inv.cell (List.Mem.head _) 1
                  have hFz : w3.frozen? ⟨b, 1, none⟩ = false := h3.inv.frozen (List.Mem.head _) 1
                  have hbb : b < w3.heap.size := h3.inv.lt (List.Mem.head _)
                  have hYc : w3.cell? ⟨bA, o + nm, none⟩ = some (.int .u8 y) := (h3.base.cell (p := ⟨bA, o + nm, none⟩) hbA).trans HY.out
                  have hyA : bA < w3.heap.size := Nat.lt_of_lt_of_le hbA h3.base.size
                  have nb1 : ¬ (b = w3.heap.size) := by omega
                  have nb2 : ¬ (w3.heap.size = b) := by omega
                  have nb3 : ¬ (bA = w3.heap.size) := by omega
                  have nb4 : ¬ (w3.heap.size = bA) := by omega
                  have t1 : decide ((nm : Int) ≤ a 1) = false := decide_eq_false (by omega)
                  have t2 : decide ((l.length : Int) ≤ (nm : Int)) = false := decide_eq_false (by omega)
                  have t3 : (y % 3 != 1) = false := by simp; exact hy3
                  have t7 : (y % 3 == 1) = true := by simp; exact hy3
                  have hwy : IntKind.i64.wrap y = y := IntWalk.i64_in _ (by omega)
                  have t8 : decide (l.length ≤ nm) = false := decide_eq_false (by omega)
                  have t9 : ((IntKind.i64.wrap y).tmod 3 != 1) = false := by
                    rw [hwy, Int.tmod_eq_emod_of_nonneg y0]; exact t3
                  have t10 : ¬ (l.length ≤ nm) := by omega
                  clear hwy
                  have t4 : ¬ ((nm : Int) ≤ a 1) := by omega
                  have t5 : ¬ ((l.length : Int) ≤ (nm : Int)) := by omega
                  have t6 : (nm : Int) < l.length := by omega
                  have h5 := h3.alloc (.cells #[.int .i64 nm, .int .i64 xd, .int .i64 xr] 36)
                  have z0 : (w3.alloc (.cells #[.int .i64 nm, .int .i64 xd, .int .i64 xr] 36)).cell? ⟨w3.heap.size, 0, none⟩ = some (.int .i64 nm) := (Blk.new (w := w3) (cs := [.int .i64 nm, .int .i64 xd, .int .i64 xr]) (t := 36) rfl).cell 0
                  have z1 : (w3.alloc (.cells #[.int .i64 nm, .int .i64 xd, .int .i64 xr] 36)).cell? ⟨b, 1, none⟩ = some (.int .i64 (a 1)) := h5.inv.cell (List.Mem.head _) 1
                  have z2 : (w3.alloc (.cells #[.int .i64 nm, .int .i64 xd, .int .i64 xr] 36)).frozen? ⟨b, 1, none⟩ = false := h5.inv.frozen (List.Mem.head _) 1
                  have z3 : (w3.alloc (.cells #[.int .i64 nm, .int .i64 xd, .int .i64 xr] 36)).cell? ⟨bA, o + nm, none⟩ = some (.int .u8 y) := (h5.base.cell (p := ⟨bA, o + nm, none⟩) hbA).trans HY.out
                  go_wp2_with fail
                  obtain ⟨w5, hw5⟩ : ∃ w5, w3.alloc (.cells #[.int .i64 nm, .int .i64 xd, .int .i64 xr] 36) = w5 := ⟨_, rfl⟩
                  rw [hw5] at h5 z0 z1 z2 z3 ⊢
                  have H5s := hide h5
                  clear h3 h5 hA hFz hYc hyA nb1 nb2 nb3 nb4 hw5 hbb
                  go_quiet (fail)
                  go_wp2
                  go_roundw
                  case rel => exact ⟨k + 1, _, upF Q 1 rest, upF a 1 nm, by omega, by go_num, ⟨(H5s.out.drewN _).set hWb (by simp) 1 (.int .i64 nm), fun j hj => by
                      by_cases e : j = 1
                      · subst e
                        rw [upF_same, upF_same]
                        exact HQ2.out
                      · rw [upF_other e, upF_other e]
                        exact HS.out.q j hj, by
                      have hn := HS.out.n
                      rw [HQI.out] at hn
                      simp [upF] at hn ⊢
                      omega⟩⟩
                  case measure => simp [intOf]; omega
                · have hy3 : y % 3 = 2 := g4
                  -- the flow 2 was picked
                  rw [show ((2 : Nat) : Int) = 2 from rfl]
                  have hA : w3.cell? ⟨b, 2, none⟩ = some (.int .i64 (a 2)) := h3.inv.cell (List.Mem.head _) 2
                  have hFz : w3.frozen? ⟨b, 2, none⟩ = false := h3.inv.frozen (List.Mem.head _) 2
                  have hbb : b < w3.heap.size := h3.inv.lt (List.Mem.head _)
                  have hYc : w3.cell? ⟨bA, o + nm, none⟩ = some (.int .u8 y) := (h3.base.cell (p := ⟨bA, o + nm, none⟩) hbA).trans HY.out
                  have hyA : bA < w3.heap.size := Nat.lt_of_lt_of_le hbA h3.base.size
                  have nb1 : ¬ (b = w3.heap.size) := by omega
                  have nb2 : ¬ (w3.heap.size = b) := by omega
                  have nb3 : ¬ (bA = w3.heap.size) := by omega
                  have nb4 : ¬ (w3.heap.size = bA) := by omega
                  have t1 : decide ((nm : Int) ≤ a 2) = false := decide_eq_false (by omega)
                  have t2 : decide ((l.length : Int) ≤ (nm : Int)) = false := decide_eq_false (by omega)
                  have t3 : (y % 3 != 2) = false := by simp; exact hy3
                  have t7 : (y % 3 == 2) = true := by simp; exact hy3
                  have hwy : IntKind.i64.wrap y = y := IntWalk.i64_in _ (by omega)
                  have t8 : decide (l.length ≤ nm) = false := decide_eq_false (by omega)
                  have t9 : ((IntKind.i64.wrap y).tmod 3 != 2) = false := by
                    rw [hwy, Int.tmod_eq_emod_of_nonneg y0]; exact t3
                  have t10 : ¬ (l.length ≤ nm) := by omega
                  clear hwy
                  have t4 : ¬ ((nm : Int) ≤ a 2) := by omega
                  have t5 : ¬ ((l.length : Int) ≤ (nm : Int)) := by omega
                  have t6 : (nm : Int) < l.length := by omega
                  have h5 := h3.alloc (.cells #[.int .i64 nm, .int .i64 xd, .int .i64 xr] 36)
                  have z0 : (w3.alloc (.cells #[.int .i64 nm, .int .i64 xd, .int .i64 xr] 36)).cell? ⟨w3.heap.size, 0, none⟩ = some (.int .i64 nm) := (Blk.new (w := w3) (cs := [.int .i64 nm, .int .i64 xd, .int .i64 xr]) (t := 36) rfl).cell 0
                  have z1 : (w3.alloc (.cells #[.int .i64 nm, .int .i64 xd, .int .i64 xr] 36)).cell? ⟨b, 2, none⟩ = some (.int .i64 (a 2)) := h5.inv.cell (List.Mem.head _) 2
                  have z2 : (w3.alloc (.cells #[.int .i64 nm, .int .i64 xd, .int .i64 xr] 36)).frozen? ⟨b, 2, none⟩ = false := h5.inv.frozen (List.Mem.head _) 2
                  have z3 : (w3.alloc (.cells #[.int .i64 nm, .int .i64 xd, .int .i64 xr] 36)).cell? ⟨bA, o + nm, none⟩ = some (.int .u8 y) := (h5.base.cell (p := ⟨bA, o + nm, none⟩) hbA).trans HY.out
                  go_wp2_with fail
                  obtain ⟨w5, hw5⟩ : ∃ w5, w3.alloc (.cells #[.int .i64 nm, .int .i64 xd, .int .i64 xr] 36) = w5 := ⟨_, rfl⟩
                  rw [hw5] at h5 z0 z1 z2 z3 ⊢
                  have H5s := hide h5
                  clear h3 h5 hA hFz hYc hyA nb1 nb2 nb3 nb4 hw5 hbb
                  go_quiet (fail)
                  go_wp2
                  go_roundw
                  case rel => exact ⟨k + 1, _, upF Q 2 rest, upF a 2 nm, by omega, by go_num, ⟨(H5s.out.drewN _).set hWb (by simp) 2 (.int .i64 nm), fun j hj => by
                      by_cases e : j = 2
                      · subst e
                        rw [upF_same, upF_same]
                        exact HQ2.out
                      · rw [upF_other e, upF_other e]
                        exact HS.out.q j hj, by
                      have hn := HS.out.n
                      rw [HQI.out] at hn
                      simp [upF] at hn ⊢
                      omega⟩⟩
                  case measure => simp [intOf]; omega
              · have e4 : k = l.length := by omega
                subst e4
                have HPK := hide (pick_s 1000 hs.s (by simp [XO]))
                clear hs
                go_wp2_with fail
                refine HPK.out.mono ?_
                rintro e w3 (⟨rfl, hno, h3⟩ | ⟨i, phase, f, x, rest, hp, ⟨hi, hf⟩, hqf, rfl, h3⟩)
                · have bI := h3.base
                  clear h3 hno HPK
                  go_wp2_with fail
                  have bJ := bI.alloc bI.size (.cells #[.int .i64 0, .int .i64 0, .int .i64 0] 36)
                  refine (awake12_calls _).mono ?_
                  rintro e wa ⟨rfl, hba⟩
                  go_wp2
                  go_ret
                  exact ⟨rfl, bJ.trans (hba.mono bJ.size)⟩
                · have hi3 : i < 3 := by simpa [XO] using hi
                  rw [XO_get] at hf
                  subst hf
                  have := HS.out.none_ i hi3
                  rw [show (fo C Q i).q = Q i from rfl, this] at hqf
                  cases hqf
  · have hn : (60 : Int) < l.length := by omega
    go_enter Try.func6, Try.ntmps6
    go_wp2_with fail
    have bI := Below.refl W.heap.size W
    refine (awake12_calls _).mono ?_
    rintro e wa ⟨rfl, hba⟩
    go_wp2
    go_ret
    exact ⟨rfl, bI.trans (hba.mono bI.size)⟩
end Go.Proofs.Ytjdkafamaoeifaa
