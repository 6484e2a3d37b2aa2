/- The laws of layer 10 (policy), more of them: for every input each of them answers true. No conditions. -/
import Derived.Test.YtpjckplokolcnaaLaw10
namespace Go.Proofs.Ytpjckplokolcnaa
open Go.ChangeShapes Go.WideShapes Go.ChangeAt Go.RowKit

theorem conv_mod {a : Int} (h0 : 0 ≤ a) : a.tmod 1048577 = a % 1048577 ∧ 0 ≤ a % 1048577 ∧ a % 1048577 ≤ 1048576 := by
  refine ⟨Int.tmod_eq_emod_of_nonneg h0, Int.emod_nonneg _ (by decide), ?_⟩
  have := Int.emod_lt_of_pos a (show (0 : Int) < 1048577 by decide)
  omega
def onlyR (r : Int) : Pol := ⟨r, 1, 0, 0⟩
theorem load_only (r : Int) : load [onlyR r] = share (space r) := by simp [load, onlyR]
/-- a greater reservation is no lesser load -/
theorem div_anti {M a b : Int} (hM : 0 ≤ M) (ha : 1 ≤ a) (h : a ≤ b) : M / b ≤ M / a := by
  refine (Int.le_ediv_iff_mul_le (by omega)).2 ?_
  have h0 : 0 ≤ M / b := Int.ediv_nonneg hM (by omega)
  have h2 : M / b * a ≤ M / b * b := Int.mul_le_mul_of_nonneg_left h h0
  have h3 : M / b * b ≤ M := Int.ediv_mul_le M (by omega)
  omega
theorem share_ceil {s : Int} (h : 1 ≤ s) : share s = (1099511627776 + s - 1) / s := by
  have e := rShare_eq s
  obtain ⟨m1, m2, _⟩ := div_mul_facts (M := 1099511627776) (r := s) (by omega)
  rw [← e]
  unfold rShare
  rw [if_neg (by omega)]
  by_cases c : 1099511627776 / s * s < 1099511627776
  · rw [if_pos c]
    exact (ediv_eq (by omega) (by rw [Int.add_mul]; omega) (by rw [Int.add_mul, Int.add_mul]; omega)).symm
  · rw [if_neg c]
    exact (ediv_eq (by omega) (by omega) (by rw [Int.add_mul]; omega)).symm
theorem share_anti {s t : Int} (h : 1 ≤ s) (hst : s ≤ t) : share t ≤ share s := by
  have e1 : share t = 1099511627775 / t + 1 := by
    rw [share_ceil (by omega), show (1099511627776 + t - 1 : Int) = 1099511627775 + 1 * t by omega, Int.add_mul_ediv_right _ _ (by omega)]
  have e2 : share s = 1099511627775 / s + 1 := by
    rw [share_ceil (by omega), show (1099511627776 + s - 1 : Int) = 1099511627775 + 1 * s by omega, Int.add_mul_ediv_right _ _ (by omega)]
  have := div_anti (M := 1099511627775) (by decide) h hst
  omega
theorem loads_mono {x y : Int} (h0 : 0 ≤ x) (h : x ≤ y) (h1 : y ≤ 1048576) : share (space x) ≤ share (space y) := by
  by_cases hx : x = 0
  · have e : space x = 0 := by rw [hx]; rfl
    rw [e]
    exact (share_bd _).1
  · have rx : isRate x = true := by simp [isRate]; omega
    have ry : isRate y = true := by simp [isRate]; omega
    have e1 : space x = 65536000 / x := by simp [space, rx]
    have e2 : space y = 65536000 / y := by simp [space, ry]
    have p1 := space_pos rx
    have p2 := space_pos ry
    rw [e1, e2]
    exact share_anti (by omega) (div_anti (by decide) (by omega) h)
/-- what a second has room for admits it -/
theorem admits_only {n r : Int} (h : admits n [onlyR r] = true) : r ≤ 1000 * n ∧ 0 ≤ r ∧ 1 ≤ n ∧ n ≤ 64 := by
  rw [admits_iff] at h
  obtain ⟨⟨h1, h2⟩, _, h3, h4⟩ := h
  have hr : right r 1 0 0 = true := by simpa [Pol.ok, onlyR] using h3
  have hr2 := right_iff.1 hr
  refine ⟨?_, hr2.1, h1, h2⟩
  rw [load_only] at h4
  by_cases h0 : r = 0
  · omega
  · have rr : isRate r = true := by simp [isRate]; omega
    have e0 : space r = 65536000 / r := by simp [space, rr]
    have hs := space_pos rr
    obtain ⟨m1, m2, _⟩ := div_mul_facts (M := 65536000) (r := r) (by omega)
    obtain ⟨k1, k2, _⟩ := div_mul_facts (M := 1099511627776) (r := space r) (by omega)
    -- share (space r) * space r ≥ 2^40
    have hsh : 1099511627776 ≤ share (space r) * space r := by
      rw [← rShare_eq]
      unfold rShare
      rw [if_neg (by omega)]
      split
      · rw [Int.add_mul]; omega
      · omega
    have h5 : share (space r) * space r ≤ n * 16777216 * space r := Int.mul_le_mul_of_nonneg_right h4 (by omega)
    -- so 2^40 ≤ n * 2^24 * space, i.e. 65536 ≤ n * space; and space * r ≤ 65536000
    have h6 : 65536 ≤ n * space r := by
      have : n * 16777216 * space r = n * space r * 16777216 := by rw [Int.mul_assoc, Int.mul_comm 16777216, ← Int.mul_assoc]
      rw [this] at h5
      omega
    have h7 : 65536 * r ≤ n * space r * r := Int.mul_le_mul_of_nonneg_right h6 (by omega)
    have h8 : n * space r * r = n * (space r * r) := Int.mul_assoc _ _ _
    have h9 : n * (space r * r) ≤ n * 65536000 := Int.mul_le_mul_of_nonneg_left (by rw [e0]; exact m1) (by omega)
    omega
theorem admits_less {n x y : Int} (h0 : 0 ≤ x) (h : x ≤ y) (ha : admits n [onlyR y] = true) : admits n [onlyR x] = true := by
  rw [admits_iff] at ha ⊢
  obtain ⟨h1, h2, h3, h4⟩ := ha
  have hr : right y 1 0 0 = true := by simpa [Pol.ok, onlyR] using h3
  have hr2 := right_iff.1 hr
  refine ⟨h1, by simp, ?_, ?_⟩
  · have : right x 1 0 0 = true := right_iff.2 (by omega)
    simpa [Pol.ok, onlyR] using this
  · rw [load_only] at h4 ⊢
    have := loads_mono h0 h (by omega)
    omega
set_option maxHeartbeats 1000000 in
/-- THE WALK of PolicyLoads: whatever comes in, it answers true, and nothing that was there turns. -/
theorem policyLoads_walk {H : Type} {enc : TypeId × Value → H} (W : World) (base : Nat) (v0 v1 v2 : Value) (d0 d1 d2 : DataW H) (p0 p1 p2 : List MemPlace)
    (ok0 : Value.okWide Try.prog W .any base 27 v0) (h0 : DataW.Trod enc Try.prog W 0 (fun _ => true) true 27 v0 d0 p0)
    (ok1 : Value.okWide Try.prog W .any base 27 v1) (h1 : DataW.Trod enc Try.prog W 0 (fun _ => true) true 27 v1 d1 p1)
    (ok2 : Value.okWide Try.prog W .any base 5 v2) (h2 : DataW.Trod enc Try.prog W 0 (fun _ => true) true 5 v2 d2 p2) :
    Calls Try.prog 9 #[v0, v1, v2] W fun e w' => e = .returned (.bool true) ∧ Below W.heap.size W w' := by
  obtain ⟨a, rfl, rfl, rfl, wa⟩ := open_int Try.underlying27 ok0 h0
  obtain ⟨b, rfl, rfl, rfl, wb⟩ := open_int Try.underlying27 ok1 h1
  obtain ⟨n, rfl, rfl, rfl, wn⟩ := open_int Try.underlying5 ok2 h2
  obtain ⟨a0, a1⟩ := bounds_u32 wa
  obtain ⟨b0, b1⟩ := bounds_u32 wb
  obtain ⟨n0, n1⟩ := bounds_u8 wn
  clear ok0 h0 wa ok1 h1 wb ok2 h2 wn
  by_cases hab : a % 1048577 < b % 1048577
  · have pq := loads_mono (x := a % 1048577) (y := b % 1048577) (by omega) (by omega) (by omega)
    have la := hide (load_only (a % 1048577))
    have lb := hide (load_only (b % 1048577))
    have sx := share_bd (space (a % 1048577))
    have sy := share_bd (space (b % 1048577))
    have pq' : load [onlyR (a % 1048577)] ≤ load [onlyR (b % 1048577)] := Int.le_trans (Int.le_of_eq la.out) (Int.le_trans pq (Int.le_of_eq lb.out.symm))
    have pos : 0 ≤ load [onlyR (a % 1048577)] := by rw [la.out]; exact sx.1
    have adl := admits_less (n := 1 + n % 64) (x := a % 1048577) (y := b % 1048577) (by omega) (by omega)
    have ado := fun h => (admits_only (n := 1 + n % 64) (r := b % 1048577) h).1
    have r0 : ∀ w', Inv W [(W.heap.size, 33, #[.int .i64 (a % 1048577), .int .i64 1, .int .i64 0, .int .i64 0]), (W.heap.size + 1, 33, #[.int .i64 (b % 1048577), .int .i64 1, .int .i64 0, .int .i64 0])] w' → w'.cell? ⟨W.heap.size, 0, none⟩ = some (.int .i64 (a % 1048577)) := fun w' h => h.cell (List.Mem.head _) 0
    have r1 : ∀ w', Inv W [(W.heap.size, 33, #[.int .i64 (a % 1048577), .int .i64 1, .int .i64 0, .int .i64 0]), (W.heap.size + 1, 33, #[.int .i64 (b % 1048577), .int .i64 1, .int .i64 0, .int .i64 0])] w' → w'.cell? ⟨W.heap.size, 1, none⟩ = some (.int .i64 1) := fun w' h => h.cell (List.Mem.head _) 1
    have r2 : ∀ w', Inv W [(W.heap.size, 33, #[.int .i64 (a % 1048577), .int .i64 1, .int .i64 0, .int .i64 0]), (W.heap.size + 1, 33, #[.int .i64 (b % 1048577), .int .i64 1, .int .i64 0, .int .i64 0])] w' → w'.cell? ⟨W.heap.size, 2, none⟩ = some (.int .i64 0) := fun w' h => h.cell (List.Mem.head _) 2
    have r3 : ∀ w', Inv W [(W.heap.size, 33, #[.int .i64 (a % 1048577), .int .i64 1, .int .i64 0, .int .i64 0]), (W.heap.size + 1, 33, #[.int .i64 (b % 1048577), .int .i64 1, .int .i64 0, .int .i64 0])] w' → w'.cell? ⟨W.heap.size, 3, none⟩ = some (.int .i64 0) := fun w' h => h.cell (List.Mem.head _) 3
    have q0 : ∀ w', Inv W [(W.heap.size, 33, #[.int .i64 (a % 1048577), .int .i64 1, .int .i64 0, .int .i64 0]), (W.heap.size + 1, 33, #[.int .i64 (b % 1048577), .int .i64 1, .int .i64 0, .int .i64 0])] w' → w'.cell? ⟨W.heap.size + 1, 0, none⟩ = some (.int .i64 (b % 1048577)) := fun w' h => h.cell (List.Mem.tail _ (List.Mem.head _)) 0
    have q1 : ∀ w', Inv W [(W.heap.size, 33, #[.int .i64 (a % 1048577), .int .i64 1, .int .i64 0, .int .i64 0]), (W.heap.size + 1, 33, #[.int .i64 (b % 1048577), .int .i64 1, .int .i64 0, .int .i64 0])] w' → w'.cell? ⟨W.heap.size + 1, 1, none⟩ = some (.int .i64 1) := fun w' h => h.cell (List.Mem.tail _ (List.Mem.head _)) 1
    have q2 : ∀ w', Inv W [(W.heap.size, 33, #[.int .i64 (a % 1048577), .int .i64 1, .int .i64 0, .int .i64 0]), (W.heap.size + 1, 33, #[.int .i64 (b % 1048577), .int .i64 1, .int .i64 0, .int .i64 0])] w' → w'.cell? ⟨W.heap.size + 1, 2, none⟩ = some (.int .i64 0) := fun w' h => h.cell (List.Mem.tail _ (List.Mem.head _)) 2
    have q3 : ∀ w', Inv W [(W.heap.size, 33, #[.int .i64 (a % 1048577), .int .i64 1, .int .i64 0, .int .i64 0]), (W.heap.size + 1, 33, #[.int .i64 (b % 1048577), .int .i64 1, .int .i64 0, .int .i64 0])] w' → w'.cell? ⟨W.heap.size + 1, 3, none⟩ = some (.int .i64 0) := fun w' h => h.cell (List.Mem.tail _ (List.Mem.head _)) 3
    have hI : Inv W [(W.heap.size, 33, #[.int .i64 (a % 1048577), .int .i64 1, .int .i64 0, .int .i64 0]), (W.heap.size + 1, 33, #[.int .i64 (b % 1048577), .int .i64 1, .int .i64 0, .int .i64 0])] ((W.alloc (.cells #[.int .i64 (a % 1048577), .int .i64 1, .int .i64 0, .int .i64 0] 33)).alloc (.cells #[.int .i64 (b % 1048577), .int .i64 1, .int .i64 0, .int .i64 0] 33)) :=
      (((Inv.refl W).new rfl).new (b := W.heap.size + 1) (by simp)).sub (fun p hp => by simp only [List.mem_cons, List.mem_nil_iff, or_false] at hp ⊢; exact hp.symm)
    clear pq sx sy
    go_enter Try.func9, Try.ntmps9
    go_wp2
    refine region_lex (fun w' => Inv W [(W.heap.size, 33, #[.int .i64 (a % 1048577), .int .i64 1, .int .i64 0, .int .i64 0]), (W.heap.size + 1, 33, #[.int .i64 (b % 1048577), .int .i64 1, .int .i64 0, .int .i64 0])] w') 6 [(false, 0), (false, 3)] #[true, false, false, true, false, false, false, false] (by kernel_rfl) (by kernel_rfl) (by decide) (by kernel_rfl) (by kernel_rfl) (fun _ _ _ _ _ h => h) (by first | assumption | exact hI.drew | exact (by assumption : Inv W _ _).alloc _ | exact ((by assumption : Inv W _ _).alloc _).below hb1 | exact (by assumption : Inv W _ _).below hb1) (fun hS0 => ?_)
    simp only [List.map_cons, List.map_nil, List.getElem?_toArray, List.getElem?_cons_succ, List.getElem?_cons_zero]
    (apply lex_take (by rfl); (focus (intro w hw; (try dsimp only at hw); go_simp; (try with_reducible rfl); done)); simp only [Act.put, List.setIfInBounds_toArray, List.set_cons_zero, List.set_cons_succ])
    (apply lex_take (by rfl); (focus (intro w hw; (try dsimp only at hw); go_simp; (try with_reducible rfl); done)); simp only [Act.put, List.setIfInBounds_toArray, List.set_cons_zero, List.set_cons_succ])
    refine lex_nil (fun hS2 => ?_)
    refine lex_fork2 (i := 1) (j := 4) (by kernel_rfl) (by kernel_rfl : _ = #[true, true, false, true, false, false, false, false]) (by kernel_rfl : _ = #[true, false, false, true, true, false, false, false]) ?_ ?_
    focus
      apply lex_act (by simp only [List.getElem?_toArray, List.getElem?_cons_succ, List.getElem?_cons_zero]; rfl) (by rfl)
      go_simp
      (first | (go_at_call 30; (first | (refine (load_calls [onlyR (a % 1048577)] _ _ _ ?_ (by simp)).mono ?_; focus (first | (refine (Reads.new ?_ ?_ rfl).drew <;> (simp; done)) | (refine ((((Reads.new (b := W.heap.size + 1 + 1) (B := W.heap.size + 1 + 1 + 1) ?_ ?_ rfl).alloc ?_ _).drew).more ?_) <;> (simp; done)) | (refine (((Reads.new ?_ ?_ rfl).drew).below hb1).more hb1.size <;> (simp; done)) | (refine (((((Reads.new (b := W.heap.size + 1 + 1) (B := W.heap.size + 1 + 1 + 1) ?_ ?_ rfl).alloc ?_ _).drew).more ?_).below hb1).more hb1.size <;> (simp; done)) | (refine Reads.new rfl ?_ rfl <;> (simp; done)))) | (refine (load_calls [onlyR (b % 1048577)] _ _ _ ?_ (by simp)).mono ?_; focus (first | (refine (Reads.new ?_ ?_ rfl).drew <;> (simp; done)) | (refine ((((Reads.new (b := W.heap.size + 1 + 1) (B := W.heap.size + 1 + 1 + 1) ?_ ?_ rfl).alloc ?_ _).drew).more ?_) <;> (simp; done)) | (refine (((Reads.new ?_ ?_ rfl).drew).below hb1).more hb1.size <;> (simp; done)) | (refine (((((Reads.new (b := W.heap.size + 1 + 1) (B := W.heap.size + 1 + 1 + 1) ?_ ?_ rfl).alloc ?_ _).drew).more ?_).below hb1).more hb1.size <;> (simp; done)) | (refine Reads.new rfl ?_ rfl <;> (simp; done))))); rintro e w1 ⟨rfl, hb1⟩) | skip)
      refine lex_both (by (first | assumption | exact hI.drew | exact (by assumption : Inv W _ _).alloc _ | exact ((by assumption : Inv W _ _).alloc _).below hb1 | exact (by assumption : Inv W _ _).below hb1)) (fun hS1 => ?_)
      refine lex_more 5 [] #[true, true, false, true, false, false, false, false] (by kernel_rfl) (by decide) (by kernel_rfl) (by kernel_rfl) (fun _ _ _ _ _ h => h) (by assumption) ?_
      simp only [List.map_nil]
      refine lex_nil (fun hS2 => ?_)
      refine lex_fork2 (i := 2) (j := 4) (by kernel_rfl) (by kernel_rfl : _ = #[true, true, true, true, false, false, false, false]) (by kernel_rfl : _ = #[true, true, false, true, true, false, false, false]) ?_ ?_
      focus
        apply lex_act (by simp only [List.getElem?_toArray, List.getElem?_cons_succ, List.getElem?_cons_zero]; rfl) (by rfl)
        go_simp
        (first | (go_at_call 30; (first | (refine (load_calls [onlyR (a % 1048577)] _ _ _ ?_ (by simp)).mono ?_; focus (first | (refine (Reads.new ?_ ?_ rfl).drew <;> (simp; done)) | (refine ((((Reads.new (b := W.heap.size + 1 + 1) (B := W.heap.size + 1 + 1 + 1) ?_ ?_ rfl).alloc ?_ _).drew).more ?_) <;> (simp; done)) | (refine (((Reads.new ?_ ?_ rfl).drew).below hb1).more hb1.size <;> (simp; done)) | (refine (((((Reads.new (b := W.heap.size + 1 + 1) (B := W.heap.size + 1 + 1 + 1) ?_ ?_ rfl).alloc ?_ _).drew).more ?_).below hb1).more hb1.size <;> (simp; done)) | (refine Reads.new rfl ?_ rfl <;> (simp; done)))) | (refine (load_calls [onlyR (b % 1048577)] _ _ _ ?_ (by simp)).mono ?_; focus (first | (refine (Reads.new ?_ ?_ rfl).drew <;> (simp; done)) | (refine ((((Reads.new (b := W.heap.size + 1 + 1) (B := W.heap.size + 1 + 1 + 1) ?_ ?_ rfl).alloc ?_ _).drew).more ?_) <;> (simp; done)) | (refine (((Reads.new ?_ ?_ rfl).drew).below hb1).more hb1.size <;> (simp; done)) | (refine (((((Reads.new (b := W.heap.size + 1 + 1) (B := W.heap.size + 1 + 1 + 1) ?_ ?_ rfl).alloc ?_ _).drew).more ?_).below hb1).more hb1.size <;> (simp; done)) | (refine Reads.new rfl ?_ rfl <;> (simp; done))))); rintro e w1 ⟨rfl, hb1⟩) | skip)
        refine lex_both (by (first | assumption | exact hI.drew | exact (by assumption : Inv W _ _).alloc _ | exact ((by assumption : Inv W _ _).alloc _).below hb1 | exact (by assumption : Inv W _ _).below hb1)) (fun hS1 => ?_)
        refine lex_more 0 [(true, 4), (true, 5), (false, 6), (false, 7)] #[true, true, true, true, true, true, true, true] (by kernel_rfl) (by decide) (by kernel_rfl) (by kernel_rfl) (fun _ _ _ _ _ h => h) (by assumption) ?_
        simp only [List.map_cons, List.map_nil, List.getElem?_toArray, List.getElem?_cons_succ, List.getElem?_cons_zero]
        (refine lex_eff (by rfl) ?_; go_simp; (first | (go_at_call 30; (first | (refine (load_calls [onlyR (a % 1048577)] _ _ _ ?_ (by simp)).mono ?_; focus (first | (refine (Reads.new ?_ ?_ rfl).drew <;> (simp; done)) | (refine ((((Reads.new (b := W.heap.size + 1 + 1) (B := W.heap.size + 1 + 1 + 1) ?_ ?_ rfl).alloc ?_ _).drew).more ?_) <;> (simp; done)) | (refine (((Reads.new ?_ ?_ rfl).drew).below hb1).more hb1.size <;> (simp; done)) | (refine (((((Reads.new (b := W.heap.size + 1 + 1) (B := W.heap.size + 1 + 1 + 1) ?_ ?_ rfl).alloc ?_ _).drew).more ?_).below hb1).more hb1.size <;> (simp; done)) | (refine Reads.new rfl ?_ rfl <;> (simp; done)))) | (refine (load_calls [onlyR (b % 1048577)] _ _ _ ?_ (by simp)).mono ?_; focus (first | (refine (Reads.new ?_ ?_ rfl).drew <;> (simp; done)) | (refine ((((Reads.new (b := W.heap.size + 1 + 1) (B := W.heap.size + 1 + 1 + 1) ?_ ?_ rfl).alloc ?_ _).drew).more ?_) <;> (simp; done)) | (refine (((Reads.new ?_ ?_ rfl).drew).below hb1).more hb1.size <;> (simp; done)) | (refine (((((Reads.new (b := W.heap.size + 1 + 1) (B := W.heap.size + 1 + 1 + 1) ?_ ?_ rfl).alloc ?_ _).drew).more ?_).below hb1).more hb1.size <;> (simp; done)) | (refine Reads.new rfl ?_ rfl <;> (simp; done))))); rintro e w1 ⟨rfl, hb1⟩) | skip); refine lex_both (by (first | assumption | exact hI.drew | exact (by assumption : Inv W _ _).alloc _ | exact ((by assumption : Inv W _ _).alloc _).below hb1 | exact (by assumption : Inv W _ _).below hb1)) (fun hS1 => ?_))
        (refine lex_eff (by rfl) ?_; go_simp; (first | (go_at_call 30; (first | (refine (load_calls [onlyR (a % 1048577)] _ _ _ ?_ (by simp)).mono ?_; focus (first | (refine (Reads.new ?_ ?_ rfl).drew <;> (simp; done)) | (refine ((((Reads.new (b := W.heap.size + 1 + 1) (B := W.heap.size + 1 + 1 + 1) ?_ ?_ rfl).alloc ?_ _).drew).more ?_) <;> (simp; done)) | (refine (((Reads.new ?_ ?_ rfl).drew).below hb1).more hb1.size <;> (simp; done)) | (refine (((((Reads.new (b := W.heap.size + 1 + 1) (B := W.heap.size + 1 + 1 + 1) ?_ ?_ rfl).alloc ?_ _).drew).more ?_).below hb1).more hb1.size <;> (simp; done)) | (refine Reads.new rfl ?_ rfl <;> (simp; done)))) | (refine (load_calls [onlyR (b % 1048577)] _ _ _ ?_ (by simp)).mono ?_; focus (first | (refine (Reads.new ?_ ?_ rfl).drew <;> (simp; done)) | (refine ((((Reads.new (b := W.heap.size + 1 + 1) (B := W.heap.size + 1 + 1 + 1) ?_ ?_ rfl).alloc ?_ _).drew).more ?_) <;> (simp; done)) | (refine (((Reads.new ?_ ?_ rfl).drew).below hb1).more hb1.size <;> (simp; done)) | (refine (((((Reads.new (b := W.heap.size + 1 + 1) (B := W.heap.size + 1 + 1 + 1) ?_ ?_ rfl).alloc ?_ _).drew).more ?_).below hb1).more hb1.size <;> (simp; done)) | (refine Reads.new rfl ?_ rfl <;> (simp; done))))); rintro e w1 ⟨rfl, hb1⟩) | skip); refine lex_both (by (first | assumption | exact hI.drew | exact (by assumption : Inv W _ _).alloc _ | exact ((by assumption : Inv W _ _).alloc _).below hb1 | exact (by assumption : Inv W _ _).below hb1)) (fun hS1 => ?_))
        (apply lex_take (by rfl); (focus (intro w hw; (try dsimp only at hw); go_simp; (try with_reducible rfl); done)); simp only [Act.put, List.setIfInBounds_toArray, List.set_cons_zero, List.set_cons_succ])
        (apply lex_take (by rfl); (focus (intro w hw; (try dsimp only at hw); go_simp; (try with_reducible rfl); done)); simp only [Act.put, List.setIfInBounds_toArray, List.set_cons_zero, List.set_cons_succ])
        refine lex_nil (fun _ => wpAnyH_done (by kernel_rfl) ?_ _)
      rotate_left
      focus
        apply lex_act (by simp only [List.getElem?_toArray, List.getElem?_cons_succ, List.getElem?_cons_zero]; rfl) (by rfl)
        go_simp
        (first | (go_at_call 30; (first | (refine (load_calls [onlyR (a % 1048577)] _ _ _ ?_ (by simp)).mono ?_; focus (first | (refine (Reads.new ?_ ?_ rfl).drew <;> (simp; done)) | (refine ((((Reads.new (b := W.heap.size + 1 + 1) (B := W.heap.size + 1 + 1 + 1) ?_ ?_ rfl).alloc ?_ _).drew).more ?_) <;> (simp; done)) | (refine (((Reads.new ?_ ?_ rfl).drew).below hb1).more hb1.size <;> (simp; done)) | (refine (((((Reads.new (b := W.heap.size + 1 + 1) (B := W.heap.size + 1 + 1 + 1) ?_ ?_ rfl).alloc ?_ _).drew).more ?_).below hb1).more hb1.size <;> (simp; done)) | (refine Reads.new rfl ?_ rfl <;> (simp; done)))) | (refine (load_calls [onlyR (b % 1048577)] _ _ _ ?_ (by simp)).mono ?_; focus (first | (refine (Reads.new ?_ ?_ rfl).drew <;> (simp; done)) | (refine ((((Reads.new (b := W.heap.size + 1 + 1) (B := W.heap.size + 1 + 1 + 1) ?_ ?_ rfl).alloc ?_ _).drew).more ?_) <;> (simp; done)) | (refine (((Reads.new ?_ ?_ rfl).drew).below hb1).more hb1.size <;> (simp; done)) | (refine (((((Reads.new (b := W.heap.size + 1 + 1) (B := W.heap.size + 1 + 1 + 1) ?_ ?_ rfl).alloc ?_ _).drew).more ?_).below hb1).more hb1.size <;> (simp; done)) | (refine Reads.new rfl ?_ rfl <;> (simp; done))))); rintro e w1 ⟨rfl, hb1⟩) | skip)
        refine lex_both (by (first | assumption | exact hI.drew | exact (by assumption : Inv W _ _).alloc _ | exact ((by assumption : Inv W _ _).alloc _).below hb1 | exact (by assumption : Inv W _ _).below hb1)) (fun hS1 => ?_)
        refine lex_more 0 [(true, 2), (true, 5), (false, 6), (false, 7)] #[true, true, true, true, true, true, true, true] (by kernel_rfl) (by decide) (by kernel_rfl) (by kernel_rfl) (fun _ _ _ _ _ h => h) (by assumption) ?_
        simp only [List.map_cons, List.map_nil, List.getElem?_toArray, List.getElem?_cons_succ, List.getElem?_cons_zero]
        (refine lex_eff (by rfl) ?_; go_simp; (first | (go_at_call 30; (first | (refine (load_calls [onlyR (a % 1048577)] _ _ _ ?_ (by simp)).mono ?_; focus (first | (refine (Reads.new ?_ ?_ rfl).drew <;> (simp; done)) | (refine ((((Reads.new (b := W.heap.size + 1 + 1) (B := W.heap.size + 1 + 1 + 1) ?_ ?_ rfl).alloc ?_ _).drew).more ?_) <;> (simp; done)) | (refine (((Reads.new ?_ ?_ rfl).drew).below hb1).more hb1.size <;> (simp; done)) | (refine (((((Reads.new (b := W.heap.size + 1 + 1) (B := W.heap.size + 1 + 1 + 1) ?_ ?_ rfl).alloc ?_ _).drew).more ?_).below hb1).more hb1.size <;> (simp; done)) | (refine Reads.new rfl ?_ rfl <;> (simp; done)))) | (refine (load_calls [onlyR (b % 1048577)] _ _ _ ?_ (by simp)).mono ?_; focus (first | (refine (Reads.new ?_ ?_ rfl).drew <;> (simp; done)) | (refine ((((Reads.new (b := W.heap.size + 1 + 1) (B := W.heap.size + 1 + 1 + 1) ?_ ?_ rfl).alloc ?_ _).drew).more ?_) <;> (simp; done)) | (refine (((Reads.new ?_ ?_ rfl).drew).below hb1).more hb1.size <;> (simp; done)) | (refine (((((Reads.new (b := W.heap.size + 1 + 1) (B := W.heap.size + 1 + 1 + 1) ?_ ?_ rfl).alloc ?_ _).drew).more ?_).below hb1).more hb1.size <;> (simp; done)) | (refine Reads.new rfl ?_ rfl <;> (simp; done))))); rintro e w1 ⟨rfl, hb1⟩) | skip); refine lex_both (by (first | assumption | exact hI.drew | exact (by assumption : Inv W _ _).alloc _ | exact ((by assumption : Inv W _ _).alloc _).below hb1 | exact (by assumption : Inv W _ _).below hb1)) (fun hS1 => ?_))
        (refine lex_eff (by rfl) ?_; go_simp; (first | (go_at_call 30; (first | (refine (load_calls [onlyR (a % 1048577)] _ _ _ ?_ (by simp)).mono ?_; focus (first | (refine (Reads.new ?_ ?_ rfl).drew <;> (simp; done)) | (refine ((((Reads.new (b := W.heap.size + 1 + 1) (B := W.heap.size + 1 + 1 + 1) ?_ ?_ rfl).alloc ?_ _).drew).more ?_) <;> (simp; done)) | (refine (((Reads.new ?_ ?_ rfl).drew).below hb1).more hb1.size <;> (simp; done)) | (refine (((((Reads.new (b := W.heap.size + 1 + 1) (B := W.heap.size + 1 + 1 + 1) ?_ ?_ rfl).alloc ?_ _).drew).more ?_).below hb1).more hb1.size <;> (simp; done)) | (refine Reads.new rfl ?_ rfl <;> (simp; done)))) | (refine (load_calls [onlyR (b % 1048577)] _ _ _ ?_ (by simp)).mono ?_; focus (first | (refine (Reads.new ?_ ?_ rfl).drew <;> (simp; done)) | (refine ((((Reads.new (b := W.heap.size + 1 + 1) (B := W.heap.size + 1 + 1 + 1) ?_ ?_ rfl).alloc ?_ _).drew).more ?_) <;> (simp; done)) | (refine (((Reads.new ?_ ?_ rfl).drew).below hb1).more hb1.size <;> (simp; done)) | (refine (((((Reads.new (b := W.heap.size + 1 + 1) (B := W.heap.size + 1 + 1 + 1) ?_ ?_ rfl).alloc ?_ _).drew).more ?_).below hb1).more hb1.size <;> (simp; done)) | (refine Reads.new rfl ?_ rfl <;> (simp; done))))); rintro e w1 ⟨rfl, hb1⟩) | skip); refine lex_both (by (first | assumption | exact hI.drew | exact (by assumption : Inv W _ _).alloc _ | exact ((by assumption : Inv W _ _).alloc _).below hb1 | exact (by assumption : Inv W _ _).below hb1)) (fun hS1 => ?_))
        (apply lex_take (by rfl); (focus (intro w hw; (try dsimp only at hw); go_simp; (try with_reducible rfl); done)); simp only [Act.put, List.setIfInBounds_toArray, List.set_cons_zero, List.set_cons_succ])
        (apply lex_take (by rfl); (focus (intro w hw; (try dsimp only at hw); go_simp; (try with_reducible rfl); done)); simp only [Act.put, List.setIfInBounds_toArray, List.set_cons_zero, List.set_cons_succ])
        refine lex_nil (fun _ => wpAnyH_done (by kernel_rfl) ?_ _)
      rotate_left
    rotate_left 2
    focus
      apply lex_act (by simp only [List.getElem?_toArray, List.getElem?_cons_succ, List.getElem?_cons_zero]; rfl) (by rfl)
      go_simp
      (first | (go_at_call 30; (first | (refine (load_calls [onlyR (a % 1048577)] _ _ _ ?_ (by simp)).mono ?_; focus (first | (refine (Reads.new ?_ ?_ rfl).drew <;> (simp; done)) | (refine ((((Reads.new (b := W.heap.size + 1 + 1) (B := W.heap.size + 1 + 1 + 1) ?_ ?_ rfl).alloc ?_ _).drew).more ?_) <;> (simp; done)) | (refine (((Reads.new ?_ ?_ rfl).drew).below hb1).more hb1.size <;> (simp; done)) | (refine (((((Reads.new (b := W.heap.size + 1 + 1) (B := W.heap.size + 1 + 1 + 1) ?_ ?_ rfl).alloc ?_ _).drew).more ?_).below hb1).more hb1.size <;> (simp; done)) | (refine Reads.new rfl ?_ rfl <;> (simp; done)))) | (refine (load_calls [onlyR (b % 1048577)] _ _ _ ?_ (by simp)).mono ?_; focus (first | (refine (Reads.new ?_ ?_ rfl).drew <;> (simp; done)) | (refine ((((Reads.new (b := W.heap.size + 1 + 1) (B := W.heap.size + 1 + 1 + 1) ?_ ?_ rfl).alloc ?_ _).drew).more ?_) <;> (simp; done)) | (refine (((Reads.new ?_ ?_ rfl).drew).below hb1).more hb1.size <;> (simp; done)) | (refine (((((Reads.new (b := W.heap.size + 1 + 1) (B := W.heap.size + 1 + 1 + 1) ?_ ?_ rfl).alloc ?_ _).drew).more ?_).below hb1).more hb1.size <;> (simp; done)) | (refine Reads.new rfl ?_ rfl <;> (simp; done))))); rintro e w1 ⟨rfl, hb1⟩) | skip)
      refine lex_both (by (first | assumption | exact hI.drew | exact (by assumption : Inv W _ _).alloc _ | exact ((by assumption : Inv W _ _).alloc _).below hb1 | exact (by assumption : Inv W _ _).below hb1)) (fun hS1 => ?_)
      refine lex_more 0 [(true, 1), (true, 2), (true, 5), (false, 6), (false, 7)] #[true, true, true, true, true, true, true, true] (by kernel_rfl) (by decide) (by kernel_rfl) (by kernel_rfl) (fun _ _ _ _ _ h => h) (by assumption) ?_
      simp only [List.map_cons, List.map_nil, List.getElem?_toArray, List.getElem?_cons_succ, List.getElem?_cons_zero]
      (refine lex_eff (by rfl) ?_; go_simp; (first | (go_at_call 30; (first | (refine (load_calls [onlyR (a % 1048577)] _ _ _ ?_ (by simp)).mono ?_; focus (first | (refine (Reads.new ?_ ?_ rfl).drew <;> (simp; done)) | (refine ((((Reads.new (b := W.heap.size + 1 + 1) (B := W.heap.size + 1 + 1 + 1) ?_ ?_ rfl).alloc ?_ _).drew).more ?_) <;> (simp; done)) | (refine (((Reads.new ?_ ?_ rfl).drew).below hb1).more hb1.size <;> (simp; done)) | (refine (((((Reads.new (b := W.heap.size + 1 + 1) (B := W.heap.size + 1 + 1 + 1) ?_ ?_ rfl).alloc ?_ _).drew).more ?_).below hb1).more hb1.size <;> (simp; done)) | (refine Reads.new rfl ?_ rfl <;> (simp; done)))) | (refine (load_calls [onlyR (b % 1048577)] _ _ _ ?_ (by simp)).mono ?_; focus (first | (refine (Reads.new ?_ ?_ rfl).drew <;> (simp; done)) | (refine ((((Reads.new (b := W.heap.size + 1 + 1) (B := W.heap.size + 1 + 1 + 1) ?_ ?_ rfl).alloc ?_ _).drew).more ?_) <;> (simp; done)) | (refine (((Reads.new ?_ ?_ rfl).drew).below hb1).more hb1.size <;> (simp; done)) | (refine (((((Reads.new (b := W.heap.size + 1 + 1) (B := W.heap.size + 1 + 1 + 1) ?_ ?_ rfl).alloc ?_ _).drew).more ?_).below hb1).more hb1.size <;> (simp; done)) | (refine Reads.new rfl ?_ rfl <;> (simp; done))))); rintro e w1 ⟨rfl, hb1⟩) | skip); refine lex_both (by (first | assumption | exact hI.drew | exact (by assumption : Inv W _ _).alloc _ | exact ((by assumption : Inv W _ _).alloc _).below hb1 | exact (by assumption : Inv W _ _).below hb1)) (fun hS1 => ?_))
      (refine lex_eff (by rfl) ?_; go_simp; (first | (go_at_call 30; (first | (refine (load_calls [onlyR (a % 1048577)] _ _ _ ?_ (by simp)).mono ?_; focus (first | (refine (Reads.new ?_ ?_ rfl).drew <;> (simp; done)) | (refine ((((Reads.new (b := W.heap.size + 1 + 1) (B := W.heap.size + 1 + 1 + 1) ?_ ?_ rfl).alloc ?_ _).drew).more ?_) <;> (simp; done)) | (refine (((Reads.new ?_ ?_ rfl).drew).below hb1).more hb1.size <;> (simp; done)) | (refine (((((Reads.new (b := W.heap.size + 1 + 1) (B := W.heap.size + 1 + 1 + 1) ?_ ?_ rfl).alloc ?_ _).drew).more ?_).below hb1).more hb1.size <;> (simp; done)) | (refine Reads.new rfl ?_ rfl <;> (simp; done)))) | (refine (load_calls [onlyR (b % 1048577)] _ _ _ ?_ (by simp)).mono ?_; focus (first | (refine (Reads.new ?_ ?_ rfl).drew <;> (simp; done)) | (refine ((((Reads.new (b := W.heap.size + 1 + 1) (B := W.heap.size + 1 + 1 + 1) ?_ ?_ rfl).alloc ?_ _).drew).more ?_) <;> (simp; done)) | (refine (((Reads.new ?_ ?_ rfl).drew).below hb1).more hb1.size <;> (simp; done)) | (refine (((((Reads.new (b := W.heap.size + 1 + 1) (B := W.heap.size + 1 + 1 + 1) ?_ ?_ rfl).alloc ?_ _).drew).more ?_).below hb1).more hb1.size <;> (simp; done)) | (refine Reads.new rfl ?_ rfl <;> (simp; done))))); rintro e w1 ⟨rfl, hb1⟩) | skip); refine lex_both (by (first | assumption | exact hI.drew | exact (by assumption : Inv W _ _).alloc _ | exact ((by assumption : Inv W _ _).alloc _).below hb1 | exact (by assumption : Inv W _ _).below hb1)) (fun hS1 => ?_))
      (refine lex_eff (by rfl) ?_; go_simp; (first | (go_at_call 30; (first | (refine (load_calls [onlyR (a % 1048577)] _ _ _ ?_ (by simp)).mono ?_; focus (first | (refine (Reads.new ?_ ?_ rfl).drew <;> (simp; done)) | (refine ((((Reads.new (b := W.heap.size + 1 + 1) (B := W.heap.size + 1 + 1 + 1) ?_ ?_ rfl).alloc ?_ _).drew).more ?_) <;> (simp; done)) | (refine (((Reads.new ?_ ?_ rfl).drew).below hb1).more hb1.size <;> (simp; done)) | (refine (((((Reads.new (b := W.heap.size + 1 + 1) (B := W.heap.size + 1 + 1 + 1) ?_ ?_ rfl).alloc ?_ _).drew).more ?_).below hb1).more hb1.size <;> (simp; done)) | (refine Reads.new rfl ?_ rfl <;> (simp; done)))) | (refine (load_calls [onlyR (b % 1048577)] _ _ _ ?_ (by simp)).mono ?_; focus (first | (refine (Reads.new ?_ ?_ rfl).drew <;> (simp; done)) | (refine ((((Reads.new (b := W.heap.size + 1 + 1) (B := W.heap.size + 1 + 1 + 1) ?_ ?_ rfl).alloc ?_ _).drew).more ?_) <;> (simp; done)) | (refine (((Reads.new ?_ ?_ rfl).drew).below hb1).more hb1.size <;> (simp; done)) | (refine (((((Reads.new (b := W.heap.size + 1 + 1) (B := W.heap.size + 1 + 1 + 1) ?_ ?_ rfl).alloc ?_ _).drew).more ?_).below hb1).more hb1.size <;> (simp; done)) | (refine Reads.new rfl ?_ rfl <;> (simp; done))))); rintro e w1 ⟨rfl, hb1⟩) | skip); refine lex_both (by (first | assumption | exact hI.drew | exact (by assumption : Inv W _ _).alloc _ | exact ((by assumption : Inv W _ _).alloc _).below hb1 | exact (by assumption : Inv W _ _).below hb1)) (fun hS1 => ?_))
      (apply lex_take (by rfl); (focus (intro w hw; (try dsimp only at hw); go_simp; (try with_reducible rfl); done)); simp only [Act.put, List.setIfInBounds_toArray, List.set_cons_zero, List.set_cons_succ])
      (apply lex_take (by rfl); (focus (intro w hw; (try dsimp only at hw); go_simp; (try with_reducible rfl); done)); simp only [Act.put, List.setIfInBounds_toArray, List.set_cons_zero, List.set_cons_succ])
      refine lex_nil (fun _ => wpAnyH_done (by kernel_rfl) ?_ _)
    rotate_left
    all_goals
      have I1 : Inv W [(W.heap.size, 33, #[.int .i64 (a % 1048577), .int .i64 1, .int .i64 0, .int .i64 0]), (W.heap.size + 1, 33, #[.int .i64 (b % 1048577), .int .i64 1, .int .i64 0, .int .i64 0])] w1 := by assumption
      have ew1 : ∃ w : World, w = w1 := ⟨_, rfl⟩
      clear ew1
      go_wp2_with fail
      refine (load_calls [] _ _ _ Reads.none_ (by simp)).mono ?_
      rintro e w2 ⟨rfl, hb2⟩
      have I2 := I1.below hb2
      have l0 : (load [] != 0) = false := by decide
      have pqn : decide (load [onlyR (b % 1048577)] < load [onlyR (a % 1048577)]) = false := decide_eq_false (by omega)
      go_wp2_with fail
      refine (admits_calls _ [onlyR (b % 1048577)] _ _ _ (by exact Reads.new rfl (by simp) rfl)).mono ?_
      rintro e w3 ⟨rfl, hb3⟩
      have I3 := (I2.alloc _).below hb3
      rcases Bool.eq_false_or_eq_true (admits (1 + n % 64) [onlyR (b % 1048577)]) with had | had
      · have adx := adl had
        have adr := ado had
        clear adl ado
        go_wp2_with fail
        refine (admits_calls _ [onlyR (a % 1048577)] _ _ _ (by exact Reads.new rfl (by simp) rfl)).mono ?_
        rintro e w4 ⟨rfl, hb4⟩
        have I4 := (I3.alloc _).below hb4
        go_wp2_with fail
        refine (awake10_calls _).mono ?_
        rintro e w5 ⟨rfl, hb5⟩
        have I5 := I4.below hb5
        go_wp2
        go_ret
        exact ⟨rfl, I5.base⟩
      · go_wp2_with fail
        refine (awake10_calls _).mono ?_
        rintro e w5 ⟨rfl, hb5⟩
        have I5 := I3.below hb5
        go_wp2
        go_ret
        exact ⟨rfl, I5.base⟩
  · by_cases hba : b % 1048577 < a % 1048577
    · have pq := loads_mono (x := b % 1048577) (y := a % 1048577) (by omega) (by omega) (by omega)
      have la := hide (load_only (b % 1048577))
      have lb := hide (load_only (a % 1048577))
      have sx := share_bd (space (b % 1048577))
      have sy := share_bd (space (a % 1048577))
      have pq' : load [onlyR (b % 1048577)] ≤ load [onlyR (a % 1048577)] := Int.le_trans (Int.le_of_eq la.out) (Int.le_trans pq (Int.le_of_eq lb.out.symm))
      have pos : 0 ≤ load [onlyR (b % 1048577)] := by rw [la.out]; exact sx.1
      have adl := admits_less (n := 1 + n % 64) (x := b % 1048577) (y := a % 1048577) (by omega) (by omega)
      have ado := fun h => (admits_only (n := 1 + n % 64) (r := a % 1048577) h).1
      have r0 : ∀ w', Inv W [(W.heap.size, 33, #[.int .i64 (b % 1048577), .int .i64 1, .int .i64 0, .int .i64 0]), (W.heap.size + 1, 33, #[.int .i64 (a % 1048577), .int .i64 1, .int .i64 0, .int .i64 0])] w' → w'.cell? ⟨W.heap.size, 0, none⟩ = some (.int .i64 (b % 1048577)) := fun w' h => h.cell (List.Mem.head _) 0
      have r1 : ∀ w', Inv W [(W.heap.size, 33, #[.int .i64 (b % 1048577), .int .i64 1, .int .i64 0, .int .i64 0]), (W.heap.size + 1, 33, #[.int .i64 (a % 1048577), .int .i64 1, .int .i64 0, .int .i64 0])] w' → w'.cell? ⟨W.heap.size, 1, none⟩ = some (.int .i64 1) := fun w' h => h.cell (List.Mem.head _) 1
      have r2 : ∀ w', Inv W [(W.heap.size, 33, #[.int .i64 (b % 1048577), .int .i64 1, .int .i64 0, .int .i64 0]), (W.heap.size + 1, 33, #[.int .i64 (a % 1048577), .int .i64 1, .int .i64 0, .int .i64 0])] w' → w'.cell? ⟨W.heap.size, 2, none⟩ = some (.int .i64 0) := fun w' h => h.cell (List.Mem.head _) 2
      have r3 : ∀ w', Inv W [(W.heap.size, 33, #[.int .i64 (b % 1048577), .int .i64 1, .int .i64 0, .int .i64 0]), (W.heap.size + 1, 33, #[.int .i64 (a % 1048577), .int .i64 1, .int .i64 0, .int .i64 0])] w' → w'.cell? ⟨W.heap.size, 3, none⟩ = some (.int .i64 0) := fun w' h => h.cell (List.Mem.head _) 3
      have q0 : ∀ w', Inv W [(W.heap.size, 33, #[.int .i64 (b % 1048577), .int .i64 1, .int .i64 0, .int .i64 0]), (W.heap.size + 1, 33, #[.int .i64 (a % 1048577), .int .i64 1, .int .i64 0, .int .i64 0])] w' → w'.cell? ⟨W.heap.size + 1, 0, none⟩ = some (.int .i64 (a % 1048577)) := fun w' h => h.cell (List.Mem.tail _ (List.Mem.head _)) 0
      have q1 : ∀ w', Inv W [(W.heap.size, 33, #[.int .i64 (b % 1048577), .int .i64 1, .int .i64 0, .int .i64 0]), (W.heap.size + 1, 33, #[.int .i64 (a % 1048577), .int .i64 1, .int .i64 0, .int .i64 0])] w' → w'.cell? ⟨W.heap.size + 1, 1, none⟩ = some (.int .i64 1) := fun w' h => h.cell (List.Mem.tail _ (List.Mem.head _)) 1
      have q2 : ∀ w', Inv W [(W.heap.size, 33, #[.int .i64 (b % 1048577), .int .i64 1, .int .i64 0, .int .i64 0]), (W.heap.size + 1, 33, #[.int .i64 (a % 1048577), .int .i64 1, .int .i64 0, .int .i64 0])] w' → w'.cell? ⟨W.heap.size + 1, 2, none⟩ = some (.int .i64 0) := fun w' h => h.cell (List.Mem.tail _ (List.Mem.head _)) 2
      have q3 : ∀ w', Inv W [(W.heap.size, 33, #[.int .i64 (b % 1048577), .int .i64 1, .int .i64 0, .int .i64 0]), (W.heap.size + 1, 33, #[.int .i64 (a % 1048577), .int .i64 1, .int .i64 0, .int .i64 0])] w' → w'.cell? ⟨W.heap.size + 1, 3, none⟩ = some (.int .i64 0) := fun w' h => h.cell (List.Mem.tail _ (List.Mem.head _)) 3
      have hI : Inv W [(W.heap.size, 33, #[.int .i64 (b % 1048577), .int .i64 1, .int .i64 0, .int .i64 0]), (W.heap.size + 1, 33, #[.int .i64 (a % 1048577), .int .i64 1, .int .i64 0, .int .i64 0])] ((W.alloc (.cells #[.int .i64 (b % 1048577), .int .i64 1, .int .i64 0, .int .i64 0] 33)).alloc (.cells #[.int .i64 (a % 1048577), .int .i64 1, .int .i64 0, .int .i64 0] 33)) :=
        (((Inv.refl W).new rfl).new (b := W.heap.size + 1) (by simp)).sub (fun p hp => by simp only [List.mem_cons, List.mem_nil_iff, or_false] at hp ⊢; exact hp.symm)
      clear pq sx sy
      go_enter Try.func9, Try.ntmps9
      go_wp2
      refine region_lex (fun w' => Inv W [(W.heap.size, 33, #[.int .i64 (b % 1048577), .int .i64 1, .int .i64 0, .int .i64 0]), (W.heap.size + 1, 33, #[.int .i64 (a % 1048577), .int .i64 1, .int .i64 0, .int .i64 0])] w') 6 [(false, 0), (false, 3)] #[true, false, false, true, false, false, false, false] (by kernel_rfl) (by kernel_rfl) (by decide) (by kernel_rfl) (by kernel_rfl) (fun _ _ _ _ _ h => h) (by first | assumption | exact hI.drew | exact (by assumption : Inv W _ _).alloc _ | exact ((by assumption : Inv W _ _).alloc _).below hb1 | exact (by assumption : Inv W _ _).below hb1) (fun hS0 => ?_)
      simp only [List.map_cons, List.map_nil, List.getElem?_toArray, List.getElem?_cons_succ, List.getElem?_cons_zero]
      (apply lex_take (by rfl); (focus (intro w hw; (try dsimp only at hw); go_simp; (try with_reducible rfl); done)); simp only [Act.put, List.setIfInBounds_toArray, List.set_cons_zero, List.set_cons_succ])
      (apply lex_take (by rfl); (focus (intro w hw; (try dsimp only at hw); go_simp; (try with_reducible rfl); done)); simp only [Act.put, List.setIfInBounds_toArray, List.set_cons_zero, List.set_cons_succ])
      refine lex_nil (fun hS2 => ?_)
      refine lex_fork2 (i := 1) (j := 4) (by kernel_rfl) (by kernel_rfl : _ = #[true, true, false, true, false, false, false, false]) (by kernel_rfl : _ = #[true, false, false, true, true, false, false, false]) ?_ ?_
      focus
        apply lex_act (by simp only [List.getElem?_toArray, List.getElem?_cons_succ, List.getElem?_cons_zero]; rfl) (by rfl)
        go_simp
        (first | (go_at_call 30; (first | (refine (load_calls [onlyR (b % 1048577)] _ _ _ ?_ (by simp)).mono ?_; focus (first | (refine (Reads.new ?_ ?_ rfl).drew <;> (simp; done)) | (refine ((((Reads.new (b := W.heap.size + 1 + 1) (B := W.heap.size + 1 + 1 + 1) ?_ ?_ rfl).alloc ?_ _).drew).more ?_) <;> (simp; done)) | (refine (((Reads.new ?_ ?_ rfl).drew).below hb1).more hb1.size <;> (simp; done)) | (refine (((((Reads.new (b := W.heap.size + 1 + 1) (B := W.heap.size + 1 + 1 + 1) ?_ ?_ rfl).alloc ?_ _).drew).more ?_).below hb1).more hb1.size <;> (simp; done)) | (refine Reads.new rfl ?_ rfl <;> (simp; done)))) | (refine (load_calls [onlyR (a % 1048577)] _ _ _ ?_ (by simp)).mono ?_; focus (first | (refine (Reads.new ?_ ?_ rfl).drew <;> (simp; done)) | (refine ((((Reads.new (b := W.heap.size + 1 + 1) (B := W.heap.size + 1 + 1 + 1) ?_ ?_ rfl).alloc ?_ _).drew).more ?_) <;> (simp; done)) | (refine (((Reads.new ?_ ?_ rfl).drew).below hb1).more hb1.size <;> (simp; done)) | (refine (((((Reads.new (b := W.heap.size + 1 + 1) (B := W.heap.size + 1 + 1 + 1) ?_ ?_ rfl).alloc ?_ _).drew).more ?_).below hb1).more hb1.size <;> (simp; done)) | (refine Reads.new rfl ?_ rfl <;> (simp; done))))); rintro e w1 ⟨rfl, hb1⟩) | skip)
        refine lex_both (by (first | assumption | exact hI.drew | exact (by assumption : Inv W _ _).alloc _ | exact ((by assumption : Inv W _ _).alloc _).below hb1 | exact (by assumption : Inv W _ _).below hb1)) (fun hS1 => ?_)
        refine lex_more 5 [] #[true, true, false, true, false, false, false, false] (by kernel_rfl) (by decide) (by kernel_rfl) (by kernel_rfl) (fun _ _ _ _ _ h => h) (by assumption) ?_
        simp only [List.map_nil]
        refine lex_nil (fun hS2 => ?_)
        refine lex_fork2 (i := 2) (j := 4) (by kernel_rfl) (by kernel_rfl : _ = #[true, true, true, true, false, false, false, false]) (by kernel_rfl : _ = #[true, true, false, true, true, false, false, false]) ?_ ?_
        focus
          apply lex_act (by simp only [List.getElem?_toArray, List.getElem?_cons_succ, List.getElem?_cons_zero]; rfl) (by rfl)
          go_simp
          (first | (go_at_call 30; (first | (refine (load_calls [onlyR (b % 1048577)] _ _ _ ?_ (by simp)).mono ?_; focus (first | (refine (Reads.new ?_ ?_ rfl).drew <;> (simp; done)) | (refine ((((Reads.new (b := W.heap.size + 1 + 1) (B := W.heap.size + 1 + 1 + 1) ?_ ?_ rfl).alloc ?_ _).drew).more ?_) <;> (simp; done)) | (refine (((Reads.new ?_ ?_ rfl).drew).below hb1).more hb1.size <;> (simp; done)) | (refine (((((Reads.new (b := W.heap.size + 1 + 1) (B := W.heap.size + 1 + 1 + 1) ?_ ?_ rfl).alloc ?_ _).drew).more ?_).below hb1).more hb1.size <;> (simp; done)) | (refine Reads.new rfl ?_ rfl <;> (simp; done)))) | (refine (load_calls [onlyR (a % 1048577)] _ _ _ ?_ (by simp)).mono ?_; focus (first | (refine (Reads.new ?_ ?_ rfl).drew <;> (simp; done)) | (refine ((((Reads.new (b := W.heap.size + 1 + 1) (B := W.heap.size + 1 + 1 + 1) ?_ ?_ rfl).alloc ?_ _).drew).more ?_) <;> (simp; done)) | (refine (((Reads.new ?_ ?_ rfl).drew).below hb1).more hb1.size <;> (simp; done)) | (refine (((((Reads.new (b := W.heap.size + 1 + 1) (B := W.heap.size + 1 + 1 + 1) ?_ ?_ rfl).alloc ?_ _).drew).more ?_).below hb1).more hb1.size <;> (simp; done)) | (refine Reads.new rfl ?_ rfl <;> (simp; done))))); rintro e w1 ⟨rfl, hb1⟩) | skip)
          refine lex_both (by (first | assumption | exact hI.drew | exact (by assumption : Inv W _ _).alloc _ | exact ((by assumption : Inv W _ _).alloc _).below hb1 | exact (by assumption : Inv W _ _).below hb1)) (fun hS1 => ?_)
          refine lex_more 0 [(true, 4), (true, 5), (false, 6), (false, 7)] #[true, true, true, true, true, true, true, true] (by kernel_rfl) (by decide) (by kernel_rfl) (by kernel_rfl) (fun _ _ _ _ _ h => h) (by assumption) ?_
          simp only [List.map_cons, List.map_nil, List.getElem?_toArray, List.getElem?_cons_succ, List.getElem?_cons_zero]
          (refine lex_eff (by rfl) ?_; go_simp; (first | (go_at_call 30; (first | (refine (load_calls [onlyR (b % 1048577)] _ _ _ ?_ (by simp)).mono ?_; focus (first | (refine (Reads.new ?_ ?_ rfl).drew <;> (simp; done)) | (refine ((((Reads.new (b := W.heap.size + 1 + 1) (B := W.heap.size + 1 + 1 + 1) ?_ ?_ rfl).alloc ?_ _).drew).more ?_) <;> (simp; done)) | (refine (((Reads.new ?_ ?_ rfl).drew).below hb1).more hb1.size <;> (simp; done)) | (refine (((((Reads.new (b := W.heap.size + 1 + 1) (B := W.heap.size + 1 + 1 + 1) ?_ ?_ rfl).alloc ?_ _).drew).more ?_).below hb1).more hb1.size <;> (simp; done)) | (refine Reads.new rfl ?_ rfl <;> (simp; done)))) | (refine (load_calls [onlyR (a % 1048577)] _ _ _ ?_ (by simp)).mono ?_; focus (first | (refine (Reads.new ?_ ?_ rfl).drew <;> (simp; done)) | (refine ((((Reads.new (b := W.heap.size + 1 + 1) (B := W.heap.size + 1 + 1 + 1) ?_ ?_ rfl).alloc ?_ _).drew).more ?_) <;> (simp; done)) | (refine (((Reads.new ?_ ?_ rfl).drew).below hb1).more hb1.size <;> (simp; done)) | (refine (((((Reads.new (b := W.heap.size + 1 + 1) (B := W.heap.size + 1 + 1 + 1) ?_ ?_ rfl).alloc ?_ _).drew).more ?_).below hb1).more hb1.size <;> (simp; done)) | (refine Reads.new rfl ?_ rfl <;> (simp; done))))); rintro e w1 ⟨rfl, hb1⟩) | skip); refine lex_both (by (first | assumption | exact hI.drew | exact (by assumption : Inv W _ _).alloc _ | exact ((by assumption : Inv W _ _).alloc _).below hb1 | exact (by assumption : Inv W _ _).below hb1)) (fun hS1 => ?_))
          (refine lex_eff (by rfl) ?_; go_simp; (first | (go_at_call 30; (first | (refine (load_calls [onlyR (b % 1048577)] _ _ _ ?_ (by simp)).mono ?_; focus (first | (refine (Reads.new ?_ ?_ rfl).drew <;> (simp; done)) | (refine ((((Reads.new (b := W.heap.size + 1 + 1) (B := W.heap.size + 1 + 1 + 1) ?_ ?_ rfl).alloc ?_ _).drew).more ?_) <;> (simp; done)) | (refine (((Reads.new ?_ ?_ rfl).drew).below hb1).more hb1.size <;> (simp; done)) | (refine (((((Reads.new (b := W.heap.size + 1 + 1) (B := W.heap.size + 1 + 1 + 1) ?_ ?_ rfl).alloc ?_ _).drew).more ?_).below hb1).more hb1.size <;> (simp; done)) | (refine Reads.new rfl ?_ rfl <;> (simp; done)))) | (refine (load_calls [onlyR (a % 1048577)] _ _ _ ?_ (by simp)).mono ?_; focus (first | (refine (Reads.new ?_ ?_ rfl).drew <;> (simp; done)) | (refine ((((Reads.new (b := W.heap.size + 1 + 1) (B := W.heap.size + 1 + 1 + 1) ?_ ?_ rfl).alloc ?_ _).drew).more ?_) <;> (simp; done)) | (refine (((Reads.new ?_ ?_ rfl).drew).below hb1).more hb1.size <;> (simp; done)) | (refine (((((Reads.new (b := W.heap.size + 1 + 1) (B := W.heap.size + 1 + 1 + 1) ?_ ?_ rfl).alloc ?_ _).drew).more ?_).below hb1).more hb1.size <;> (simp; done)) | (refine Reads.new rfl ?_ rfl <;> (simp; done))))); rintro e w1 ⟨rfl, hb1⟩) | skip); refine lex_both (by (first | assumption | exact hI.drew | exact (by assumption : Inv W _ _).alloc _ | exact ((by assumption : Inv W _ _).alloc _).below hb1 | exact (by assumption : Inv W _ _).below hb1)) (fun hS1 => ?_))
          (apply lex_take (by rfl); (focus (intro w hw; (try dsimp only at hw); go_simp; (try with_reducible rfl); done)); simp only [Act.put, List.setIfInBounds_toArray, List.set_cons_zero, List.set_cons_succ])
          (apply lex_take (by rfl); (focus (intro w hw; (try dsimp only at hw); go_simp; (try with_reducible rfl); done)); simp only [Act.put, List.setIfInBounds_toArray, List.set_cons_zero, List.set_cons_succ])
          refine lex_nil (fun _ => wpAnyH_done (by kernel_rfl) ?_ _)
        rotate_left
        focus
          apply lex_act (by simp only [List.getElem?_toArray, List.getElem?_cons_succ, List.getElem?_cons_zero]; rfl) (by rfl)
          go_simp
          (first | (go_at_call 30; (first | (refine (load_calls [onlyR (b % 1048577)] _ _ _ ?_ (by simp)).mono ?_; focus (first | (refine (Reads.new ?_ ?_ rfl).drew <;> (simp; done)) | (refine ((((Reads.new (b := W.heap.size + 1 + 1) (B := W.heap.size + 1 + 1 + 1) ?_ ?_ rfl).alloc ?_ _).drew).more ?_) <;> (simp; done)) | (refine (((Reads.new ?_ ?_ rfl).drew).below hb1).more hb1.size <;> (simp; done)) | (refine (((((Reads.new (b := W.heap.size + 1 + 1) (B := W.heap.size + 1 + 1 + 1) ?_ ?_ rfl).alloc ?_ _).drew).more ?_).below hb1).more hb1.size <;> (simp; done)) | (refine Reads.new rfl ?_ rfl <;> (simp; done)))) | (refine (load_calls [onlyR (a % 1048577)] _ _ _ ?_ (by simp)).mono ?_; focus (first | (refine (Reads.new ?_ ?_ rfl).drew <;> (simp; done)) | (refine ((((Reads.new (b := W.heap.size + 1 + 1) (B := W.heap.size + 1 + 1 + 1) ?_ ?_ rfl).alloc ?_ _).drew).more ?_) <;> (simp; done)) | (refine (((Reads.new ?_ ?_ rfl).drew).below hb1).more hb1.size <;> (simp; done)) | (refine (((((Reads.new (b := W.heap.size + 1 + 1) (B := W.heap.size + 1 + 1 + 1) ?_ ?_ rfl).alloc ?_ _).drew).more ?_).below hb1).more hb1.size <;> (simp; done)) | (refine Reads.new rfl ?_ rfl <;> (simp; done))))); rintro e w1 ⟨rfl, hb1⟩) | skip)
          refine lex_both (by (first | assumption | exact hI.drew | exact (by assumption : Inv W _ _).alloc _ | exact ((by assumption : Inv W _ _).alloc _).below hb1 | exact (by assumption : Inv W _ _).below hb1)) (fun hS1 => ?_)
          refine lex_more 0 [(true, 2), (true, 5), (false, 6), (false, 7)] #[true, true, true, true, true, true, true, true] (by kernel_rfl) (by decide) (by kernel_rfl) (by kernel_rfl) (fun _ _ _ _ _ h => h) (by assumption) ?_
          simp only [List.map_cons, List.map_nil, List.getElem?_toArray, List.getElem?_cons_succ, List.getElem?_cons_zero]
          (refine lex_eff (by rfl) ?_; go_simp; (first | (go_at_call 30; (first | (refine (load_calls [onlyR (b % 1048577)] _ _ _ ?_ (by simp)).mono ?_; focus (first | (refine (Reads.new ?_ ?_ rfl).drew <;> (simp; done)) | (refine ((((Reads.new (b := W.heap.size + 1 + 1) (B := W.heap.size + 1 + 1 + 1) ?_ ?_ rfl).alloc ?_ _).drew).more ?_) <;> (simp; done)) | (refine (((Reads.new ?_ ?_ rfl).drew).below hb1).more hb1.size <;> (simp; done)) | (refine (((((Reads.new (b := W.heap.size + 1 + 1) (B := W.heap.size + 1 + 1 + 1) ?_ ?_ rfl).alloc ?_ _).drew).more ?_).below hb1).more hb1.size <;> (simp; done)) | (refine Reads.new rfl ?_ rfl <;> (simp; done)))) | (refine (load_calls [onlyR (a % 1048577)] _ _ _ ?_ (by simp)).mono ?_; focus (first | (refine (Reads.new ?_ ?_ rfl).drew <;> (simp; done)) | (refine ((((Reads.new (b := W.heap.size + 1 + 1) (B := W.heap.size + 1 + 1 + 1) ?_ ?_ rfl).alloc ?_ _).drew).more ?_) <;> (simp; done)) | (refine (((Reads.new ?_ ?_ rfl).drew).below hb1).more hb1.size <;> (simp; done)) | (refine (((((Reads.new (b := W.heap.size + 1 + 1) (B := W.heap.size + 1 + 1 + 1) ?_ ?_ rfl).alloc ?_ _).drew).more ?_).below hb1).more hb1.size <;> (simp; done)) | (refine Reads.new rfl ?_ rfl <;> (simp; done))))); rintro e w1 ⟨rfl, hb1⟩) | skip); refine lex_both (by (first | assumption | exact hI.drew | exact (by assumption : Inv W _ _).alloc _ | exact ((by assumption : Inv W _ _).alloc _).below hb1 | exact (by assumption : Inv W _ _).below hb1)) (fun hS1 => ?_))
          (refine lex_eff (by rfl) ?_; go_simp; (first | (go_at_call 30; (first | (refine (load_calls [onlyR (b % 1048577)] _ _ _ ?_ (by simp)).mono ?_; focus (first | (refine (Reads.new ?_ ?_ rfl).drew <;> (simp; done)) | (refine ((((Reads.new (b := W.heap.size + 1 + 1) (B := W.heap.size + 1 + 1 + 1) ?_ ?_ rfl).alloc ?_ _).drew).more ?_) <;> (simp; done)) | (refine (((Reads.new ?_ ?_ rfl).drew).below hb1).more hb1.size <;> (simp; done)) | (refine (((((Reads.new (b := W.heap.size + 1 + 1) (B := W.heap.size + 1 + 1 + 1) ?_ ?_ rfl).alloc ?_ _).drew).more ?_).below hb1).more hb1.size <;> (simp; done)) | (refine Reads.new rfl ?_ rfl <;> (simp; done)))) | (refine (load_calls [onlyR (a % 1048577)] _ _ _ ?_ (by simp)).mono ?_; focus (first | (refine (Reads.new ?_ ?_ rfl).drew <;> (simp; done)) | (refine ((((Reads.new (b := W.heap.size + 1 + 1) (B := W.heap.size + 1 + 1 + 1) ?_ ?_ rfl).alloc ?_ _).drew).more ?_) <;> (simp; done)) | (refine (((Reads.new ?_ ?_ rfl).drew).below hb1).more hb1.size <;> (simp; done)) | (refine (((((Reads.new (b := W.heap.size + 1 + 1) (B := W.heap.size + 1 + 1 + 1) ?_ ?_ rfl).alloc ?_ _).drew).more ?_).below hb1).more hb1.size <;> (simp; done)) | (refine Reads.new rfl ?_ rfl <;> (simp; done))))); rintro e w1 ⟨rfl, hb1⟩) | skip); refine lex_both (by (first | assumption | exact hI.drew | exact (by assumption : Inv W _ _).alloc _ | exact ((by assumption : Inv W _ _).alloc _).below hb1 | exact (by assumption : Inv W _ _).below hb1)) (fun hS1 => ?_))
          (apply lex_take (by rfl); (focus (intro w hw; (try dsimp only at hw); go_simp; (try with_reducible rfl); done)); simp only [Act.put, List.setIfInBounds_toArray, List.set_cons_zero, List.set_cons_succ])
          (apply lex_take (by rfl); (focus (intro w hw; (try dsimp only at hw); go_simp; (try with_reducible rfl); done)); simp only [Act.put, List.setIfInBounds_toArray, List.set_cons_zero, List.set_cons_succ])
          refine lex_nil (fun _ => wpAnyH_done (by kernel_rfl) ?_ _)
        rotate_left
      rotate_left 2
      focus
        apply lex_act (by simp only [List.getElem?_toArray, List.getElem?_cons_succ, List.getElem?_cons_zero]; rfl) (by rfl)
        go_simp
        (first | (go_at_call 30; (first | (refine (load_calls [onlyR (b % 1048577)] _ _ _ ?_ (by simp)).mono ?_; focus (first | (refine (Reads.new ?_ ?_ rfl).drew <;> (simp; done)) | (refine ((((Reads.new (b := W.heap.size + 1 + 1) (B := W.heap.size + 1 + 1 + 1) ?_ ?_ rfl).alloc ?_ _).drew).more ?_) <;> (simp; done)) | (refine (((Reads.new ?_ ?_ rfl).drew).below hb1).more hb1.size <;> (simp; done)) | (refine (((((Reads.new (b := W.heap.size + 1 + 1) (B := W.heap.size + 1 + 1 + 1) ?_ ?_ rfl).alloc ?_ _).drew).more ?_).below hb1).more hb1.size <;> (simp; done)) | (refine Reads.new rfl ?_ rfl <;> (simp; done)))) | (refine (load_calls [onlyR (a % 1048577)] _ _ _ ?_ (by simp)).mono ?_; focus (first | (refine (Reads.new ?_ ?_ rfl).drew <;> (simp; done)) | (refine ((((Reads.new (b := W.heap.size + 1 + 1) (B := W.heap.size + 1 + 1 + 1) ?_ ?_ rfl).alloc ?_ _).drew).more ?_) <;> (simp; done)) | (refine (((Reads.new ?_ ?_ rfl).drew).below hb1).more hb1.size <;> (simp; done)) | (refine (((((Reads.new (b := W.heap.size + 1 + 1) (B := W.heap.size + 1 + 1 + 1) ?_ ?_ rfl).alloc ?_ _).drew).more ?_).below hb1).more hb1.size <;> (simp; done)) | (refine Reads.new rfl ?_ rfl <;> (simp; done))))); rintro e w1 ⟨rfl, hb1⟩) | skip)
        refine lex_both (by (first | assumption | exact hI.drew | exact (by assumption : Inv W _ _).alloc _ | exact ((by assumption : Inv W _ _).alloc _).below hb1 | exact (by assumption : Inv W _ _).below hb1)) (fun hS1 => ?_)
        refine lex_more 0 [(true, 1), (true, 2), (true, 5), (false, 6), (false, 7)] #[true, true, true, true, true, true, true, true] (by kernel_rfl) (by decide) (by kernel_rfl) (by kernel_rfl) (fun _ _ _ _ _ h => h) (by assumption) ?_
        simp only [List.map_cons, List.map_nil, List.getElem?_toArray, List.getElem?_cons_succ, List.getElem?_cons_zero]
        (refine lex_eff (by rfl) ?_; go_simp; (first | (go_at_call 30; (first | (refine (load_calls [onlyR (b % 1048577)] _ _ _ ?_ (by simp)).mono ?_; focus (first | (refine (Reads.new ?_ ?_ rfl).drew <;> (simp; done)) | (refine ((((Reads.new (b := W.heap.size + 1 + 1) (B := W.heap.size + 1 + 1 + 1) ?_ ?_ rfl).alloc ?_ _).drew).more ?_) <;> (simp; done)) | (refine (((Reads.new ?_ ?_ rfl).drew).below hb1).more hb1.size <;> (simp; done)) | (refine (((((Reads.new (b := W.heap.size + 1 + 1) (B := W.heap.size + 1 + 1 + 1) ?_ ?_ rfl).alloc ?_ _).drew).more ?_).below hb1).more hb1.size <;> (simp; done)) | (refine Reads.new rfl ?_ rfl <;> (simp; done)))) | (refine (load_calls [onlyR (a % 1048577)] _ _ _ ?_ (by simp)).mono ?_; focus (first | (refine (Reads.new ?_ ?_ rfl).drew <;> (simp; done)) | (refine ((((Reads.new (b := W.heap.size + 1 + 1) (B := W.heap.size + 1 + 1 + 1) ?_ ?_ rfl).alloc ?_ _).drew).more ?_) <;> (simp; done)) | (refine (((Reads.new ?_ ?_ rfl).drew).below hb1).more hb1.size <;> (simp; done)) | (refine (((((Reads.new (b := W.heap.size + 1 + 1) (B := W.heap.size + 1 + 1 + 1) ?_ ?_ rfl).alloc ?_ _).drew).more ?_).below hb1).more hb1.size <;> (simp; done)) | (refine Reads.new rfl ?_ rfl <;> (simp; done))))); rintro e w1 ⟨rfl, hb1⟩) | skip); refine lex_both (by (first | assumption | exact hI.drew | exact (by assumption : Inv W _ _).alloc _ | exact ((by assumption : Inv W _ _).alloc _).below hb1 | exact (by assumption : Inv W _ _).below hb1)) (fun hS1 => ?_))
        (refine lex_eff (by rfl) ?_; go_simp; (first | (go_at_call 30; (first | (refine (load_calls [onlyR (b % 1048577)] _ _ _ ?_ (by simp)).mono ?_; focus (first | (refine (Reads.new ?_ ?_ rfl).drew <;> (simp; done)) | (refine ((((Reads.new (b := W.heap.size + 1 + 1) (B := W.heap.size + 1 + 1 + 1) ?_ ?_ rfl).alloc ?_ _).drew).more ?_) <;> (simp; done)) | (refine (((Reads.new ?_ ?_ rfl).drew).below hb1).more hb1.size <;> (simp; done)) | (refine (((((Reads.new (b := W.heap.size + 1 + 1) (B := W.heap.size + 1 + 1 + 1) ?_ ?_ rfl).alloc ?_ _).drew).more ?_).below hb1).more hb1.size <;> (simp; done)) | (refine Reads.new rfl ?_ rfl <;> (simp; done)))) | (refine (load_calls [onlyR (a % 1048577)] _ _ _ ?_ (by simp)).mono ?_; focus (first | (refine (Reads.new ?_ ?_ rfl).drew <;> (simp; done)) | (refine ((((Reads.new (b := W.heap.size + 1 + 1) (B := W.heap.size + 1 + 1 + 1) ?_ ?_ rfl).alloc ?_ _).drew).more ?_) <;> (simp; done)) | (refine (((Reads.new ?_ ?_ rfl).drew).below hb1).more hb1.size <;> (simp; done)) | (refine (((((Reads.new (b := W.heap.size + 1 + 1) (B := W.heap.size + 1 + 1 + 1) ?_ ?_ rfl).alloc ?_ _).drew).more ?_).below hb1).more hb1.size <;> (simp; done)) | (refine Reads.new rfl ?_ rfl <;> (simp; done))))); rintro e w1 ⟨rfl, hb1⟩) | skip); refine lex_both (by (first | assumption | exact hI.drew | exact (by assumption : Inv W _ _).alloc _ | exact ((by assumption : Inv W _ _).alloc _).below hb1 | exact (by assumption : Inv W _ _).below hb1)) (fun hS1 => ?_))
        (refine lex_eff (by rfl) ?_; go_simp; (first | (go_at_call 30; (first | (refine (load_calls [onlyR (b % 1048577)] _ _ _ ?_ (by simp)).mono ?_; focus (first | (refine (Reads.new ?_ ?_ rfl).drew <;> (simp; done)) | (refine ((((Reads.new (b := W.heap.size + 1 + 1) (B := W.heap.size + 1 + 1 + 1) ?_ ?_ rfl).alloc ?_ _).drew).more ?_) <;> (simp; done)) | (refine (((Reads.new ?_ ?_ rfl).drew).below hb1).more hb1.size <;> (simp; done)) | (refine (((((Reads.new (b := W.heap.size + 1 + 1) (B := W.heap.size + 1 + 1 + 1) ?_ ?_ rfl).alloc ?_ _).drew).more ?_).below hb1).more hb1.size <;> (simp; done)) | (refine Reads.new rfl ?_ rfl <;> (simp; done)))) | (refine (load_calls [onlyR (a % 1048577)] _ _ _ ?_ (by simp)).mono ?_; focus (first | (refine (Reads.new ?_ ?_ rfl).drew <;> (simp; done)) | (refine ((((Reads.new (b := W.heap.size + 1 + 1) (B := W.heap.size + 1 + 1 + 1) ?_ ?_ rfl).alloc ?_ _).drew).more ?_) <;> (simp; done)) | (refine (((Reads.new ?_ ?_ rfl).drew).below hb1).more hb1.size <;> (simp; done)) | (refine (((((Reads.new (b := W.heap.size + 1 + 1) (B := W.heap.size + 1 + 1 + 1) ?_ ?_ rfl).alloc ?_ _).drew).more ?_).below hb1).more hb1.size <;> (simp; done)) | (refine Reads.new rfl ?_ rfl <;> (simp; done))))); rintro e w1 ⟨rfl, hb1⟩) | skip); refine lex_both (by (first | assumption | exact hI.drew | exact (by assumption : Inv W _ _).alloc _ | exact ((by assumption : Inv W _ _).alloc _).below hb1 | exact (by assumption : Inv W _ _).below hb1)) (fun hS1 => ?_))
        (apply lex_take (by rfl); (focus (intro w hw; (try dsimp only at hw); go_simp; (try with_reducible rfl); done)); simp only [Act.put, List.setIfInBounds_toArray, List.set_cons_zero, List.set_cons_succ])
        (apply lex_take (by rfl); (focus (intro w hw; (try dsimp only at hw); go_simp; (try with_reducible rfl); done)); simp only [Act.put, List.setIfInBounds_toArray, List.set_cons_zero, List.set_cons_succ])
        refine lex_nil (fun _ => wpAnyH_done (by kernel_rfl) ?_ _)
      rotate_left
      all_goals
        have I1 : Inv W [(W.heap.size, 33, #[.int .i64 (b % 1048577), .int .i64 1, .int .i64 0, .int .i64 0]), (W.heap.size + 1, 33, #[.int .i64 (a % 1048577), .int .i64 1, .int .i64 0, .int .i64 0])] w1 := by assumption
        have ew1 : ∃ w : World, w = w1 := ⟨_, rfl⟩
        clear ew1
        go_wp2_with fail
        refine (load_calls [] _ _ _ Reads.none_ (by simp)).mono ?_
        rintro e w2 ⟨rfl, hb2⟩
        have I2 := I1.below hb2
        have l0 : (load [] != 0) = false := by decide
        have pqn : decide (load [onlyR (a % 1048577)] < load [onlyR (b % 1048577)]) = false := decide_eq_false (by omega)
        go_wp2_with fail
        refine (admits_calls _ [onlyR (a % 1048577)] _ _ _ (by exact Reads.new rfl (by simp) rfl)).mono ?_
        rintro e w3 ⟨rfl, hb3⟩
        have I3 := (I2.alloc _).below hb3
        rcases Bool.eq_false_or_eq_true (admits (1 + n % 64) [onlyR (a % 1048577)]) with had | had
        · have adx := adl had
          have adr := ado had
          clear adl ado
          go_wp2_with fail
          refine (admits_calls _ [onlyR (b % 1048577)] _ _ _ (by exact Reads.new rfl (by simp) rfl)).mono ?_
          rintro e w4 ⟨rfl, hb4⟩
          have I4 := (I3.alloc _).below hb4
          go_wp2_with fail
          refine (awake10_calls _).mono ?_
          rintro e w5 ⟨rfl, hb5⟩
          have I5 := I4.below hb5
          go_wp2
          go_ret
          exact ⟨rfl, I5.base⟩
        · go_wp2_with fail
          refine (awake10_calls _).mono ?_
          rintro e w5 ⟨rfl, hb5⟩
          have I5 := I3.below hb5
          go_wp2
          go_ret
          exact ⟨rfl, I5.base⟩
    · have pq := loads_mono (x := a % 1048577) (y := a % 1048577) (by omega) (by omega) (by omega)
      have la := hide (load_only (a % 1048577))
      have lb := hide (load_only (a % 1048577))
      have sx := share_bd (space (a % 1048577))
      have sy := share_bd (space (a % 1048577))
      have pq' : load [onlyR (a % 1048577)] ≤ load [onlyR (a % 1048577)] := Int.le_trans (Int.le_of_eq la.out) (Int.le_trans pq (Int.le_of_eq lb.out.symm))
      have pos : 0 ≤ load [onlyR (a % 1048577)] := by rw [la.out]; exact sx.1
      have adl := admits_less (n := 1 + n % 64) (x := a % 1048577) (y := a % 1048577) (by omega) (by omega)
      have ado := fun h => (admits_only (n := 1 + n % 64) (r := a % 1048577) h).1
      have r0 : ∀ w', Inv W [(W.heap.size, 33, #[.int .i64 (a % 1048577), .int .i64 1, .int .i64 0, .int .i64 0]), (W.heap.size + 1, 33, #[.int .i64 (a % 1048577), .int .i64 1, .int .i64 0, .int .i64 0])] w' → w'.cell? ⟨W.heap.size, 0, none⟩ = some (.int .i64 (a % 1048577)) := fun w' h => h.cell (List.Mem.head _) 0
      have r1 : ∀ w', Inv W [(W.heap.size, 33, #[.int .i64 (a % 1048577), .int .i64 1, .int .i64 0, .int .i64 0]), (W.heap.size + 1, 33, #[.int .i64 (a % 1048577), .int .i64 1, .int .i64 0, .int .i64 0])] w' → w'.cell? ⟨W.heap.size, 1, none⟩ = some (.int .i64 1) := fun w' h => h.cell (List.Mem.head _) 1
      have r2 : ∀ w', Inv W [(W.heap.size, 33, #[.int .i64 (a % 1048577), .int .i64 1, .int .i64 0, .int .i64 0]), (W.heap.size + 1, 33, #[.int .i64 (a % 1048577), .int .i64 1, .int .i64 0, .int .i64 0])] w' → w'.cell? ⟨W.heap.size, 2, none⟩ = some (.int .i64 0) := fun w' h => h.cell (List.Mem.head _) 2
      have r3 : ∀ w', Inv W [(W.heap.size, 33, #[.int .i64 (a % 1048577), .int .i64 1, .int .i64 0, .int .i64 0]), (W.heap.size + 1, 33, #[.int .i64 (a % 1048577), .int .i64 1, .int .i64 0, .int .i64 0])] w' → w'.cell? ⟨W.heap.size, 3, none⟩ = some (.int .i64 0) := fun w' h => h.cell (List.Mem.head _) 3
      have q0 : ∀ w', Inv W [(W.heap.size, 33, #[.int .i64 (a % 1048577), .int .i64 1, .int .i64 0, .int .i64 0]), (W.heap.size + 1, 33, #[.int .i64 (a % 1048577), .int .i64 1, .int .i64 0, .int .i64 0])] w' → w'.cell? ⟨W.heap.size + 1, 0, none⟩ = some (.int .i64 (a % 1048577)) := fun w' h => h.cell (List.Mem.tail _ (List.Mem.head _)) 0
      have q1 : ∀ w', Inv W [(W.heap.size, 33, #[.int .i64 (a % 1048577), .int .i64 1, .int .i64 0, .int .i64 0]), (W.heap.size + 1, 33, #[.int .i64 (a % 1048577), .int .i64 1, .int .i64 0, .int .i64 0])] w' → w'.cell? ⟨W.heap.size + 1, 1, none⟩ = some (.int .i64 1) := fun w' h => h.cell (List.Mem.tail _ (List.Mem.head _)) 1
      have q2 : ∀ w', Inv W [(W.heap.size, 33, #[.int .i64 (a % 1048577), .int .i64 1, .int .i64 0, .int .i64 0]), (W.heap.size + 1, 33, #[.int .i64 (a % 1048577), .int .i64 1, .int .i64 0, .int .i64 0])] w' → w'.cell? ⟨W.heap.size + 1, 2, none⟩ = some (.int .i64 0) := fun w' h => h.cell (List.Mem.tail _ (List.Mem.head _)) 2
      have q3 : ∀ w', Inv W [(W.heap.size, 33, #[.int .i64 (a % 1048577), .int .i64 1, .int .i64 0, .int .i64 0]), (W.heap.size + 1, 33, #[.int .i64 (a % 1048577), .int .i64 1, .int .i64 0, .int .i64 0])] w' → w'.cell? ⟨W.heap.size + 1, 3, none⟩ = some (.int .i64 0) := fun w' h => h.cell (List.Mem.tail _ (List.Mem.head _)) 3
      have hI : Inv W [(W.heap.size, 33, #[.int .i64 (a % 1048577), .int .i64 1, .int .i64 0, .int .i64 0]), (W.heap.size + 1, 33, #[.int .i64 (a % 1048577), .int .i64 1, .int .i64 0, .int .i64 0])] ((W.alloc (.cells #[.int .i64 (a % 1048577), .int .i64 1, .int .i64 0, .int .i64 0] 33)).alloc (.cells #[.int .i64 (a % 1048577), .int .i64 1, .int .i64 0, .int .i64 0] 33)) :=
        (((Inv.refl W).new rfl).new (b := W.heap.size + 1) (by simp)).sub (fun p hp => by simp only [List.mem_cons, List.mem_nil_iff, or_false] at hp ⊢; exact hp.symm)
      clear pq sx sy
      go_enter Try.func9, Try.ntmps9
      go_wp2
      refine region_lex (fun w' => Inv W [(W.heap.size, 33, #[.int .i64 (a % 1048577), .int .i64 1, .int .i64 0, .int .i64 0]), (W.heap.size + 1, 33, #[.int .i64 (a % 1048577), .int .i64 1, .int .i64 0, .int .i64 0])] w') 6 [(false, 0), (false, 3)] #[true, false, false, true, false, false, false, false] (by kernel_rfl) (by kernel_rfl) (by decide) (by kernel_rfl) (by kernel_rfl) (fun _ _ _ _ _ h => h) (by first | assumption | exact hI.drew | exact (by assumption : Inv W _ _).alloc _ | exact ((by assumption : Inv W _ _).alloc _).below hb1 | exact (by assumption : Inv W _ _).below hb1) (fun hS0 => ?_)
      simp only [List.map_cons, List.map_nil, List.getElem?_toArray, List.getElem?_cons_succ, List.getElem?_cons_zero]
      (apply lex_take (by rfl); (focus (intro w hw; (try dsimp only at hw); go_simp; (try with_reducible rfl); done)); simp only [Act.put, List.setIfInBounds_toArray, List.set_cons_zero, List.set_cons_succ])
      (apply lex_take (by rfl); (focus (intro w hw; (try dsimp only at hw); go_simp; (try with_reducible rfl); done)); simp only [Act.put, List.setIfInBounds_toArray, List.set_cons_zero, List.set_cons_succ])
      refine lex_nil (fun hS2 => ?_)
      refine lex_fork2 (i := 1) (j := 4) (by kernel_rfl) (by kernel_rfl : _ = #[true, true, false, true, false, false, false, false]) (by kernel_rfl : _ = #[true, false, false, true, true, false, false, false]) ?_ ?_
      focus
        apply lex_act (by simp only [List.getElem?_toArray, List.getElem?_cons_succ, List.getElem?_cons_zero]; rfl) (by rfl)
        go_simp
        (first | (go_at_call 30; (first | (refine (load_calls [onlyR (a % 1048577)] _ _ _ ?_ (by simp)).mono ?_; focus (first | (refine (Reads.new ?_ ?_ rfl).drew <;> (simp; done)) | (refine ((((Reads.new (b := W.heap.size + 1 + 1) (B := W.heap.size + 1 + 1 + 1) ?_ ?_ rfl).alloc ?_ _).drew).more ?_) <;> (simp; done)) | (refine (((Reads.new ?_ ?_ rfl).drew).below hb1).more hb1.size <;> (simp; done)) | (refine (((((Reads.new (b := W.heap.size + 1 + 1) (B := W.heap.size + 1 + 1 + 1) ?_ ?_ rfl).alloc ?_ _).drew).more ?_).below hb1).more hb1.size <;> (simp; done)) | (refine Reads.new rfl ?_ rfl <;> (simp; done)))) | (refine (load_calls [onlyR (a % 1048577)] _ _ _ ?_ (by simp)).mono ?_; focus (first | (refine (Reads.new ?_ ?_ rfl).drew <;> (simp; done)) | (refine ((((Reads.new (b := W.heap.size + 1 + 1) (B := W.heap.size + 1 + 1 + 1) ?_ ?_ rfl).alloc ?_ _).drew).more ?_) <;> (simp; done)) | (refine (((Reads.new ?_ ?_ rfl).drew).below hb1).more hb1.size <;> (simp; done)) | (refine (((((Reads.new (b := W.heap.size + 1 + 1) (B := W.heap.size + 1 + 1 + 1) ?_ ?_ rfl).alloc ?_ _).drew).more ?_).below hb1).more hb1.size <;> (simp; done)) | (refine Reads.new rfl ?_ rfl <;> (simp; done))))); rintro e w1 ⟨rfl, hb1⟩) | skip)
        refine lex_both (by (first | assumption | exact hI.drew | exact (by assumption : Inv W _ _).alloc _ | exact ((by assumption : Inv W _ _).alloc _).below hb1 | exact (by assumption : Inv W _ _).below hb1)) (fun hS1 => ?_)
        refine lex_more 5 [] #[true, true, false, true, false, false, false, false] (by kernel_rfl) (by decide) (by kernel_rfl) (by kernel_rfl) (fun _ _ _ _ _ h => h) (by assumption) ?_
        simp only [List.map_nil]
        refine lex_nil (fun hS2 => ?_)
        refine lex_fork2 (i := 2) (j := 4) (by kernel_rfl) (by kernel_rfl : _ = #[true, true, true, true, false, false, false, false]) (by kernel_rfl : _ = #[true, true, false, true, true, false, false, false]) ?_ ?_
        focus
          apply lex_act (by simp only [List.getElem?_toArray, List.getElem?_cons_succ, List.getElem?_cons_zero]; rfl) (by rfl)
          go_simp
          (first | (go_at_call 30; (first | (refine (load_calls [onlyR (a % 1048577)] _ _ _ ?_ (by simp)).mono ?_; focus (first | (refine (Reads.new ?_ ?_ rfl).drew <;> (simp; done)) | (refine ((((Reads.new (b := W.heap.size + 1 + 1) (B := W.heap.size + 1 + 1 + 1) ?_ ?_ rfl).alloc ?_ _).drew).more ?_) <;> (simp; done)) | (refine (((Reads.new ?_ ?_ rfl).drew).below hb1).more hb1.size <;> (simp; done)) | (refine (((((Reads.new (b := W.heap.size + 1 + 1) (B := W.heap.size + 1 + 1 + 1) ?_ ?_ rfl).alloc ?_ _).drew).more ?_).below hb1).more hb1.size <;> (simp; done)) | (refine Reads.new rfl ?_ rfl <;> (simp; done)))) | (refine (load_calls [onlyR (a % 1048577)] _ _ _ ?_ (by simp)).mono ?_; focus (first | (refine (Reads.new ?_ ?_ rfl).drew <;> (simp; done)) | (refine ((((Reads.new (b := W.heap.size + 1 + 1) (B := W.heap.size + 1 + 1 + 1) ?_ ?_ rfl).alloc ?_ _).drew).more ?_) <;> (simp; done)) | (refine (((Reads.new ?_ ?_ rfl).drew).below hb1).more hb1.size <;> (simp; done)) | (refine (((((Reads.new (b := W.heap.size + 1 + 1) (B := W.heap.size + 1 + 1 + 1) ?_ ?_ rfl).alloc ?_ _).drew).more ?_).below hb1).more hb1.size <;> (simp; done)) | (refine Reads.new rfl ?_ rfl <;> (simp; done))))); rintro e w1 ⟨rfl, hb1⟩) | skip)
          refine lex_both (by (first | assumption | exact hI.drew | exact (by assumption : Inv W _ _).alloc _ | exact ((by assumption : Inv W _ _).alloc _).below hb1 | exact (by assumption : Inv W _ _).below hb1)) (fun hS1 => ?_)
          refine lex_more 0 [(true, 4), (true, 5), (false, 6), (false, 7)] #[true, true, true, true, true, true, true, true] (by kernel_rfl) (by decide) (by kernel_rfl) (by kernel_rfl) (fun _ _ _ _ _ h => h) (by assumption) ?_
          simp only [List.map_cons, List.map_nil, List.getElem?_toArray, List.getElem?_cons_succ, List.getElem?_cons_zero]
          (refine lex_eff (by rfl) ?_; go_simp; (first | (go_at_call 30; (first | (refine (load_calls [onlyR (a % 1048577)] _ _ _ ?_ (by simp)).mono ?_; focus (first | (refine (Reads.new ?_ ?_ rfl).drew <;> (simp; done)) | (refine ((((Reads.new (b := W.heap.size + 1 + 1) (B := W.heap.size + 1 + 1 + 1) ?_ ?_ rfl).alloc ?_ _).drew).more ?_) <;> (simp; done)) | (refine (((Reads.new ?_ ?_ rfl).drew).below hb1).more hb1.size <;> (simp; done)) | (refine (((((Reads.new (b := W.heap.size + 1 + 1) (B := W.heap.size + 1 + 1 + 1) ?_ ?_ rfl).alloc ?_ _).drew).more ?_).below hb1).more hb1.size <;> (simp; done)) | (refine Reads.new rfl ?_ rfl <;> (simp; done)))) | (refine (load_calls [onlyR (a % 1048577)] _ _ _ ?_ (by simp)).mono ?_; focus (first | (refine (Reads.new ?_ ?_ rfl).drew <;> (simp; done)) | (refine ((((Reads.new (b := W.heap.size + 1 + 1) (B := W.heap.size + 1 + 1 + 1) ?_ ?_ rfl).alloc ?_ _).drew).more ?_) <;> (simp; done)) | (refine (((Reads.new ?_ ?_ rfl).drew).below hb1).more hb1.size <;> (simp; done)) | (refine (((((Reads.new (b := W.heap.size + 1 + 1) (B := W.heap.size + 1 + 1 + 1) ?_ ?_ rfl).alloc ?_ _).drew).more ?_).below hb1).more hb1.size <;> (simp; done)) | (refine Reads.new rfl ?_ rfl <;> (simp; done))))); rintro e w1 ⟨rfl, hb1⟩) | skip); refine lex_both (by (first | assumption | exact hI.drew | exact (by assumption : Inv W _ _).alloc _ | exact ((by assumption : Inv W _ _).alloc _).below hb1 | exact (by assumption : Inv W _ _).below hb1)) (fun hS1 => ?_))
          (refine lex_eff (by rfl) ?_; go_simp; (first | (go_at_call 30; (first | (refine (load_calls [onlyR (a % 1048577)] _ _ _ ?_ (by simp)).mono ?_; focus (first | (refine (Reads.new ?_ ?_ rfl).drew <;> (simp; done)) | (refine ((((Reads.new (b := W.heap.size + 1 + 1) (B := W.heap.size + 1 + 1 + 1) ?_ ?_ rfl).alloc ?_ _).drew).more ?_) <;> (simp; done)) | (refine (((Reads.new ?_ ?_ rfl).drew).below hb1).more hb1.size <;> (simp; done)) | (refine (((((Reads.new (b := W.heap.size + 1 + 1) (B := W.heap.size + 1 + 1 + 1) ?_ ?_ rfl).alloc ?_ _).drew).more ?_).below hb1).more hb1.size <;> (simp; done)) | (refine Reads.new rfl ?_ rfl <;> (simp; done)))) | (refine (load_calls [onlyR (a % 1048577)] _ _ _ ?_ (by simp)).mono ?_; focus (first | (refine (Reads.new ?_ ?_ rfl).drew <;> (simp; done)) | (refine ((((Reads.new (b := W.heap.size + 1 + 1) (B := W.heap.size + 1 + 1 + 1) ?_ ?_ rfl).alloc ?_ _).drew).more ?_) <;> (simp; done)) | (refine (((Reads.new ?_ ?_ rfl).drew).below hb1).more hb1.size <;> (simp; done)) | (refine (((((Reads.new (b := W.heap.size + 1 + 1) (B := W.heap.size + 1 + 1 + 1) ?_ ?_ rfl).alloc ?_ _).drew).more ?_).below hb1).more hb1.size <;> (simp; done)) | (refine Reads.new rfl ?_ rfl <;> (simp; done))))); rintro e w1 ⟨rfl, hb1⟩) | skip); refine lex_both (by (first | assumption | exact hI.drew | exact (by assumption : Inv W _ _).alloc _ | exact ((by assumption : Inv W _ _).alloc _).below hb1 | exact (by assumption : Inv W _ _).below hb1)) (fun hS1 => ?_))
          (apply lex_take (by rfl); (focus (intro w hw; (try dsimp only at hw); go_simp; (try with_reducible rfl); done)); simp only [Act.put, List.setIfInBounds_toArray, List.set_cons_zero, List.set_cons_succ])
          (apply lex_take (by rfl); (focus (intro w hw; (try dsimp only at hw); go_simp; (try with_reducible rfl); done)); simp only [Act.put, List.setIfInBounds_toArray, List.set_cons_zero, List.set_cons_succ])
          refine lex_nil (fun _ => wpAnyH_done (by kernel_rfl) ?_ _)
        rotate_left
        focus
          apply lex_act (by simp only [List.getElem?_toArray, List.getElem?_cons_succ, List.getElem?_cons_zero]; rfl) (by rfl)
          go_simp
          (first | (go_at_call 30; (first | (refine (load_calls [onlyR (a % 1048577)] _ _ _ ?_ (by simp)).mono ?_; focus (first | (refine (Reads.new ?_ ?_ rfl).drew <;> (simp; done)) | (refine ((((Reads.new (b := W.heap.size + 1 + 1) (B := W.heap.size + 1 + 1 + 1) ?_ ?_ rfl).alloc ?_ _).drew).more ?_) <;> (simp; done)) | (refine (((Reads.new ?_ ?_ rfl).drew).below hb1).more hb1.size <;> (simp; done)) | (refine (((((Reads.new (b := W.heap.size + 1 + 1) (B := W.heap.size + 1 + 1 + 1) ?_ ?_ rfl).alloc ?_ _).drew).more ?_).below hb1).more hb1.size <;> (simp; done)) | (refine Reads.new rfl ?_ rfl <;> (simp; done)))) | (refine (load_calls [onlyR (a % 1048577)] _ _ _ ?_ (by simp)).mono ?_; focus (first | (refine (Reads.new ?_ ?_ rfl).drew <;> (simp; done)) | (refine ((((Reads.new (b := W.heap.size + 1 + 1) (B := W.heap.size + 1 + 1 + 1) ?_ ?_ rfl).alloc ?_ _).drew).more ?_) <;> (simp; done)) | (refine (((Reads.new ?_ ?_ rfl).drew).below hb1).more hb1.size <;> (simp; done)) | (refine (((((Reads.new (b := W.heap.size + 1 + 1) (B := W.heap.size + 1 + 1 + 1) ?_ ?_ rfl).alloc ?_ _).drew).more ?_).below hb1).more hb1.size <;> (simp; done)) | (refine Reads.new rfl ?_ rfl <;> (simp; done))))); rintro e w1 ⟨rfl, hb1⟩) | skip)
          refine lex_both (by (first | assumption | exact hI.drew | exact (by assumption : Inv W _ _).alloc _ | exact ((by assumption : Inv W _ _).alloc _).below hb1 | exact (by assumption : Inv W _ _).below hb1)) (fun hS1 => ?_)
          refine lex_more 0 [(true, 2), (true, 5), (false, 6), (false, 7)] #[true, true, true, true, true, true, true, true] (by kernel_rfl) (by decide) (by kernel_rfl) (by kernel_rfl) (fun _ _ _ _ _ h => h) (by assumption) ?_
          simp only [List.map_cons, List.map_nil, List.getElem?_toArray, List.getElem?_cons_succ, List.getElem?_cons_zero]
          (refine lex_eff (by rfl) ?_; go_simp; (first | (go_at_call 30; (first | (refine (load_calls [onlyR (a % 1048577)] _ _ _ ?_ (by simp)).mono ?_; focus (first | (refine (Reads.new ?_ ?_ rfl).drew <;> (simp; done)) | (refine ((((Reads.new (b := W.heap.size + 1 + 1) (B := W.heap.size + 1 + 1 + 1) ?_ ?_ rfl).alloc ?_ _).drew).more ?_) <;> (simp; done)) | (refine (((Reads.new ?_ ?_ rfl).drew).below hb1).more hb1.size <;> (simp; done)) | (refine (((((Reads.new (b := W.heap.size + 1 + 1) (B := W.heap.size + 1 + 1 + 1) ?_ ?_ rfl).alloc ?_ _).drew).more ?_).below hb1).more hb1.size <;> (simp; done)) | (refine Reads.new rfl ?_ rfl <;> (simp; done)))) | (refine (load_calls [onlyR (a % 1048577)] _ _ _ ?_ (by simp)).mono ?_; focus (first | (refine (Reads.new ?_ ?_ rfl).drew <;> (simp; done)) | (refine ((((Reads.new (b := W.heap.size + 1 + 1) (B := W.heap.size + 1 + 1 + 1) ?_ ?_ rfl).alloc ?_ _).drew).more ?_) <;> (simp; done)) | (refine (((Reads.new ?_ ?_ rfl).drew).below hb1).more hb1.size <;> (simp; done)) | (refine (((((Reads.new (b := W.heap.size + 1 + 1) (B := W.heap.size + 1 + 1 + 1) ?_ ?_ rfl).alloc ?_ _).drew).more ?_).below hb1).more hb1.size <;> (simp; done)) | (refine Reads.new rfl ?_ rfl <;> (simp; done))))); rintro e w1 ⟨rfl, hb1⟩) | skip); refine lex_both (by (first | assumption | exact hI.drew | exact (by assumption : Inv W _ _).alloc _ | exact ((by assumption : Inv W _ _).alloc _).below hb1 | exact (by assumption : Inv W _ _).below hb1)) (fun hS1 => ?_))
          (refine lex_eff (by rfl) ?_; go_simp; (first | (go_at_call 30; (first | (refine (load_calls [onlyR (a % 1048577)] _ _ _ ?_ (by simp)).mono ?_; focus (first | (refine (Reads.new ?_ ?_ rfl).drew <;> (simp; done)) | (refine ((((Reads.new (b := W.heap.size + 1 + 1) (B := W.heap.size + 1 + 1 + 1) ?_ ?_ rfl).alloc ?_ _).drew).more ?_) <;> (simp; done)) | (refine (((Reads.new ?_ ?_ rfl).drew).below hb1).more hb1.size <;> (simp; done)) | (refine (((((Reads.new (b := W.heap.size + 1 + 1) (B := W.heap.size + 1 + 1 + 1) ?_ ?_ rfl).alloc ?_ _).drew).more ?_).below hb1).more hb1.size <;> (simp; done)) | (refine Reads.new rfl ?_ rfl <;> (simp; done)))) | (refine (load_calls [onlyR (a % 1048577)] _ _ _ ?_ (by simp)).mono ?_; focus (first | (refine (Reads.new ?_ ?_ rfl).drew <;> (simp; done)) | (refine ((((Reads.new (b := W.heap.size + 1 + 1) (B := W.heap.size + 1 + 1 + 1) ?_ ?_ rfl).alloc ?_ _).drew).more ?_) <;> (simp; done)) | (refine (((Reads.new ?_ ?_ rfl).drew).below hb1).more hb1.size <;> (simp; done)) | (refine (((((Reads.new (b := W.heap.size + 1 + 1) (B := W.heap.size + 1 + 1 + 1) ?_ ?_ rfl).alloc ?_ _).drew).more ?_).below hb1).more hb1.size <;> (simp; done)) | (refine Reads.new rfl ?_ rfl <;> (simp; done))))); rintro e w1 ⟨rfl, hb1⟩) | skip); refine lex_both (by (first | assumption | exact hI.drew | exact (by assumption : Inv W _ _).alloc _ | exact ((by assumption : Inv W _ _).alloc _).below hb1 | exact (by assumption : Inv W _ _).below hb1)) (fun hS1 => ?_))
          (apply lex_take (by rfl); (focus (intro w hw; (try dsimp only at hw); go_simp; (try with_reducible rfl); done)); simp only [Act.put, List.setIfInBounds_toArray, List.set_cons_zero, List.set_cons_succ])
          (apply lex_take (by rfl); (focus (intro w hw; (try dsimp only at hw); go_simp; (try with_reducible rfl); done)); simp only [Act.put, List.setIfInBounds_toArray, List.set_cons_zero, List.set_cons_succ])
          refine lex_nil (fun _ => wpAnyH_done (by kernel_rfl) ?_ _)
        rotate_left
      rotate_left 2
      focus
        apply lex_act (by simp only [List.getElem?_toArray, List.getElem?_cons_succ, List.getElem?_cons_zero]; rfl) (by rfl)
        go_simp
        (first | (go_at_call 30; (first | (refine (load_calls [onlyR (a % 1048577)] _ _ _ ?_ (by simp)).mono ?_; focus (first | (refine (Reads.new ?_ ?_ rfl).drew <;> (simp; done)) | (refine ((((Reads.new (b := W.heap.size + 1 + 1) (B := W.heap.size + 1 + 1 + 1) ?_ ?_ rfl).alloc ?_ _).drew).more ?_) <;> (simp; done)) | (refine (((Reads.new ?_ ?_ rfl).drew).below hb1).more hb1.size <;> (simp; done)) | (refine (((((Reads.new (b := W.heap.size + 1 + 1) (B := W.heap.size + 1 + 1 + 1) ?_ ?_ rfl).alloc ?_ _).drew).more ?_).below hb1).more hb1.size <;> (simp; done)) | (refine Reads.new rfl ?_ rfl <;> (simp; done)))) | (refine (load_calls [onlyR (a % 1048577)] _ _ _ ?_ (by simp)).mono ?_; focus (first | (refine (Reads.new ?_ ?_ rfl).drew <;> (simp; done)) | (refine ((((Reads.new (b := W.heap.size + 1 + 1) (B := W.heap.size + 1 + 1 + 1) ?_ ?_ rfl).alloc ?_ _).drew).more ?_) <;> (simp; done)) | (refine (((Reads.new ?_ ?_ rfl).drew).below hb1).more hb1.size <;> (simp; done)) | (refine (((((Reads.new (b := W.heap.size + 1 + 1) (B := W.heap.size + 1 + 1 + 1) ?_ ?_ rfl).alloc ?_ _).drew).more ?_).below hb1).more hb1.size <;> (simp; done)) | (refine Reads.new rfl ?_ rfl <;> (simp; done))))); rintro e w1 ⟨rfl, hb1⟩) | skip)
        refine lex_both (by (first | assumption | exact hI.drew | exact (by assumption : Inv W _ _).alloc _ | exact ((by assumption : Inv W _ _).alloc _).below hb1 | exact (by assumption : Inv W _ _).below hb1)) (fun hS1 => ?_)
        refine lex_more 0 [(true, 1), (true, 2), (true, 5), (false, 6), (false, 7)] #[true, true, true, true, true, true, true, true] (by kernel_rfl) (by decide) (by kernel_rfl) (by kernel_rfl) (fun _ _ _ _ _ h => h) (by assumption) ?_
        simp only [List.map_cons, List.map_nil, List.getElem?_toArray, List.getElem?_cons_succ, List.getElem?_cons_zero]
        (refine lex_eff (by rfl) ?_; go_simp; (first | (go_at_call 30; (first | (refine (load_calls [onlyR (a % 1048577)] _ _ _ ?_ (by simp)).mono ?_; focus (first | (refine (Reads.new ?_ ?_ rfl).drew <;> (simp; done)) | (refine ((((Reads.new (b := W.heap.size + 1 + 1) (B := W.heap.size + 1 + 1 + 1) ?_ ?_ rfl).alloc ?_ _).drew).more ?_) <;> (simp; done)) | (refine (((Reads.new ?_ ?_ rfl).drew).below hb1).more hb1.size <;> (simp; done)) | (refine (((((Reads.new (b := W.heap.size + 1 + 1) (B := W.heap.size + 1 + 1 + 1) ?_ ?_ rfl).alloc ?_ _).drew).more ?_).below hb1).more hb1.size <;> (simp; done)) | (refine Reads.new rfl ?_ rfl <;> (simp; done)))) | (refine (load_calls [onlyR (a % 1048577)] _ _ _ ?_ (by simp)).mono ?_; focus (first | (refine (Reads.new ?_ ?_ rfl).drew <;> (simp; done)) | (refine ((((Reads.new (b := W.heap.size + 1 + 1) (B := W.heap.size + 1 + 1 + 1) ?_ ?_ rfl).alloc ?_ _).drew).more ?_) <;> (simp; done)) | (refine (((Reads.new ?_ ?_ rfl).drew).below hb1).more hb1.size <;> (simp; done)) | (refine (((((Reads.new (b := W.heap.size + 1 + 1) (B := W.heap.size + 1 + 1 + 1) ?_ ?_ rfl).alloc ?_ _).drew).more ?_).below hb1).more hb1.size <;> (simp; done)) | (refine Reads.new rfl ?_ rfl <;> (simp; done))))); rintro e w1 ⟨rfl, hb1⟩) | skip); refine lex_both (by (first | assumption | exact hI.drew | exact (by assumption : Inv W _ _).alloc _ | exact ((by assumption : Inv W _ _).alloc _).below hb1 | exact (by assumption : Inv W _ _).below hb1)) (fun hS1 => ?_))
        (refine lex_eff (by rfl) ?_; go_simp; (first | (go_at_call 30; (first | (refine (load_calls [onlyR (a % 1048577)] _ _ _ ?_ (by simp)).mono ?_; focus (first | (refine (Reads.new ?_ ?_ rfl).drew <;> (simp; done)) | (refine ((((Reads.new (b := W.heap.size + 1 + 1) (B := W.heap.size + 1 + 1 + 1) ?_ ?_ rfl).alloc ?_ _).drew).more ?_) <;> (simp; done)) | (refine (((Reads.new ?_ ?_ rfl).drew).below hb1).more hb1.size <;> (simp; done)) | (refine (((((Reads.new (b := W.heap.size + 1 + 1) (B := W.heap.size + 1 + 1 + 1) ?_ ?_ rfl).alloc ?_ _).drew).more ?_).below hb1).more hb1.size <;> (simp; done)) | (refine Reads.new rfl ?_ rfl <;> (simp; done)))) | (refine (load_calls [onlyR (a % 1048577)] _ _ _ ?_ (by simp)).mono ?_; focus (first | (refine (Reads.new ?_ ?_ rfl).drew <;> (simp; done)) | (refine ((((Reads.new (b := W.heap.size + 1 + 1) (B := W.heap.size + 1 + 1 + 1) ?_ ?_ rfl).alloc ?_ _).drew).more ?_) <;> (simp; done)) | (refine (((Reads.new ?_ ?_ rfl).drew).below hb1).more hb1.size <;> (simp; done)) | (refine (((((Reads.new (b := W.heap.size + 1 + 1) (B := W.heap.size + 1 + 1 + 1) ?_ ?_ rfl).alloc ?_ _).drew).more ?_).below hb1).more hb1.size <;> (simp; done)) | (refine Reads.new rfl ?_ rfl <;> (simp; done))))); rintro e w1 ⟨rfl, hb1⟩) | skip); refine lex_both (by (first | assumption | exact hI.drew | exact (by assumption : Inv W _ _).alloc _ | exact ((by assumption : Inv W _ _).alloc _).below hb1 | exact (by assumption : Inv W _ _).below hb1)) (fun hS1 => ?_))
        (refine lex_eff (by rfl) ?_; go_simp; (first | (go_at_call 30; (first | (refine (load_calls [onlyR (a % 1048577)] _ _ _ ?_ (by simp)).mono ?_; focus (first | (refine (Reads.new ?_ ?_ rfl).drew <;> (simp; done)) | (refine ((((Reads.new (b := W.heap.size + 1 + 1) (B := W.heap.size + 1 + 1 + 1) ?_ ?_ rfl).alloc ?_ _).drew).more ?_) <;> (simp; done)) | (refine (((Reads.new ?_ ?_ rfl).drew).below hb1).more hb1.size <;> (simp; done)) | (refine (((((Reads.new (b := W.heap.size + 1 + 1) (B := W.heap.size + 1 + 1 + 1) ?_ ?_ rfl).alloc ?_ _).drew).more ?_).below hb1).more hb1.size <;> (simp; done)) | (refine Reads.new rfl ?_ rfl <;> (simp; done)))) | (refine (load_calls [onlyR (a % 1048577)] _ _ _ ?_ (by simp)).mono ?_; focus (first | (refine (Reads.new ?_ ?_ rfl).drew <;> (simp; done)) | (refine ((((Reads.new (b := W.heap.size + 1 + 1) (B := W.heap.size + 1 + 1 + 1) ?_ ?_ rfl).alloc ?_ _).drew).more ?_) <;> (simp; done)) | (refine (((Reads.new ?_ ?_ rfl).drew).below hb1).more hb1.size <;> (simp; done)) | (refine (((((Reads.new (b := W.heap.size + 1 + 1) (B := W.heap.size + 1 + 1 + 1) ?_ ?_ rfl).alloc ?_ _).drew).more ?_).below hb1).more hb1.size <;> (simp; done)) | (refine Reads.new rfl ?_ rfl <;> (simp; done))))); rintro e w1 ⟨rfl, hb1⟩) | skip); refine lex_both (by (first | assumption | exact hI.drew | exact (by assumption : Inv W _ _).alloc _ | exact ((by assumption : Inv W _ _).alloc _).below hb1 | exact (by assumption : Inv W _ _).below hb1)) (fun hS1 => ?_))
        (apply lex_take (by rfl); (focus (intro w hw; (try dsimp only at hw); go_simp; (try with_reducible rfl); done)); simp only [Act.put, List.setIfInBounds_toArray, List.set_cons_zero, List.set_cons_succ])
        (apply lex_take (by rfl); (focus (intro w hw; (try dsimp only at hw); go_simp; (try with_reducible rfl); done)); simp only [Act.put, List.setIfInBounds_toArray, List.set_cons_zero, List.set_cons_succ])
        refine lex_nil (fun _ => wpAnyH_done (by kernel_rfl) ?_ _)
      rotate_left
      all_goals
        have I1 : Inv W [(W.heap.size, 33, #[.int .i64 (a % 1048577), .int .i64 1, .int .i64 0, .int .i64 0]), (W.heap.size + 1, 33, #[.int .i64 (a % 1048577), .int .i64 1, .int .i64 0, .int .i64 0])] w1 := by assumption
        have ew1 : ∃ w : World, w = w1 := ⟨_, rfl⟩
        clear ew1
        go_wp2_with fail
        refine (load_calls [] _ _ _ Reads.none_ (by simp)).mono ?_
        rintro e w2 ⟨rfl, hb2⟩
        have I2 := I1.below hb2
        have l0 : (load [] != 0) = false := by decide
        have pqn : decide (load [onlyR (a % 1048577)] < load [onlyR (a % 1048577)]) = false := decide_eq_false (by omega)
        go_wp2_with fail
        refine (admits_calls _ [onlyR (a % 1048577)] _ _ _ (by exact Reads.new rfl (by simp) rfl)).mono ?_
        rintro e w3 ⟨rfl, hb3⟩
        have I3 := (I2.alloc _).below hb3
        rcases Bool.eq_false_or_eq_true (admits (1 + n % 64) [onlyR (a % 1048577)]) with had | had
        · have adx := adl had
          have adr := ado had
          clear adl ado
          go_wp2_with fail
          refine (admits_calls _ [onlyR (a % 1048577)] _ _ _ (by exact Reads.new rfl (by simp) rfl)).mono ?_
          rintro e w4 ⟨rfl, hb4⟩
          have I4 := (I3.alloc _).below hb4
          go_wp2_with fail
          refine (awake10_calls _).mono ?_
          rintro e w5 ⟨rfl, hb5⟩
          have I5 := I4.below hb5
          go_wp2
          go_ret
          exact ⟨rfl, I5.base⟩
        · go_wp2_with fail
          refine (awake10_calls _).mono ?_
          rintro e w5 ⟨rfl, hb5⟩
          have I5 := I3.below hb5
          go_wp2
          go_ret
          exact ⟨rfl, I5.base⟩
end Go.Proofs.Ytpjckplokolcnaa
