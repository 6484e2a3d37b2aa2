/- The reservation, plainly: a potential. -/
import Derived.Test.YtjdkafamaoeifaaFlows
namespace Go.Proofs.Ytjdkafamaoeifaa
open Go.RowKit Go.Proofs
set_option linter.unusedVariables false
set_option linter.unusedSimpArgs false

def sumN (f : Nat → Int) : Nat → Int
  | 0 => 0
  | n + 1 => sumN f n + f n
theorem sumN_congr {f g : Nat → Int} {n : Nat} (h : ∀ i, i < n → f i = g i) : sumN f n = sumN g n := by
  induction n with
  | zero => rfl
  | succ n ih => simp only [sumN]; rw [ih (fun i hi => h i (by omega)), h n (by omega)]
theorem sumN_up {f g : Nat → Int} {i n : Nat} (hi : i < n) (h : ∀ j, j < n → j ≠ i → g j = f j) : sumN g n = sumN f n - f i + g i := by
  induction n with
  | zero => omega
  | succ n ih =>
    simp only [sumN]
    by_cases e : i = n
    · subst e
      rw [sumN_congr (f := g) (g := f) (n := i) (fun j hj => h j (by omega) (by omega))]
      omega
    · rw [ih (by omega) (fun j hj hji => h j (by omega) hji), h n (by omega) (fun e2 => e e2.symm)]
      omega
theorem sumN_add (f g : Nat → Int) (n : Nat) : sumN (fun i => f i + g i) n = sumN f n + sumN g n := by
  induction n with
  | zero => rfl
  | succ n ih => simp only [sumN]; rw [ih]; omega
theorem sumN_mul (f : Nat → Int) (c : Int) (n : Nat) : sumN (fun i => f i * c) n = sumN f n * c := by
  induction n with
  | zero => simp [sumN]
  | succ n ih => simp only [sumN]; rw [ih, Int.add_mul]
theorem sumN_low {f : Nat → Int} {B : Int} {n : Nat} (h : ∀ i, i < n → -B ≤ f i) : -((n : Int) * B) ≤ sumN f n := by
  induction n with
  | zero => simp [sumN]
  | succ n ih =>
    have h1 := ih fun i hi => h i (by omega)
    have h2 := h n (by omega)
    simp only [sumN]
    rw [show ((n + 1 : Nat) : Int) = (n : Int) + 1 by omega, Int.add_mul, Int.one_mul]
    omega
theorem sumN_one {f : Nat → Int} {B : Int} {j n : Nat} (hB : 0 ≤ B) (hj : j < n) (h : ∀ i, i < n → -B ≤ f i) : f j ≤ sumN f n + ((n : Int) - 1) * B := by
  have h1 : sumN (fun i => if i = j then 0 else f i) n = sumN f n - f j + 0 := by
    have := sumN_up (f := f) (g := fun i => if i = j then 0 else f i) hj (fun i _ e => by simp [e])
    simpa using this
  have h2 : ∀ (n : Nat), j < n → (∀ i, i < n → -B ≤ f i) → -(((n : Int) - 1) * B) ≤ sumN (fun i => if i = j then 0 else f i) n := by
    intro n
    induction n with
    | zero => intro h; omega
    | succ n ih =>
      intro hn hf
      simp only [sumN]
      rw [show (((n + 1 : Nat) : Int) - 1) = (n : Int) by omega]
      by_cases e : n = j
      · subst e
        rw [if_pos rfl, sumN_congr (g := f) (fun i hi => by simp [show i ≠ n by omega])]
        have := sumN_low (fun i hi => hf i (by omega) : ∀ i, i < n → -B ≤ f i)
        omega
      · rw [if_neg e]
        have h3 := ih (by omega) (fun i hi => hf i (by omega))
        have h4 := hf n (by omega)
        have h5 : (n : Int) * B = ((n : Int) - 1) * B + B := by rw [Int.sub_mul]; omega
        omega
  have := h2 n hj h
  omega
def sp (pl : List Pol) (j : Nat) : Int := space (pg pl j).r
def shr (pl : List Pol) (j : Nat) : Int := share (sp pl j)
theorem load_take_sum (pl : List Pol) (k : Nat) (h : k ≤ pl.length) : load (pl.take k) = sumN (shr pl) k := by
  induction k with
  | zero => simp [load, sumN]
  | succ k ih => rw [load_step pl k (by omega), ih (by omega)]; simp only [sumN, shr, sp]; rw [pg_get (by omega)]
theorem load_sum (pl : List Pol) : load pl = sumN (shr pl) pl.length := by
  have := load_take_sum pl pl.length (Nat.le_refl _)
  rwa [List.take_length] at this
theorem share_mul {s : Int} (h : 1 ≤ s) : 1099511627776 ≤ share s * s ∧ share s * s ≤ 1099511627776 + s := by
  obtain ⟨m1, m2, m3⟩ := div_mul_facts (M := 1099511627776) (r := s) (by omega)
  unfold share
  rw [if_neg (by omega)]
  rw [m3, Int.add_mul]
  by_cases e : 1099511627776 - 1099511627776 / s * s = 0
  · rw [e, show min (0 : Int) 1 = 0 from rfl, Int.zero_mul]
    omega
  · rw [show min (1099511627776 - 1099511627776 / s * s) 1 = 1 by omega]
    omega
theorem space_bd (r : Int) : 0 ≤ space r ∧ space r ≤ 65536000 := by
  cases h : isRate r with
  | false => simp [space, h]
  | true => have := space_pos h; simp [space, h]; omega
theorem space_zero {r : Int} (h : r ≤ 0) : space r = 0 := by
  have : isRate r = false := by simp [isRate]; omega
  simp [space, this]
theorem space_some {r : Int} (h : 1 ≤ r) (h2 : r ≤ 1048576) : 1 ≤ space r := by
  have : isRate r = true := by simp [isRate]; omega
  have := space_pos this
  simp [space, *]
theorem share_mul_bd {s : Int} (h0 : 0 ≤ s) (h1 : s ≤ 65536000) : share s * s ≤ 1099577163776 := by
  by_cases h : 1 ≤ s
  · have := share_mul h; omega
  · have : s = 0 := by omega
    subst this
    decide
def phi (pl : List Pol) (C : Nat → Clk) (T : Int) : Int := sumN (fun j => shr pl j * (T - (C j).r)) pl.length
/-- the reservation's clocks at the tag T behind k picks -/
structure Res (pl : List Pol) (n : Int) (C : Nat → Clk) (T k : Int) : Prop where
  lo : ∀ j, j < pl.length → 0 ≤ (C j).r ∧ (C j).r ≤ T + sp pl j
  pot : phi pl C T ≤ (n - k) * 1099511627776 ∨ ∀ j, j < pl.length → 0 < (pg pl j).r → T < (C j).r
theorem Res.start {pl : List Pol} {n : Int} {C : Nat → Clk} (h : ∀ j, j < pl.length → (C j).r = 0) : Res pl n C 0 n := by
  refine ⟨fun j hj => ?_, Or.inl ?_⟩
  · rw [h j hj]
    have := space_bd (pg pl j).r
    unfold sp
    omega
  · have : phi pl C 0 = sumN (fun j => shr pl j * 0) pl.length := sumN_congr fun j hj => by rw [h j hj]; simp
    rw [this, sumN_mul (shr pl) 0]
    omega
theorem Res.done {pl : List Pol} {n : Int} {C : Nat → Clk} {T k : Int} (h : Res pl n C T k) (hk : n ≤ k) : phi pl C T ≤ 0 := by
  rcases h.pot with h1 | h1
  · have : (n - k) * 1099511627776 ≤ 0 := by omega
    omega
  · have h2 : ∀ (m : Nat), m ≤ pl.length → sumN (fun j => shr pl j * (T - (C j).r)) m ≤ 0 := by
      intro m
      induction m with
      | zero => intro _; exact Int.le_refl _
      | succ m ih =>
        intro hm
        have h3 := ih (by omega)
        simp only [sumN]
        have h4 : shr pl m * (T - (C m).r) ≤ 0 := by
          by_cases hr : 0 < (pg pl m).r
          · have h5 := h1 m (by omega) hr
            exact Int.mul_nonpos_of_nonneg_of_nonpos (share_bd _).1 (by omega)
          · have : shr pl m = 0 := by
              unfold shr sp
              rw [space_zero (by omega)]
              rfl
            rw [this]
            simp
        omega
    exact h2 _ (Nat.le_refl _)
theorem Res.next {pl : List Pol} {n : Int} {C : Nat → Clk} {T k : Int} (h : Res pl n C T k) (hk : n ≤ k) (hl : load pl ≤ n * 16777216) : Res pl n C (T + 65536) 0 := by
  refine ⟨fun j hj => by have := h.lo j hj; omega, Or.inl ?_⟩
  have h1 := h.done hk
  have h2 : phi pl C (T + 65536) = phi pl C T + load pl * 65536 := by
    rw [load_sum, ← sumN_mul (shr pl) 65536, phi, phi, ← sumN_add]
    refine sumN_congr fun j hj => ?_
    rw [← Int.mul_add]
    congr 1
    omega
  rw [h2]
  omega
theorem Res.more {pl : List Pol} {n : Int} {C : Nat → Clk} {T k : Int} (h : Res pl n C T k) (hk : n ≤ k) : Res pl n C T n :=
  ⟨h.lo, Or.inl (by have := h.done hk; omega)⟩
theorem Res.low {pl : List Pol} {n : Int} {C : Nat → Clk} {T k : Int} (h : Res pl n C T k) (hk : n ≤ k) {j : Nat} (hj : j < pl.length) (hr : 1 ≤ (pg pl j).r) (hr2 : (pg pl j).r ≤ 1048576) (hm : pl.length ≤ 6) : T - pl.length * sp pl j ≤ (C j).r := by
  have h1 := h.done hk
  have hs := space_some hr hr2
  have hs2 := space_bd (pg pl j).r
  have h2 := sumN_one (f := fun j => shr pl j * (T - (C j).r)) (B := 1099577163776) (j := j) (n := pl.length) (by decide) hj (fun i hi => by
    have hl := h.lo i hi
    have hsb := space_bd (pg pl i).r
    have h3 := share_mul_bd hsb.1 hsb.2
    have h4 : shr pl i * (-(sp pl i)) ≤ shr pl i * (T - (C i).r) := Int.mul_le_mul_of_nonneg_left (by omega) (share_bd _).1
    rw [Int.mul_neg] at h4
    have h5 : shr pl i * sp pl i ≤ 1099577163776 := h3
    omega)
  have h6 : shr pl j * (T - (C j).r) ≤ ((pl.length : Int) - 1) * 1099577163776 := by
    have : sumN (fun j => shr pl j * (T - (C j).r)) pl.length ≤ 0 := h1
    exact Int.le_trans h2 (by omega)
  obtain ⟨h7, _⟩ := share_mul hs
  by_cases hc : T - pl.length * sp pl j ≤ (C j).r
  · exact hc
  · exfalso
    have h8 : shr pl j * (pl.length * sp pl j) ≤ shr pl j * (T - (C j).r) := Int.mul_le_mul_of_nonneg_left (by omega) (share_bd _).1
    have h9 : shr pl j * (pl.length * sp pl j) = pl.length * (shr pl j * sp pl j) := by
      rw [← Int.mul_assoc, Int.mul_comm (shr pl j) pl.length, Int.mul_assoc]
    have h10 : (pl.length : Int) * 1099511627776 ≤ pl.length * (shr pl j * sp pl j) := Int.mul_le_mul_of_nonneg_left h7 (by omega)
    omega
theorem tags_bd {T : Int} (h : T ≤ 1000000000) {x : Int} (hx : x ≤ T + 65536000) : x ≤ 2000000000 := by omega
/-- one pick, without limits -/
theorem Res.pick {pl : List Pol} {n : Int} {C : Nat → Clk} {Q : Nat → List It} {T k phase : Int} {i : Nat} {delta rho : Int} (h : Res pl n C T k) (hT : T ≤ 1000000000) (hi : i < pl.length) (hp : Picks (XL (pg pl) C Q pl.length) T i phase)
    (hd : delta = 0) (hrho : rho = 0) (hq : ∀ j, j < pl.length → Q j ≠ []) (hr : ∀ j, j < pl.length → right (pg pl j).r (pg pl j).w (pg pl j).l (pg pl j).b = true) (hl : ∀ j, j < pl.length → (pg pl j).l = 0) :
    Res pl n (upW C i (charge (pg pl i) (C i) T phase delta rho)) T (k + 1) ∧ (charge (pg pl i) (C i) T phase delta rho).r ≤ (C i).r + sp pl i ∧ (C i).r ≤ (charge (pg pl i) (C i) T phase delta rho).r := by
  subst hd hrho
  have hph : phase = 1 ∨ phase = 2 := by rcases hp with ⟨h, _⟩ | ⟨h, _⟩ <;> omega
  have hlo := h.lo i hi
  have hsb := space_bd (pg pl i).r
  have hspi : sp pl i = space (pg pl i).r := rfl
  have hch : ∀ ph : Int, phase = ph → (charge (pg pl i) (C i) T phase 0 0).r = (C i).r + (if ph = 1 then sp pl i else 0) := by
    rintro ph rfl
    rw [charge_free (hr i hi) hph (by rw [hl i hi]; omega)]
    dsimp only
    rw [done_zero, Int.add_zero]
    rcases hph with rfl | rfl
    · rw [if_pos rfl, if_pos rfl, times_one hsb.1 (by omega), add_plain (by omega) hsb.1 (by omega), hspi]
    · rw [if_neg (by decide), if_neg (by decide), times_zero, add_plain (by omega) (by decide) (by omega)]
  rcases hp with ⟨rfl, hi', hu, hm, _⟩ | ⟨rfl, hno, _⟩
  · have e := hch 1 rfl
    rw [if_pos rfl] at e
    rw [XL_get] at hm
    have hm2 : 0 < (pg pl i).r ∧ (C i).r ≤ T := by
      simp only [mayR, byReserve, fL, Bool.and_eq_true, decide_eq_true_eq] at hm
      exact ⟨of_decide_eq_true hm.1.2, of_decide_eq_true hm.2⟩
    refine ⟨⟨fun j hj => ?_, ?_⟩, by omega, by omega⟩
    · by_cases ej : j = i
      · subst ej
        rw [upW_same]
        omega
      · rw [upW_other ej]; exact h.lo j hj
    · have hs := space_some (r := (pg pl i).r) (by omega) (by have := right_iff.1 (hr i hi); omega)
      obtain ⟨h7, _⟩ := share_mul hs
      have h8 : phi pl (upW C i (charge (pg pl i) (C i) T 1 0 0)) T = phi pl C T - shr pl i * (T - (C i).r) + shr pl i * (T - ((C i).r + sp pl i)) := by
        have := sumN_up (f := fun j => shr pl j * (T - (C j).r)) (g := fun j => shr pl j * (T - (upW C i (charge (pg pl i) (C i) T 1 0 0) j).r)) hi (fun j _ e => by simp [upW_other e])
        unfold phi
        rw [this]
        simp only [upW_same]
        rw [e]
      have h9 : shr pl i * (T - ((C i).r + sp pl i)) = shr pl i * (T - (C i).r) - shr pl i * sp pl i := by
        rw [← Int.mul_sub]; congr 1; omega
      have h10 : 1099511627776 ≤ shr pl i * sp pl i := h7
      rcases h.pot with hp | hp
      · refine Or.inl ?_
        rw [show (n - (k + 1)) * 1099511627776 = (n - k) * 1099511627776 - 1099511627776 by omega]
        omega
      · exact absurd (hp i hi hm2.1) (by omega)
  · have e := hch 2 rfl
    rw [if_neg (by decide), Int.add_zero] at e
    refine ⟨⟨fun j hj => ?_, Or.inr fun j hj hrj => ?_⟩, by omega, by omega⟩
    · by_cases ej : j = i
      · subst ej
        rw [upW_same, e]
        exact h.lo j hj
      · rw [upW_other ej]; exact h.lo j hj
    · have hC : (upW C i (charge (pg pl i) (C i) T 2 0 0) j).r = (C j).r := by
        by_cases ej : j = i
        · subst ej; rw [upW_same, e]
        · rw [upW_other ej]
      rw [hC]
      have hf := hno (fL (pg pl) C Q j) (by unfold XL; exact List.mem_map.2 ⟨j, by simpa using hj, rfl⟩) (by
        have := hq j hj
        cases hqj : Q j with
        | nil => exact absurd hqj this
        | cons a b => simp [up, fL, hqj])
      have hll := hl j hj
      simp only [mayR, byReserve, byLimit, fL, hr j hj, Bool.true_and, Bool.and_eq_false_iff, Bool.or_eq_false_iff] at hf
      rcases hf with (⟨hf, _⟩ | hf) | hf
      · exact absurd hll (of_decide_eq_false hf)
      · exact absurd hrj (of_decide_eq_false hf)
      · have := of_decide_eq_false hf
        omega
/-- not one is picked: then there is none -/
theorem none_up {pl : List Pol} {C : Nat → Clk} {Q : Nat → List It} {T : Int} (hn : ∀ f ∈ XL (pg pl) C Q pl.length, up f = true → mayL T f = false) (hq : ∀ j, j < pl.length → Q j ≠ []) (hr : ∀ j, j < pl.length → right (pg pl j).r (pg pl j).w (pg pl j).l (pg pl j).b = true) (hl : ∀ j, j < pl.length → (pg pl j).l = 0) : pl.length = 0 := by
  by_cases h : pl.length = 0
  · exact h
  · exfalso
    have hj : 0 < pl.length := by omega
    have := hn (fL (pg pl) C Q 0) (by unfold XL; exact List.mem_map.2 ⟨0, by simpa using hj, rfl⟩) (by
      have := hq 0 hj
      cases hqj : Q 0 with
      | nil => exact absurd hqj this
      | cons a b => simp [up, fL, hqj])
    simp only [mayL, byLimit, fL, hr 0 hj, Bool.true_and, Bool.or_eq_false_iff] at this
    exact of_decide_eq_false this.1 (hl 0 hj)
/-- counts: cnt now, at a's end 'rows a', for all a below t -/
structure Cnt (pl : List Pol) (C : Nat → Clk) (cnt : Nat → Int) (rows : Nat → Nat → Int) (t : Nat) : Prop where
  d : ∀ a, a < t → ∀ j, j < pl.length → rows a j * sp pl j + (C j).r ≤ 65536 * a + sp pl j + cnt j * sp pl j
theorem Cnt.pick {pl : List Pol} {C : Nat → Clk} {cnt : Nat → Int} {rows : Nat → Nat → Int} {t i : Nat} {c : Clk} (h : Cnt pl C cnt rows t) (hc : c.r ≤ (C i).r + sp pl i) : Cnt pl (upW C i c) (upW cnt i (cnt i + 1)) rows t := by
  refine ⟨fun a ha j hj => ?_⟩
  have := h.d a ha j hj
  by_cases e : j = i
  · subst e
    rw [upW_same, upW_same, Int.add_mul]
    omega
  · rw [upW_other e, upW_other e]
    exact this
theorem Cnt.row {pl : List Pol} {n T k : Int} {C : Nat → Clk} {cnt : Nat → Int} {rows : Nat → Nat → Int} {t : Nat} (h : Cnt pl C cnt rows t) (hr : Res pl n C T k) (hT : T = 65536 * t) : Cnt pl C cnt (upW rows t cnt) (t + 1) := by
  refine ⟨fun a ha j hj => ?_⟩
  by_cases e : a = t
  · subst e
    rw [upW_same]
    have := hr.lo j hj
    omega
  · rw [upW_other e]
    exact h.d a (by omega) j hj
/-- what the law asks -/
theorem Cnt.ok {pl : List Pol} {n T k : Int} {C : Nat → Clk} {cnt : Nat → Int} {rows : Nat → Nat → Int} {t b : Nat} (h : Cnt pl C cnt rows b) (hr : Res pl n C T k) (hk : n ≤ k) (hT : T = 65536 * t) (hm : pl.length ≤ 6) {a j : Nat} (ha : a < b) (hj : j < pl.length) (hr1 : 1 ≤ (pg pl j).r) (hr2 : (pg pl j).r ≤ 1048576) :
    65536 * ((t : Int) - a) / sp pl j ≤ cnt j - rows a j + pl.length + 1 := by
  have h1 := h.d a ha j hj
  have h2 := hr.low hk hj hr1 hr2 hm
  have hs : 1 ≤ sp pl j := space_some hr1 hr2
  have h3 : 65536 * ((t : Int) - a) < (cnt j - rows a j + pl.length + 1 + 1) * sp pl j := by
    rw [show cnt j - rows a j + (pl.length : Int) + 1 + 1 = cnt j + (pl.length + 2 - rows a j) by omega, Int.add_mul, Int.sub_mul, Int.add_mul]
    omega
  have := (Int.ediv_lt_iff_lt_mul (by omega : 0 < sp pl j)).2 h3
  omega
end Go.Proofs.Ytjdkafamaoeifaa
