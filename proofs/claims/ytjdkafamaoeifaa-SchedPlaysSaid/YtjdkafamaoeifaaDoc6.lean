/- The document of layer 12: Pick. -/
import Derived.Test.YtjdkafamaoeifaaDoc5
import Derived.Test.YtjdkafamaoeifaaReg3
namespace Go.Proofs.Ytjdkafamaoeifaa
open Go.RowKit Go.Proofs Go.Maps
set_option linter.unusedVariables false
set_option linter.unusedSimpArgs false

/-- the first of the least ones among flows ahead of k; -1: there is none -/
def FB (D : List Dl) (key : Fl → Int) (may : Fl → Bool) (k : Nat) (z : Int) : Prop :=
  (z = -1 ∧ ∀ j, ∀ hj : j < D.length, j < k → ¬ (up D[j].f = true ∧ may D[j].f = true)) ∨
  ∃ a, ∃ ha : a < D.length, a < k ∧ z = (a : Int) ∧ up D[a].f = true ∧ may D[a].f = true ∧ ∀ j, ∀ hj : j < D.length, j < k → up D[j].f = true → may D[j].f = true → key D[a].f < key D[j].f ∨ (key D[a].f = key D[j].f ∧ a ≤ j)
section
variable {D : List Dl} {key : Fl → Int} {may : Fl → Bool} {k : Nat} {z : Int}
theorem FB.start : FB D key may 0 (-1) := Or.inl ⟨rfl, fun j _ h => absurd h (by omega)⟩
theorem FB.skip (h : FB D key may k z) (hk : k < D.length) (hn : ¬ (up D[k].f = true ∧ may D[k].f = true)) : FB D key may (k + 1) z := by
  rcases h with ⟨h1, h2⟩ | ⟨a, ha, h1, h2, h3, h4, h5⟩
  · refine Or.inl ⟨h1, fun j hj hjk => ?_⟩
    by_cases e : j = k
    · subst e; exact hn
    · exact h2 j hj (by omega)
  · refine Or.inr ⟨a, ha, by omega, h2, h3, h4, fun j hj hjk hu hm => ?_⟩
    by_cases e : j = k
    · subst e; exact absurd ⟨hu, hm⟩ hn
    · exact h5 j hj (by omega) hu hm
theorem FB.first (h : FB D key may k (-1)) (hk : k < D.length) (hu : up D[k].f = true) (hm : may D[k].f = true) : FB D key may (k + 1) (k : Int) := by
  rcases h with ⟨_, h2⟩ | ⟨a, ha, h1, h2, _⟩
  · refine Or.inr ⟨k, hk, by omega, rfl, hu, hm, fun j hj hjk hu2 hm2 => ?_⟩
    by_cases e : j = k
    · subst e; exact Or.inr ⟨rfl, Nat.le_refl _⟩
    · exact absurd ⟨hu2, hm2⟩ (h2 j hj (by omega))
  · omega
theorem FB.less {a : Nat} (h : FB D key may k (a : Int)) (ha : a < D.length) (hk : k < D.length) (hu : up D[k].f = true) (hm : may D[k].f = true) (hl : key D[k].f < key D[a].f) : FB D key may (k + 1) (k : Int) := by
  rcases h with ⟨h1, _⟩ | ⟨a', ha', h1, h2, h3, h4, h5⟩
  · omega
  · have e : a = a' := by omega
    subst e
    refine Or.inr ⟨k, hk, by omega, rfl, hu, hm, fun j hj hjk hu2 hm2 => ?_⟩
    by_cases e : j = k
    · subst e; exact Or.inr ⟨rfl, Nat.le_refl _⟩
    · rcases h5 j hj (by omega) hu2 hm2 with h | h
      · exact Or.inl (by omega)
      · exact Or.inl (by omega)
theorem FB.keep {a : Nat} (h : FB D key may k (a : Int)) (ha : a < D.length) (hk : k < D.length) (hl : ¬ key D[k].f < key D[a].f) : FB D key may (k + 1) (a : Int) := by
  rcases h with ⟨h1, _⟩ | ⟨a', ha', h1, h2, h3, h4, h5⟩
  · omega
  · have e : a = a' := by omega
    subst e
    refine Or.inr ⟨a, ha, by omega, rfl, h3, h4, fun j hj hjk hu2 hm2 => ?_⟩
    by_cases e : j = k
    · subst e
      by_cases e2 : key D[a].f = key D[j].f
      · exact Or.inr ⟨e2, by omega⟩
      · exact Or.inl (by omega)
    · exact h5 j hj (by omega) hu2 hm2
theorem FB.is (h : FB D key may k z) : z = -1 ∨ ∃ a, ∃ ha : a < D.length, z = (a : Int) := by
  rcases h with ⟨h1, _⟩ | ⟨a, ha, _, h2, _⟩
  · exact Or.inl h1
  · exact Or.inr ⟨a, ha, h2⟩
end
def pR (f : Fl) : Int := f.c.r
def pP (f : Fl) : Int := f.c.p
def pmR (tag : Int) (f : Fl) : Bool := byReserve f.p f.c tag
def pmL (tag : Int) (f : Fl) : Bool := byLimit f.p f.c tag
/-- who is picked by the document -/
def Pk12 (D : List Dl) (tag : Int) (a : Nat) (ph : Int) : Prop := (ph = 1 ∧ FB D pR (pmR tag) D.length (a : Int)) ∨ (ph = 2 ∧ FB D pR (pmR tag) D.length (-1) ∧ FB D pP (pmL tag) D.length (a : Int))
def Pick12 (w : World) (G : List Nat) (A : Option Addr) (n c : Nat) (D : List Dl) (tag : Int) (e : Ending) (w' : World) : Prop :=
  (FB D pR (pmR tag) D.length (-1) ∧ FB D pP (pmL tag) D.length (-1) ∧ e = .returned (.agg #[.slice A n c, .int .i64 0, .int .i64 0, .int .i64 0, .int .i64 0, .int .i64 0]) ∧ Below w.heap.size w w') ∨
  ∃ a, ∃ ha : a < D.length, ∃ (ph : Int) (x : It) (rest : List It), Pk12 D tag a ph ∧ D[a].f.q = x :: rest ∧ ∃ v A' c', e = .returned (.agg #[v, .int .i64 D[a].f.id, .int .i64 x.name, .int .i64 x.delta, .int .i64 x.rho, .int .i64 ph]) ∧
    DocOut w G n (D.set a ⟨⟨D[a].f.id, D[a].f.ver, D[a].f.p, charge D[a].f.p D[a].f.c tag ph x.delta x.rho, rest⟩, A', c'⟩) v w'
theorem DocOut.low {w w' : World} {G : List Nat} {n : Nat} {D : List Dl} {v : Value} (h : DocOut w G n D v w') : Below w.heap.size w w' := by
  obtain ⟨_, _, _, _, _, _, _, hb⟩ := h
  exact hb
theorem Doc.six {w : World} {G : List Nat} {v : Value} {D : List Dl} {b : Nat} (h : Doc w G v D) (hb : b ∉ G) (u0 u1 u2 u3 u4 u5 : Value) :
    Doc ((((((w.setCell ⟨b, 0, none⟩ u0).setCell ⟨b, 1, none⟩ u1).setCell ⟨b, 2, none⟩ u2).setCell ⟨b, 3, none⟩ u3).setCell ⟨b, 4, none⟩ u4).setCell ⟨b, 5, none⟩ u5) G v D :=
  h.chg (H := [b]) ((((((((Chg.refl [b] w).setCell (Or.inl (by simp)) _).setCell (Or.inl (by simp)) _).setCell (Or.inl (by simp)) _).setCell (Or.inl (by simp)) _).setCell (Or.inl (by simp)) _).setCell (Or.inl (by simp)) _)) (fun z hz hm => hb (by rw [← List.mem_singleton.1 hm]; exact hz))
theorem below_six {n : Nat} {w w' : World} {b : Nat} (h : Below n w w') (hb : n ≤ b) (u0 u1 u2 u3 u4 u5 : Value) :
    Below n w ((((((w'.setCell ⟨b, 0, none⟩ u0).setCell ⟨b, 1, none⟩ u1).setCell ⟨b, 2, none⟩ u2).setCell ⟨b, 3, none⟩ u3).setCell ⟨b, 4, none⟩ u4).setCell ⟨b, 5, none⟩ u5) :=
  (((((h.setCell (p := ⟨b, 0, none⟩) hb _).setCell (p := ⟨b, 1, none⟩) hb _).setCell (p := ⟨b, 2, none⟩) hb _).setCell (p := ⟨b, 3, none⟩) hb _).setCell (p := ⟨b, 4, none⟩) hb _).setCell (p := ⟨b, 5, none⟩) hb _
set_option maxHeartbeats 4000000 in
set_option maxRecDepth 100000 in
theorem pick12_calls {w : World} {G : List Nat} {A : Option Addr} {n c : Nat} {D : List Dl} (now : Int) (h : Doc w G (.slice A n c) D) (hn : D.length = n) (hnn : n ≤ 1000000) (hck : ∀ d ∈ D, 0 ≤ d.f.c.l ∧ d.f.c.l ≤ 2305843009213693952) :
    Calls Try.prog 26 #[.slice A n c, .int .i64 now] w (Pick12 w G A n c D (at_ now)) := by
  subst hn
  have HCK := hide hck
  clear hck
  have HD := hide h
  have hb0 : Below w.heap.size w (w.alloc (.cells #[.slice none 0 0, .int .i64 0, .int .i64 0, .int .i64 0, .int .i64 0, .int .i64 0] 69)) := (Below.refl _ _).alloc (Nat.le_refl _) _
  obtain ⟨v, hv⟩ : ∃ v, w.alloc (.cells #[.slice none 0 0, .int .i64 0, .int .i64 0, .int .i64 0, .int .i64 0, .int .i64 0] 69) = v := ⟨_, rfl⟩
  have B0 : Blk v w.heap.size 69 [.slice none 0 0, .int .i64 0, .int .i64 0, .int .i64 0, .int .i64 0, .int .i64 0] := by rw [← hv]; exact Blk.new rfl
  rw [hv] at hb0
  have HB0 := hide B0
  have HBW := hide hb0
  have HDV := hide (h.below hb0)
  have HV := hide hv
  clear h hv hb0 B0
  go_enter Try.func26, Try.ntmps26
  go_wp2_with fail
  rw [HV.out]
  with_reducible refine (rTimes_calls _ _ _).mono ?_
  rintro e w1 ⟨rfl, rfl⟩
  rw [show times 65536 now = at_ now from rfl]
  have r0 := Below.refl v.heap.size v
  go_wp2_with fail
  go_loopw [6, 8] (fun av kv wr => ∃ (k : Nat) (z : Int), k ≤ D.length ∧ kv = .int .i64 k ∧ av = .int .i64 z ∧ FB D pR (pmR (at_ now)) k z ∧ Below v.heap.size v wr) (fun _ kv _ => D.length - (intOf kv).toNat)
  case atStart => exact ⟨0, -1, Nat.zero_le _, rfl, rfl, FB.start, r0⟩
  case round =>
    obtain ⟨k, z, hk, rfl, rfl, hfb, hbr⟩ := hrel
    have HFB := hide hfb
    clear hfb
    by_cases hkl : k < D.length
    · obtain ⟨b, o, c', hv, hc1, hc2, hbb, hcell⟩ := HDV.out.at_ hkl
      injection hv with e1 _ e3
      subst e1
      obtain ⟨y, hy⟩ : ∃ y, D[k] = y := ⟨_, rfl⟩
      have rules : ∀ w', Below v.heap.size v w' → ∀ j, j < 10 → w'.cell? ⟨b, o + (k * 10 + j), none⟩ = y.cells[j]? := fun w' hb j hj => by
        rw [hb.cell (p := ⟨b, o + (k * 10 + j), none⟩) hbb, hcell j hj, hy]
      have k2 : ∀ w', Below v.heap.size v w' → w'.cell? ⟨b, o + k * 10 + 2, none⟩ = some (.int .i64 y.f.p.r) := fun w' hb => rules w' hb 2 (by omega)
      have k3 : ∀ w', Below v.heap.size v w' → w'.cell? ⟨b, o + k * 10 + 3, none⟩ = some (.int .i64 y.f.p.w) := fun w' hb => rules w' hb 3 (by omega)
      have k4 : ∀ w', Below v.heap.size v w' → w'.cell? ⟨b, o + k * 10 + 4, none⟩ = some (.int .i64 y.f.p.l) := fun w' hb => rules w' hb 4 (by omega)
      have k5 : ∀ w', Below v.heap.size v w' → w'.cell? ⟨b, o + k * 10 + 5, none⟩ = some (.int .i64 y.f.p.b) := fun w' hb => rules w' hb 5 (by omega)
      have k6 : ∀ w', Below v.heap.size v w' → w'.cell? ⟨b, o + k * 10 + 6, none⟩ = some (.int .i64 y.f.c.r) := fun w' hb => rules w' hb 6 (by omega)
      have k7 : ∀ w', Below v.heap.size v w' → w'.cell? ⟨b, o + k * 10 + 7, none⟩ = some (.int .i64 y.f.c.p) := fun w' hb => rules w' hb 7 (by omega)
      have k8 : ∀ w', Below v.heap.size v w' → w'.cell? ⟨b, o + k * 10 + 8, none⟩ = some (.int .i64 y.f.c.l) := fun w' hb => rules w' hb 8 (by omega)
      have k9 : ∀ w', Below v.heap.size v w' → w'.cell? ⟨b, o + k * 10 + 9, none⟩ = some (.slice y.A y.f.q.length y.c) := fun w' hb => rules w' hb 9 (by omega)
      have m1 : (k : Int) < D.length := by omega
      have HYK := hide (show ∃ hk : k < D.length, D[k] = y from ⟨hkl, hy⟩)
      have HBR := hide hbr
      clear rules hcell hy e3 hc1 hc2
      by_cases hu : y.f.q = []
      · have u0 : y.f.q.length = 0 := by rw [hu]; rfl
        rw [u0] at k9
        have hup : up y.f = false := by simp [up, hu]
        have HUP := hide hup
        clear hup hu u0
        go_wp2_with fail
        refine region_q (fun w' => Below v.heap.size v w') (by kernel_rfl) (by kernel_rfl) (by (exact hbr.drew)) ?_
        (refine wq_step (fun K hK => ?_); apply q_take (by rfl); (focus (intro w hw; (try dsimp only at hw); go_simp; (try with_reducible rfl); done)); simp only [Act.put, List.setIfInBounds_toArray, List.set_cons_zero, List.set_cons_succ]; refine hK _ ?_; clear hK K)
        (refine wq_step (fun K hK => ?_); apply q_take (by rfl); (focus (intro w hw; (try dsimp only at hw); go_simp; (try with_reducible rfl); done)); simp only [Act.put, List.setIfInBounds_toArray, List.set_cons_zero, List.set_cons_succ]; refine hK _ ?_; clear hK K)
        (refine wq_step (fun K hK => ?_); apply q_take (by rfl); (focus (intro w hw; (try dsimp only at hw); go_simp; (try with_reducible rfl); done)); simp only [Act.put, List.setIfInBounds_toArray, List.set_cons_zero, List.set_cons_succ]; refine hK _ ?_; clear hK K)
        (refine wq_step (fun K hK => ?_); apply q_take (by rfl); (focus (intro w hw; (try dsimp only at hw); go_simp; (try with_reducible rfl); done)); simp only [Act.put, List.setIfInBounds_toArray, List.set_cons_zero, List.set_cons_succ]; refine hK _ ?_; clear hK K)
        (refine wq_step (fun K hK => ?_); apply q_take (by rfl); (focus (intro w hw; (try dsimp only at hw); go_simp; (try with_reducible rfl); done)); simp only [Act.put, List.setIfInBounds_toArray, List.set_cons_zero, List.set_cons_succ]; refine hK _ ?_; clear hK K)
        (refine wq_step (fun K hK => ?_); apply q_take (by rfl); (focus (intro w hw; (try dsimp only at hw); go_simp; (try with_reducible rfl); done)); simp only [Act.put, List.setIfInBounds_toArray, List.set_cons_zero, List.set_cons_succ]; refine hK _ ?_; clear hK K)
        (refine wq_step (fun K hK => ?_); apply q_take (by rfl); (focus (intro w hw; (try dsimp only at hw); go_simp; (try with_reducible rfl); done)); simp only [Act.put, List.setIfInBounds_toArray, List.set_cons_zero, List.set_cons_succ]; refine hK _ ?_; clear hK K)
        (refine wq_step (fun K hK => ?_); apply q_take (by rfl); (focus (intro w hw; (try dsimp only at hw); go_simp; (try with_reducible rfl); done)); simp only [Act.put, List.setIfInBounds_toArray, List.set_cons_zero, List.set_cons_succ]; refine hK _ ?_; clear hK K)
        (refine wq_step (fun K hK => ?_); refine q_skip (by kernel_rfl) ?_; simp only [Act.put, List.setIfInBounds_toArray, List.set_cons_zero, List.set_cons_succ]; refine hK _ ?_; clear hK K)
        (refine wq_step (fun K hK => ?_); refine q_skip (by kernel_rfl) ?_; simp only [Act.put, List.setIfInBounds_toArray, List.set_cons_zero, List.set_cons_succ]; refine hK _ ?_; clear hK K)
        (refine wq_step (fun K hK => ?_); refine q_skip (by kernel_rfl) ?_; simp only [Act.put, List.setIfInBounds_toArray, List.set_cons_zero, List.set_cons_succ]; refine hK _ ?_; clear hK K)
        (refine wq_step (fun K hK => ?_); refine q_skip (by kernel_rfl) ?_; simp only [Act.put, List.setIfInBounds_toArray, List.set_cons_zero, List.set_cons_succ]; refine hK _ ?_; clear hK K)
        (refine wq_step (fun K hK => ?_); refine q_skip (by kernel_rfl) ?_; simp only [Act.put, List.setIfInBounds_toArray, List.set_cons_zero, List.set_cons_succ]; refine hK _ ?_; clear hK K)
        (refine wq_step (fun K hK => ?_); refine q_skip (by kernel_rfl) ?_; simp only [Act.put, List.setIfInBounds_toArray, List.set_cons_zero, List.set_cons_succ]; refine hK _ ?_; clear hK K)
        (refine wq_step (fun K hK => ?_); refine q_skip (by kernel_rfl) ?_; simp only [Act.put, List.setIfInBounds_toArray, List.set_cons_zero, List.set_cons_succ]; refine hK _ ?_; clear hK K)
        (refine wq_step (fun K hK => ?_); refine q_skip (by kernel_rfl) ?_; simp only [Act.put, List.setIfInBounds_toArray, List.set_cons_zero, List.set_cons_succ]; refine hK _ ?_; clear hK K)
        (refine wq_step (fun K hK => ?_); refine q_skip (by kernel_rfl) ?_; simp only [Act.put, List.setIfInBounds_toArray, List.set_cons_zero, List.set_cons_succ]; refine hK _ ?_; clear hK K)
        (refine wq_step (fun K hK => ?_); refine q_skip (by kernel_rfl) ?_; simp only [Act.put, List.setIfInBounds_toArray, List.set_cons_zero, List.set_cons_succ]; refine hK _ ?_; clear hK K)
        (refine wq_step (fun K hK => ?_); refine q_skip (by kernel_rfl) ?_; simp only [Act.put, List.setIfInBounds_toArray, List.set_cons_zero, List.set_cons_succ]; refine hK _ ?_; clear hK K)
        (refine wq_step (fun K hK => ?_); refine q_skip (by kernel_rfl) ?_; simp only [Act.put, List.setIfInBounds_toArray, List.set_cons_zero, List.set_cons_succ]; refine hK _ ?_; clear hK K)
        (refine wq_step (fun K hK => ?_); apply q_take (by rfl); (focus (intro w hw; (try dsimp only at hw); go_simp; (try with_reducible rfl); done)); simp only [Act.put, List.setIfInBounds_toArray, List.set_cons_zero, List.set_cons_succ]; refine hK _ ?_; clear hK K)
        (refine wq_step (fun K hK => ?_); apply q_take (by rfl); (focus (intro w hw; (try dsimp only at hw); go_simp; (try with_reducible rfl); done)); simp only [Act.put, List.setIfInBounds_toArray, List.set_cons_zero, List.set_cons_succ]; refine hK _ ?_; clear hK K)
        (refine wq_step (fun K hK => ?_); refine q_skip (by kernel_rfl) ?_; simp only [Act.put, List.setIfInBounds_toArray, List.set_cons_zero, List.set_cons_succ]; refine hK _ ?_; clear hK K)
        (refine wq_step (fun K hK => ?_); refine q_skip (by kernel_rfl) ?_; simp only [Act.put, List.setIfInBounds_toArray, List.set_cons_zero, List.set_cons_succ]; refine hK _ ?_; clear hK K)
        (refine wq_step (fun K hK => ?_); refine q_skip (by kernel_rfl) ?_; simp only [Act.put, List.setIfInBounds_toArray, List.set_cons_zero, List.set_cons_succ]; refine hK _ ?_; clear hK K)
        (refine wq_step (fun K hK => ?_); refine q_skip (by kernel_rfl) ?_; simp only [Act.put, List.setIfInBounds_toArray, List.set_cons_zero, List.set_cons_succ]; refine hK _ ?_; clear hK K)
        (refine wq_step (fun K hK => ?_); refine q_skip (by kernel_rfl) ?_; simp only [Act.put, List.setIfInBounds_toArray, List.set_cons_zero, List.set_cons_succ]; refine hK _ ?_; clear hK K)
        (refine wq_step (fun K hK => ?_); refine q_skip (by kernel_rfl) ?_; simp only [Act.put, List.setIfInBounds_toArray, List.set_cons_zero, List.set_cons_succ]; refine hK _ ?_; clear hK K)
        (refine wq_step (fun K hK => ?_); refine q_skip (by kernel_rfl) ?_; simp only [Act.put, List.setIfInBounds_toArray, List.set_cons_zero, List.set_cons_succ]; refine hK _ ?_; clear hK K)
        (refine wq_step (fun K hK => ?_); refine q_skip (by kernel_rfl) ?_; simp only [Act.put, List.setIfInBounds_toArray, List.set_cons_zero, List.set_cons_succ]; refine hK _ ?_; clear hK K)
        (refine wq_step (fun K hK => ?_); refine q_skip (by kernel_rfl) ?_; simp only [Act.put, List.setIfInBounds_toArray, List.set_cons_zero, List.set_cons_succ]; refine hK _ ?_; clear hK K)
        (refine wq_step (fun K hK => ?_); refine q_skip (by kernel_rfl) ?_; simp only [Act.put, List.setIfInBounds_toArray, List.set_cons_zero, List.set_cons_succ]; refine hK _ ?_; clear hK K)
        (refine wq_step (fun K hK => ?_); refine q_skip (by kernel_rfl) ?_; simp only [Act.put, List.setIfInBounds_toArray, List.set_cons_zero, List.set_cons_succ]; refine hK _ ?_; clear hK K)
        (refine wq_step (fun K hK => ?_); refine q_skip (by kernel_rfl) ?_; simp only [Act.put, List.setIfInBounds_toArray, List.set_cons_zero, List.set_cons_succ]; refine hK _ ?_; clear hK K)
        (refine wq_step (fun K hK => ?_); refine q_skip (by kernel_rfl) ?_; simp only [Act.put, List.setIfInBounds_toArray, List.set_cons_zero, List.set_cons_succ]; refine hK _ ?_; clear hK K)
        (refine wq_step (fun K hK => ?_); refine q_skip (by kernel_rfl) ?_; simp only [Act.put, List.setIfInBounds_toArray, List.set_cons_zero, List.set_cons_succ]; refine hK _ ?_; clear hK K)
        (refine wq_step (fun K hK => ?_); refine q_skip (by kernel_rfl) ?_; simp only [Act.put, List.setIfInBounds_toArray, List.set_cons_zero, List.set_cons_succ]; refine hK _ ?_; clear hK K)
        (refine wq_step (fun K hK => ?_); refine q_skip (by kernel_rfl) ?_; simp only [Act.put, List.setIfInBounds_toArray, List.set_cons_zero, List.set_cons_succ]; refine hK _ ?_; clear hK K)
        (refine wq_step (fun K hK => ?_); refine q_skip (by kernel_rfl) ?_; simp only [Act.put, List.setIfInBounds_toArray, List.set_cons_zero, List.set_cons_succ]; refine hK _ ?_; clear hK K)
        (refine wq_step (fun K hK => ?_); apply q_take (by rfl); (focus (intro w hw; (try dsimp only at hw); go_simp; (try with_reducible rfl); done)); simp only [Act.put, List.setIfInBounds_toArray, List.set_cons_zero, List.set_cons_succ]; refine hK _ ?_; clear hK K)
        refine wq_nil ?_
        intro wq hwq
        go_wp2
        go_roundw
        case rel => exact ⟨k + 1, z, by omega, by go_num, rfl, by
          obtain ⟨hk2, hy2⟩ := HYK.out
          exact HFB.out.skip hk2 (by rw [hy2]; intro h; rw [HUP.out] at h; cases h.1), hwq⟩
        case measure => simp [intOf]; omega
      · have hup : up y.f = true := by simp [up, hu]
        have u0 : 0 < y.f.q.length := List.length_pos_iff.2 hu
        have u1 : (0 : Int) < y.f.q.length := by omega
        have HUP := hide hup
        clear hup hu
        cases hmay : byReserve y.f.p y.f.c (at_ now)
        · have HMAY := hide hmay
          go_wp2_with fail
          refine region_q (fun w' => Below v.heap.size v w') (by kernel_rfl) (by kernel_rfl) (by (exact hbr.drew)) ?_
          (refine wq_step (fun K hK => ?_); apply q_take (by rfl); (focus (intro w hw; (try dsimp only at hw); go_simp; (try with_reducible rfl); done)); simp only [Act.put, List.setIfInBounds_toArray, List.set_cons_zero, List.set_cons_succ]; refine hK _ ?_; clear hK K)
          (refine wq_step (fun K hK => ?_); apply q_take (by rfl); (focus (intro w hw; (try dsimp only at hw); go_simp; (try with_reducible rfl); done)); simp only [Act.put, List.setIfInBounds_toArray, List.set_cons_zero, List.set_cons_succ]; refine hK _ ?_; clear hK K)
          (refine wq_step (fun K hK => ?_); apply q_take (by rfl); (focus (intro w hw; (try dsimp only at hw); go_simp; (try with_reducible rfl); done)); simp only [Act.put, List.setIfInBounds_toArray, List.set_cons_zero, List.set_cons_succ]; refine hK _ ?_; clear hK K)
          (refine wq_step (fun K hK => ?_); apply q_take (by rfl); (focus (intro w hw; (try dsimp only at hw); go_simp; (try with_reducible rfl); done)); simp only [Act.put, List.setIfInBounds_toArray, List.set_cons_zero, List.set_cons_succ]; refine hK _ ?_; clear hK K)
          (refine wq_step (fun K hK => ?_); apply q_take (by rfl); (focus (intro w hw; (try dsimp only at hw); go_simp; (try with_reducible rfl); done)); simp only [Act.put, List.setIfInBounds_toArray, List.set_cons_zero, List.set_cons_succ]; refine hK _ ?_; clear hK K)
          (refine wq_step (fun K hK => ?_); apply q_take (by rfl); (focus (intro w hw; (try dsimp only at hw); go_simp; (try with_reducible rfl); done)); simp only [Act.put, List.setIfInBounds_toArray, List.set_cons_zero, List.set_cons_succ]; refine hK _ ?_; clear hK K)
          (refine wq_step (fun K hK => ?_); apply q_take (by rfl); (focus (intro w hw; (try dsimp only at hw); go_simp; (try with_reducible rfl); done)); simp only [Act.put, List.setIfInBounds_toArray, List.set_cons_zero, List.set_cons_succ]; refine hK _ ?_; clear hK K)
          (refine wq_step (fun K hK => ?_); apply q_take (by rfl); (focus (intro w hw; (try dsimp only at hw); go_simp; (try with_reducible rfl); done)); simp only [Act.put, List.setIfInBounds_toArray, List.set_cons_zero, List.set_cons_succ]; refine hK _ ?_; clear hK K)
          (refine wq_step (fun K hK => ?_); apply q_take (by kernel_rfl); (focus (intro w hw; (try dsimp only at hw); go_simp; (try with_reducible rfl); done)); simp only [Act.put, List.setIfInBounds_toArray, List.set_cons_zero, List.set_cons_succ]; refine hK _ ?_; clear hK K)
          (refine wq_step (fun K hK => ?_); apply q_take (by kernel_rfl); (focus (intro w hw; (try dsimp only at hw); go_simp; (try with_reducible rfl); done)); simp only [Act.put, List.setIfInBounds_toArray, List.set_cons_zero, List.set_cons_succ]; refine hK _ ?_; clear hK K)
          (refine wq_step (fun K hK => ?_); apply q_take (by kernel_rfl); (focus (intro w hw; (try dsimp only at hw); go_simp; (try with_reducible rfl); done)); simp only [Act.put, List.setIfInBounds_toArray, List.set_cons_zero, List.set_cons_succ]; refine hK _ ?_; clear hK K)
          (refine wq_step (fun K hK => ?_); apply q_take (by kernel_rfl); (focus (intro w hw; (try dsimp only at hw); go_simp; (try with_reducible rfl); done)); simp only [Act.put, List.setIfInBounds_toArray, List.set_cons_zero, List.set_cons_succ]; refine hK _ ?_; clear hK K)
          (refine wq_step (fun K hK => ?_); apply q_take (by kernel_rfl); (focus (intro w hw; (try dsimp only at hw); go_simp; (try with_reducible rfl); done)); simp only [Act.put, List.setIfInBounds_toArray, List.set_cons_zero, List.set_cons_succ]; refine hK _ ?_; clear hK K)
          (refine wq_step (fun K hK => ?_); apply q_take (by kernel_rfl); (focus (intro w hw; (try dsimp only at hw); go_simp; (try with_reducible rfl); done)); simp only [Act.put, List.setIfInBounds_toArray, List.set_cons_zero, List.set_cons_succ]; refine hK _ ?_; clear hK K)
          (refine wq_step (fun K hK => ?_); apply q_take (by kernel_rfl); (focus (intro w hw; (try dsimp only at hw); go_simp; (try with_reducible rfl); done)); simp only [Act.put, List.setIfInBounds_toArray, List.set_cons_zero, List.set_cons_succ]; refine hK _ ?_; clear hK K)
          (refine wq_step (fun K hK => ?_); apply q_take (by kernel_rfl); (focus (intro w hw; (try dsimp only at hw); go_simp; (try with_reducible rfl); done)); simp only [Act.put, List.setIfInBounds_toArray, List.set_cons_zero, List.set_cons_succ]; refine hK _ ?_; clear hK K)
          (refine wq_step (fun K hK => ?_); apply q_take (by kernel_rfl); (focus (intro w hw; (try dsimp only at hw); go_simp; (try with_reducible rfl); done)); simp only [Act.put, List.setIfInBounds_toArray, List.set_cons_zero, List.set_cons_succ]; refine hK _ ?_; clear hK K)
          (refine wq_step (fun K hK => ?_); apply q_take (by kernel_rfl); (focus (intro w hw; (try dsimp only at hw); go_simp; (try with_reducible rfl); done)); simp only [Act.put, List.setIfInBounds_toArray, List.set_cons_zero, List.set_cons_succ]; refine hK _ ?_; clear hK K)
          (refine wq_step (fun K hK => ?_); apply q_take (by kernel_rfl); (focus (intro w hw; (try dsimp only at hw); go_simp; (try with_reducible rfl); done)); simp only [Act.put, List.setIfInBounds_toArray, List.set_cons_zero, List.set_cons_succ]; refine hK _ ?_; clear hK K)
          (refine wq_step (fun K hK => ?_); apply q_call (by kernel_rfl); (focus (intro w hw; (try dsimp only at hw); go_simp; (try exact ⟨rfl, rfl⟩); done)); (focus (intro w hw; (try dsimp only at hw); (refine (rByReserve_calls y.f.p y.f.c (at_ now) w).mono ?_; rintro e w2 ⟨rfl, hb⟩; rw [HMAY.out]; exact ⟨rfl, hw.trans (hb.mono hw.size)⟩))); simp only [Act.put, List.setIfInBounds_toArray, List.set_cons_zero, List.set_cons_succ]; refine hK _ ?_; clear hK K)
          (refine wq_step (fun K hK => ?_); apply q_take (by rfl); (focus (intro w hw; (try dsimp only at hw); go_simp; (try with_reducible rfl); done)); simp only [Act.put, List.setIfInBounds_toArray, List.set_cons_zero, List.set_cons_succ]; refine hK _ ?_; clear hK K)
          (refine wq_step (fun K hK => ?_); apply q_take (by rfl); (focus (intro w hw; (try dsimp only at hw); go_simp; (try with_reducible rfl); done)); simp only [Act.put, List.setIfInBounds_toArray, List.set_cons_zero, List.set_cons_succ]; refine hK _ ?_; clear hK K)
          (refine wq_step (fun K hK => ?_); refine q_skip (by kernel_rfl) ?_; simp only [Act.put, List.setIfInBounds_toArray, List.set_cons_zero, List.set_cons_succ]; refine hK _ ?_; clear hK K)
          (refine wq_step (fun K hK => ?_); refine q_skip (by kernel_rfl) ?_; simp only [Act.put, List.setIfInBounds_toArray, List.set_cons_zero, List.set_cons_succ]; refine hK _ ?_; clear hK K)
          (refine wq_step (fun K hK => ?_); refine q_skip (by kernel_rfl) ?_; simp only [Act.put, List.setIfInBounds_toArray, List.set_cons_zero, List.set_cons_succ]; refine hK _ ?_; clear hK K)
          (refine wq_step (fun K hK => ?_); refine q_skip (by kernel_rfl) ?_; simp only [Act.put, List.setIfInBounds_toArray, List.set_cons_zero, List.set_cons_succ]; refine hK _ ?_; clear hK K)
          (refine wq_step (fun K hK => ?_); refine q_skip (by kernel_rfl) ?_; simp only [Act.put, List.setIfInBounds_toArray, List.set_cons_zero, List.set_cons_succ]; refine hK _ ?_; clear hK K)
          (refine wq_step (fun K hK => ?_); refine q_skip (by kernel_rfl) ?_; simp only [Act.put, List.setIfInBounds_toArray, List.set_cons_zero, List.set_cons_succ]; refine hK _ ?_; clear hK K)
          (refine wq_step (fun K hK => ?_); refine q_skip (by kernel_rfl) ?_; simp only [Act.put, List.setIfInBounds_toArray, List.set_cons_zero, List.set_cons_succ]; refine hK _ ?_; clear hK K)
          (refine wq_step (fun K hK => ?_); refine q_skip (by kernel_rfl) ?_; simp only [Act.put, List.setIfInBounds_toArray, List.set_cons_zero, List.set_cons_succ]; refine hK _ ?_; clear hK K)
          (refine wq_step (fun K hK => ?_); refine q_skip (by kernel_rfl) ?_; simp only [Act.put, List.setIfInBounds_toArray, List.set_cons_zero, List.set_cons_succ]; refine hK _ ?_; clear hK K)
          (refine wq_step (fun K hK => ?_); refine q_skip (by kernel_rfl) ?_; simp only [Act.put, List.setIfInBounds_toArray, List.set_cons_zero, List.set_cons_succ]; refine hK _ ?_; clear hK K)
          (refine wq_step (fun K hK => ?_); refine q_skip (by kernel_rfl) ?_; simp only [Act.put, List.setIfInBounds_toArray, List.set_cons_zero, List.set_cons_succ]; refine hK _ ?_; clear hK K)
          (refine wq_step (fun K hK => ?_); refine q_skip (by kernel_rfl) ?_; simp only [Act.put, List.setIfInBounds_toArray, List.set_cons_zero, List.set_cons_succ]; refine hK _ ?_; clear hK K)
          (refine wq_step (fun K hK => ?_); refine q_skip (by kernel_rfl) ?_; simp only [Act.put, List.setIfInBounds_toArray, List.set_cons_zero, List.set_cons_succ]; refine hK _ ?_; clear hK K)
          (refine wq_step (fun K hK => ?_); refine q_skip (by kernel_rfl) ?_; simp only [Act.put, List.setIfInBounds_toArray, List.set_cons_zero, List.set_cons_succ]; refine hK _ ?_; clear hK K)
          (refine wq_step (fun K hK => ?_); refine q_skip (by kernel_rfl) ?_; simp only [Act.put, List.setIfInBounds_toArray, List.set_cons_zero, List.set_cons_succ]; refine hK _ ?_; clear hK K)
          (refine wq_step (fun K hK => ?_); refine q_skip (by kernel_rfl) ?_; simp only [Act.put, List.setIfInBounds_toArray, List.set_cons_zero, List.set_cons_succ]; refine hK _ ?_; clear hK K)
          (refine wq_step (fun K hK => ?_); refine q_skip (by kernel_rfl) ?_; simp only [Act.put, List.setIfInBounds_toArray, List.set_cons_zero, List.set_cons_succ]; refine hK _ ?_; clear hK K)
          (refine wq_step (fun K hK => ?_); apply q_take (by rfl); (focus (intro w hw; (try dsimp only at hw); go_simp; (try with_reducible rfl); done)); simp only [Act.put, List.setIfInBounds_toArray, List.set_cons_zero, List.set_cons_succ]; refine hK _ ?_; clear hK K)
          refine wq_nil ?_
          intro wq hwq
          go_wp2
          go_roundw
          case rel => exact ⟨k + 1, z, by omega, by go_num, rfl, by
            obtain ⟨hk2, hy2⟩ := HYK.out
            exact HFB.out.skip hk2 (by rw [hy2]; intro h; have h2 : byReserve y.f.p y.f.c (at_ now) = true := h.2; rw [HMAY.out] at h2; cases h2), hwq⟩
          case measure => simp [intOf]; omega
        · have HMAY := hide hmay
          rcases HFB.out.is with hz | ⟨a, ha, hz⟩
          · subst hz
            go_wp2_with fail
            refine region_q (fun w' => Below v.heap.size v w') (by kernel_rfl) (by kernel_rfl) (by (exact hbr.drew)) ?_
            (refine wq_step (fun K hK => ?_); apply q_take (by rfl); (focus (intro w hw; (try dsimp only at hw); go_simp; (try with_reducible rfl); done)); simp only [Act.put, List.setIfInBounds_toArray, List.set_cons_zero, List.set_cons_succ]; refine hK _ ?_; clear hK K)
            (refine wq_step (fun K hK => ?_); apply q_take (by rfl); (focus (intro w hw; (try dsimp only at hw); go_simp; (try with_reducible rfl); done)); simp only [Act.put, List.setIfInBounds_toArray, List.set_cons_zero, List.set_cons_succ]; refine hK _ ?_; clear hK K)
            (refine wq_step (fun K hK => ?_); apply q_take (by rfl); (focus (intro w hw; (try dsimp only at hw); go_simp; (try with_reducible rfl); done)); simp only [Act.put, List.setIfInBounds_toArray, List.set_cons_zero, List.set_cons_succ]; refine hK _ ?_; clear hK K)
            (refine wq_step (fun K hK => ?_); apply q_take (by rfl); (focus (intro w hw; (try dsimp only at hw); go_simp; (try with_reducible rfl); done)); simp only [Act.put, List.setIfInBounds_toArray, List.set_cons_zero, List.set_cons_succ]; refine hK _ ?_; clear hK K)
            (refine wq_step (fun K hK => ?_); apply q_take (by rfl); (focus (intro w hw; (try dsimp only at hw); go_simp; (try with_reducible rfl); done)); simp only [Act.put, List.setIfInBounds_toArray, List.set_cons_zero, List.set_cons_succ]; refine hK _ ?_; clear hK K)
            (refine wq_step (fun K hK => ?_); apply q_take (by rfl); (focus (intro w hw; (try dsimp only at hw); go_simp; (try with_reducible rfl); done)); simp only [Act.put, List.setIfInBounds_toArray, List.set_cons_zero, List.set_cons_succ]; refine hK _ ?_; clear hK K)
            (refine wq_step (fun K hK => ?_); apply q_take (by rfl); (focus (intro w hw; (try dsimp only at hw); go_simp; (try with_reducible rfl); done)); simp only [Act.put, List.setIfInBounds_toArray, List.set_cons_zero, List.set_cons_succ]; refine hK _ ?_; clear hK K)
            (refine wq_step (fun K hK => ?_); apply q_take (by rfl); (focus (intro w hw; (try dsimp only at hw); go_simp; (try with_reducible rfl); done)); simp only [Act.put, List.setIfInBounds_toArray, List.set_cons_zero, List.set_cons_succ]; refine hK _ ?_; clear hK K)
            (refine wq_step (fun K hK => ?_); apply q_take (by kernel_rfl); (focus (intro w hw; (try dsimp only at hw); go_simp; (try with_reducible rfl); done)); simp only [Act.put, List.setIfInBounds_toArray, List.set_cons_zero, List.set_cons_succ]; refine hK _ ?_; clear hK K)
            (refine wq_step (fun K hK => ?_); apply q_take (by kernel_rfl); (focus (intro w hw; (try dsimp only at hw); go_simp; (try with_reducible rfl); done)); simp only [Act.put, List.setIfInBounds_toArray, List.set_cons_zero, List.set_cons_succ]; refine hK _ ?_; clear hK K)
            (refine wq_step (fun K hK => ?_); apply q_take (by kernel_rfl); (focus (intro w hw; (try dsimp only at hw); go_simp; (try with_reducible rfl); done)); simp only [Act.put, List.setIfInBounds_toArray, List.set_cons_zero, List.set_cons_succ]; refine hK _ ?_; clear hK K)
            (refine wq_step (fun K hK => ?_); apply q_take (by kernel_rfl); (focus (intro w hw; (try dsimp only at hw); go_simp; (try with_reducible rfl); done)); simp only [Act.put, List.setIfInBounds_toArray, List.set_cons_zero, List.set_cons_succ]; refine hK _ ?_; clear hK K)
            (refine wq_step (fun K hK => ?_); apply q_take (by kernel_rfl); (focus (intro w hw; (try dsimp only at hw); go_simp; (try with_reducible rfl); done)); simp only [Act.put, List.setIfInBounds_toArray, List.set_cons_zero, List.set_cons_succ]; refine hK _ ?_; clear hK K)
            (refine wq_step (fun K hK => ?_); apply q_take (by kernel_rfl); (focus (intro w hw; (try dsimp only at hw); go_simp; (try with_reducible rfl); done)); simp only [Act.put, List.setIfInBounds_toArray, List.set_cons_zero, List.set_cons_succ]; refine hK _ ?_; clear hK K)
            (refine wq_step (fun K hK => ?_); apply q_take (by kernel_rfl); (focus (intro w hw; (try dsimp only at hw); go_simp; (try with_reducible rfl); done)); simp only [Act.put, List.setIfInBounds_toArray, List.set_cons_zero, List.set_cons_succ]; refine hK _ ?_; clear hK K)
            (refine wq_step (fun K hK => ?_); apply q_take (by kernel_rfl); (focus (intro w hw; (try dsimp only at hw); go_simp; (try with_reducible rfl); done)); simp only [Act.put, List.setIfInBounds_toArray, List.set_cons_zero, List.set_cons_succ]; refine hK _ ?_; clear hK K)
            (refine wq_step (fun K hK => ?_); apply q_take (by kernel_rfl); (focus (intro w hw; (try dsimp only at hw); go_simp; (try with_reducible rfl); done)); simp only [Act.put, List.setIfInBounds_toArray, List.set_cons_zero, List.set_cons_succ]; refine hK _ ?_; clear hK K)
            (refine wq_step (fun K hK => ?_); apply q_take (by kernel_rfl); (focus (intro w hw; (try dsimp only at hw); go_simp; (try with_reducible rfl); done)); simp only [Act.put, List.setIfInBounds_toArray, List.set_cons_zero, List.set_cons_succ]; refine hK _ ?_; clear hK K)
            (refine wq_step (fun K hK => ?_); apply q_take (by kernel_rfl); (focus (intro w hw; (try dsimp only at hw); go_simp; (try with_reducible rfl); done)); simp only [Act.put, List.setIfInBounds_toArray, List.set_cons_zero, List.set_cons_succ]; refine hK _ ?_; clear hK K)
            (refine wq_step (fun K hK => ?_); apply q_call (by kernel_rfl); (focus (intro w hw; (try dsimp only at hw); go_simp; (try exact ⟨rfl, rfl⟩); done)); (focus (intro w hw; (try dsimp only at hw); (refine (rByReserve_calls y.f.p y.f.c (at_ now) w).mono ?_; rintro e w2 ⟨rfl, hb⟩; rw [HMAY.out]; exact ⟨rfl, hw.trans (hb.mono hw.size)⟩))); simp only [Act.put, List.setIfInBounds_toArray, List.set_cons_zero, List.set_cons_succ]; refine hK _ ?_; clear hK K)
            (refine wq_step (fun K hK => ?_); apply q_take (by rfl); (focus (intro w hw; (try dsimp only at hw); go_simp; (try with_reducible rfl); done)); simp only [Act.put, List.setIfInBounds_toArray, List.set_cons_zero, List.set_cons_succ]; refine hK _ ?_; clear hK K)
            (refine wq_step (fun K hK => ?_); apply q_take (by rfl); (focus (intro w hw; (try dsimp only at hw); go_simp; (try with_reducible rfl); done)); simp only [Act.put, List.setIfInBounds_toArray, List.set_cons_zero, List.set_cons_succ]; refine hK _ ?_; clear hK K)
            (refine wq_step (fun K hK => ?_); apply q_take (by kernel_rfl); (focus (intro w hw; (try dsimp only at hw); go_simp; (try with_reducible rfl); done)); simp only [Act.put, List.setIfInBounds_toArray, List.set_cons_zero, List.set_cons_succ]; refine hK _ ?_; clear hK K)
            (refine wq_step (fun K hK => ?_); apply q_take (by kernel_rfl); (focus (intro w hw; (try dsimp only at hw); go_simp; (try with_reducible rfl); done)); simp only [Act.put, List.setIfInBounds_toArray, List.set_cons_zero, List.set_cons_succ]; refine hK _ ?_; clear hK K)
            (refine wq_step (fun K hK => ?_); apply q_take (by kernel_rfl); (focus (intro w hw; (try dsimp only at hw); go_simp; (try with_reducible rfl); done)); simp only [Act.put, List.setIfInBounds_toArray, List.set_cons_zero, List.set_cons_succ]; refine hK _ ?_; clear hK K)
            (refine wq_step (fun K hK => ?_); refine q_skip (by kernel_rfl) ?_; simp only [Act.put, List.setIfInBounds_toArray, List.set_cons_zero, List.set_cons_succ]; refine hK _ ?_; clear hK K)
            (refine wq_step (fun K hK => ?_); refine q_skip (by kernel_rfl) ?_; simp only [Act.put, List.setIfInBounds_toArray, List.set_cons_zero, List.set_cons_succ]; refine hK _ ?_; clear hK K)
            (refine wq_step (fun K hK => ?_); refine q_skip (by kernel_rfl) ?_; simp only [Act.put, List.setIfInBounds_toArray, List.set_cons_zero, List.set_cons_succ]; refine hK _ ?_; clear hK K)
            (refine wq_step (fun K hK => ?_); refine q_skip (by kernel_rfl) ?_; simp only [Act.put, List.setIfInBounds_toArray, List.set_cons_zero, List.set_cons_succ]; refine hK _ ?_; clear hK K)
            (refine wq_step (fun K hK => ?_); refine q_skip (by kernel_rfl) ?_; simp only [Act.put, List.setIfInBounds_toArray, List.set_cons_zero, List.set_cons_succ]; refine hK _ ?_; clear hK K)
            (refine wq_step (fun K hK => ?_); refine q_skip (by kernel_rfl) ?_; simp only [Act.put, List.setIfInBounds_toArray, List.set_cons_zero, List.set_cons_succ]; refine hK _ ?_; clear hK K)
            (refine wq_step (fun K hK => ?_); refine q_skip (by kernel_rfl) ?_; simp only [Act.put, List.setIfInBounds_toArray, List.set_cons_zero, List.set_cons_succ]; refine hK _ ?_; clear hK K)
            (refine wq_step (fun K hK => ?_); refine q_skip (by kernel_rfl) ?_; simp only [Act.put, List.setIfInBounds_toArray, List.set_cons_zero, List.set_cons_succ]; refine hK _ ?_; clear hK K)
            (refine wq_step (fun K hK => ?_); refine q_skip (by kernel_rfl) ?_; simp only [Act.put, List.setIfInBounds_toArray, List.set_cons_zero, List.set_cons_succ]; refine hK _ ?_; clear hK K)
            (refine wq_step (fun K hK => ?_); refine q_skip (by kernel_rfl) ?_; simp only [Act.put, List.setIfInBounds_toArray, List.set_cons_zero, List.set_cons_succ]; refine hK _ ?_; clear hK K)
            (refine wq_step (fun K hK => ?_); refine q_skip (by kernel_rfl) ?_; simp only [Act.put, List.setIfInBounds_toArray, List.set_cons_zero, List.set_cons_succ]; refine hK _ ?_; clear hK K)
            (refine wq_step (fun K hK => ?_); refine q_skip (by kernel_rfl) ?_; simp only [Act.put, List.setIfInBounds_toArray, List.set_cons_zero, List.set_cons_succ]; refine hK _ ?_; clear hK K)
            (refine wq_step (fun K hK => ?_); refine q_skip (by kernel_rfl) ?_; simp only [Act.put, List.setIfInBounds_toArray, List.set_cons_zero, List.set_cons_succ]; refine hK _ ?_; clear hK K)
            (refine wq_step (fun K hK => ?_); apply q_take (by kernel_rfl); (focus (intro w hw; (try dsimp only at hw); go_simp; (try with_reducible rfl); done)); simp only [Act.put, List.setIfInBounds_toArray, List.set_cons_zero, List.set_cons_succ]; refine hK _ ?_; clear hK K)
            (refine wq_step (fun K hK => ?_); apply q_take (by rfl); (focus (intro w hw; (try dsimp only at hw); go_simp; (try with_reducible rfl); done)); simp only [Act.put, List.setIfInBounds_toArray, List.set_cons_zero, List.set_cons_succ]; refine hK _ ?_; clear hK K)
            refine wq_nil ?_
            intro wq hwq
            go_wp2
            go_roundw
            case rel => exact ⟨k + 1, (k : Int), by omega, by go_num, rfl, by
              obtain ⟨hk2, hy2⟩ := HYK.out
              exact HFB.out.first hk2 (by rw [hy2]; exact HUP.out) (by rw [hy2]; exact HMAY.out), hwq⟩
            case measure => simp [intOf]; omega
          · subst hz
            obtain ⟨x, hx⟩ : ∃ x, D[a] = x := ⟨_, rfl⟩
            obtain ⟨b2, o2, c2', hv2, _, _, _, hcell2⟩ := HDV.out.at_ ha
            injection hv2 with e1 e4 e5
            clear e4 e5
            injection e1 with e1
            injection e1 with e1 e2
            subst e1 e2
            have rules2 : ∀ w', Below v.heap.size v w' → ∀ j, j < 10 → w'.cell? ⟨b, o + (a * 10 + j), none⟩ = x.cells[j]? := fun w' hb j hj => by
              rw [hb.cell (p := ⟨b, o + (a * 10 + j), none⟩) hbb, hcell2 j hj, hx]
            have a6 : ∀ w', Below v.heap.size v w' → w'.cell? ⟨b, o + a * 10 + 6, none⟩ = some (.int .i64 x.f.c.r) := fun w' hb => rules2 w' hb 6 (by omega)
            have a7 : ∀ w', Below v.heap.size v w' → w'.cell? ⟨b, o + a * 10 + 7, none⟩ = some (.int .i64 x.f.c.p) := fun w' hb => rules2 w' hb 7 (by omega)
            have m2 : (a : Int) < D.length := by omega
            have m3 : ¬ ((a : Int) < 0) := by omega
            have HXA := hide (show ∃ ha : a < D.length, D[a] = x from ⟨ha, hx⟩)
            clear rules2 hcell2 hx ha
            by_cases hl : pR y.f < pR x.f
            · have hl2 : y.f.c.r < x.f.c.r := hl
              have HL := hide hl
              clear hl
              go_wp2_with fail
              refine region_q (fun w' => Below v.heap.size v w') (by kernel_rfl) (by kernel_rfl) (by (exact hbr.drew)) ?_
              (refine wq_step (fun K hK => ?_); apply q_take (by rfl); (focus (intro w hw; (try dsimp only at hw); go_simp; (try with_reducible rfl); done)); simp only [Act.put, List.setIfInBounds_toArray, List.set_cons_zero, List.set_cons_succ]; refine hK _ ?_; clear hK K)
              (refine wq_step (fun K hK => ?_); apply q_take (by rfl); (focus (intro w hw; (try dsimp only at hw); go_simp; (try with_reducible rfl); done)); simp only [Act.put, List.setIfInBounds_toArray, List.set_cons_zero, List.set_cons_succ]; refine hK _ ?_; clear hK K)
              (refine wq_step (fun K hK => ?_); apply q_take (by rfl); (focus (intro w hw; (try dsimp only at hw); go_simp; (try with_reducible rfl); done)); simp only [Act.put, List.setIfInBounds_toArray, List.set_cons_zero, List.set_cons_succ]; refine hK _ ?_; clear hK K)
              (refine wq_step (fun K hK => ?_); apply q_take (by rfl); (focus (intro w hw; (try dsimp only at hw); go_simp; (try with_reducible rfl); done)); simp only [Act.put, List.setIfInBounds_toArray, List.set_cons_zero, List.set_cons_succ]; refine hK _ ?_; clear hK K)
              (refine wq_step (fun K hK => ?_); apply q_take (by rfl); (focus (intro w hw; (try dsimp only at hw); go_simp; (try with_reducible rfl); done)); simp only [Act.put, List.setIfInBounds_toArray, List.set_cons_zero, List.set_cons_succ]; refine hK _ ?_; clear hK K)
              (refine wq_step (fun K hK => ?_); apply q_take (by rfl); (focus (intro w hw; (try dsimp only at hw); go_simp; (try with_reducible rfl); done)); simp only [Act.put, List.setIfInBounds_toArray, List.set_cons_zero, List.set_cons_succ]; refine hK _ ?_; clear hK K)
              (refine wq_step (fun K hK => ?_); apply q_take (by rfl); (focus (intro w hw; (try dsimp only at hw); go_simp; (try with_reducible rfl); done)); simp only [Act.put, List.setIfInBounds_toArray, List.set_cons_zero, List.set_cons_succ]; refine hK _ ?_; clear hK K)
              (refine wq_step (fun K hK => ?_); apply q_take (by rfl); (focus (intro w hw; (try dsimp only at hw); go_simp; (try with_reducible rfl); done)); simp only [Act.put, List.setIfInBounds_toArray, List.set_cons_zero, List.set_cons_succ]; refine hK _ ?_; clear hK K)
              (refine wq_step (fun K hK => ?_); apply q_take (by kernel_rfl); (focus (intro w hw; (try dsimp only at hw); go_simp; (try with_reducible rfl); done)); simp only [Act.put, List.setIfInBounds_toArray, List.set_cons_zero, List.set_cons_succ]; refine hK _ ?_; clear hK K)
              (refine wq_step (fun K hK => ?_); apply q_take (by kernel_rfl); (focus (intro w hw; (try dsimp only at hw); go_simp; (try with_reducible rfl); done)); simp only [Act.put, List.setIfInBounds_toArray, List.set_cons_zero, List.set_cons_succ]; refine hK _ ?_; clear hK K)
              (refine wq_step (fun K hK => ?_); apply q_take (by kernel_rfl); (focus (intro w hw; (try dsimp only at hw); go_simp; (try with_reducible rfl); done)); simp only [Act.put, List.setIfInBounds_toArray, List.set_cons_zero, List.set_cons_succ]; refine hK _ ?_; clear hK K)
              (refine wq_step (fun K hK => ?_); apply q_take (by kernel_rfl); (focus (intro w hw; (try dsimp only at hw); go_simp; (try with_reducible rfl); done)); simp only [Act.put, List.setIfInBounds_toArray, List.set_cons_zero, List.set_cons_succ]; refine hK _ ?_; clear hK K)
              (refine wq_step (fun K hK => ?_); apply q_take (by kernel_rfl); (focus (intro w hw; (try dsimp only at hw); go_simp; (try with_reducible rfl); done)); simp only [Act.put, List.setIfInBounds_toArray, List.set_cons_zero, List.set_cons_succ]; refine hK _ ?_; clear hK K)
              (refine wq_step (fun K hK => ?_); apply q_take (by kernel_rfl); (focus (intro w hw; (try dsimp only at hw); go_simp; (try with_reducible rfl); done)); simp only [Act.put, List.setIfInBounds_toArray, List.set_cons_zero, List.set_cons_succ]; refine hK _ ?_; clear hK K)
              (refine wq_step (fun K hK => ?_); apply q_take (by kernel_rfl); (focus (intro w hw; (try dsimp only at hw); go_simp; (try with_reducible rfl); done)); simp only [Act.put, List.setIfInBounds_toArray, List.set_cons_zero, List.set_cons_succ]; refine hK _ ?_; clear hK K)
              (refine wq_step (fun K hK => ?_); apply q_take (by kernel_rfl); (focus (intro w hw; (try dsimp only at hw); go_simp; (try with_reducible rfl); done)); simp only [Act.put, List.setIfInBounds_toArray, List.set_cons_zero, List.set_cons_succ]; refine hK _ ?_; clear hK K)
              (refine wq_step (fun K hK => ?_); apply q_take (by kernel_rfl); (focus (intro w hw; (try dsimp only at hw); go_simp; (try with_reducible rfl); done)); simp only [Act.put, List.setIfInBounds_toArray, List.set_cons_zero, List.set_cons_succ]; refine hK _ ?_; clear hK K)
              (refine wq_step (fun K hK => ?_); apply q_take (by kernel_rfl); (focus (intro w hw; (try dsimp only at hw); go_simp; (try with_reducible rfl); done)); simp only [Act.put, List.setIfInBounds_toArray, List.set_cons_zero, List.set_cons_succ]; refine hK _ ?_; clear hK K)
              (refine wq_step (fun K hK => ?_); apply q_take (by kernel_rfl); (focus (intro w hw; (try dsimp only at hw); go_simp; (try with_reducible rfl); done)); simp only [Act.put, List.setIfInBounds_toArray, List.set_cons_zero, List.set_cons_succ]; refine hK _ ?_; clear hK K)
              (refine wq_step (fun K hK => ?_); apply q_call (by kernel_rfl); (focus (intro w hw; (try dsimp only at hw); go_simp; (try exact ⟨rfl, rfl⟩); done)); (focus (intro w hw; (try dsimp only at hw); (refine (rByReserve_calls y.f.p y.f.c (at_ now) w).mono ?_; rintro e w2 ⟨rfl, hb⟩; rw [HMAY.out]; exact ⟨rfl, hw.trans (hb.mono hw.size)⟩))); simp only [Act.put, List.setIfInBounds_toArray, List.set_cons_zero, List.set_cons_succ]; refine hK _ ?_; clear hK K)
              (refine wq_step (fun K hK => ?_); apply q_take (by rfl); (focus (intro w hw; (try dsimp only at hw); go_simp; (try with_reducible rfl); done)); simp only [Act.put, List.setIfInBounds_toArray, List.set_cons_zero, List.set_cons_succ]; refine hK _ ?_; clear hK K)
              (refine wq_step (fun K hK => ?_); apply q_take (by rfl); (focus (intro w hw; (try dsimp only at hw); go_simp; (try with_reducible rfl); done)); simp only [Act.put, List.setIfInBounds_toArray, List.set_cons_zero, List.set_cons_succ]; refine hK _ ?_; clear hK K)
              (refine wq_step (fun K hK => ?_); apply q_take (by kernel_rfl); (focus (intro w hw; (try dsimp only at hw); go_simp; (try with_reducible rfl); done)); simp only [Act.put, List.setIfInBounds_toArray, List.set_cons_zero, List.set_cons_succ]; refine hK _ ?_; clear hK K)
              (refine wq_step (fun K hK => ?_); apply q_take (by kernel_rfl); (focus (intro w hw; (try dsimp only at hw); go_simp; (try with_reducible rfl); done)); simp only [Act.put, List.setIfInBounds_toArray, List.set_cons_zero, List.set_cons_succ]; refine hK _ ?_; clear hK K)
              (refine wq_step (fun K hK => ?_); apply q_take (by kernel_rfl); (focus (intro w hw; (try dsimp only at hw); go_simp; (try with_reducible rfl); done)); simp only [Act.put, List.setIfInBounds_toArray, List.set_cons_zero, List.set_cons_succ]; refine hK _ ?_; clear hK K)
              (refine wq_step (fun K hK => ?_); apply q_take (by kernel_rfl); (focus (intro w hw; (try dsimp only at hw); go_simp; (try with_reducible rfl); done)); simp only [Act.put, List.setIfInBounds_toArray, List.set_cons_zero, List.set_cons_succ]; refine hK _ ?_; clear hK K)
              (refine wq_step (fun K hK => ?_); apply q_take (by kernel_rfl); (focus (intro w hw; (try dsimp only at hw); go_simp; (try with_reducible rfl); done)); simp only [Act.put, List.setIfInBounds_toArray, List.set_cons_zero, List.set_cons_succ]; refine hK _ ?_; clear hK K)
              (refine wq_step (fun K hK => ?_); apply q_take (by kernel_rfl); (focus (intro w hw; (try dsimp only at hw); go_simp; (try with_reducible rfl); done)); simp only [Act.put, List.setIfInBounds_toArray, List.set_cons_zero, List.set_cons_succ]; refine hK _ ?_; clear hK K)
              (refine wq_step (fun K hK => ?_); apply q_take (by kernel_rfl); (focus (intro w hw; (try dsimp only at hw); go_simp; (try with_reducible rfl); done)); simp only [Act.put, List.setIfInBounds_toArray, List.set_cons_zero, List.set_cons_succ]; refine hK _ ?_; clear hK K)
              (refine wq_step (fun K hK => ?_); apply q_take (by kernel_rfl); (focus (intro w hw; (try dsimp only at hw); go_simp; (try with_reducible rfl); done)); simp only [Act.put, List.setIfInBounds_toArray, List.set_cons_zero, List.set_cons_succ]; refine hK _ ?_; clear hK K)
              (refine wq_step (fun K hK => ?_); apply q_take (by kernel_rfl); (focus (intro w hw; (try dsimp only at hw); go_simp; (try with_reducible rfl); done)); simp only [Act.put, List.setIfInBounds_toArray, List.set_cons_zero, List.set_cons_succ]; refine hK _ ?_; clear hK K)
              (refine wq_step (fun K hK => ?_); apply q_take (by kernel_rfl); (focus (intro w hw; (try dsimp only at hw); go_simp; (try with_reducible rfl); done)); simp only [Act.put, List.setIfInBounds_toArray, List.set_cons_zero, List.set_cons_succ]; refine hK _ ?_; clear hK K)
              (refine wq_step (fun K hK => ?_); apply q_take (by kernel_rfl); (focus (intro w hw; (try dsimp only at hw); go_simp; (try with_reducible rfl); done)); simp only [Act.put, List.setIfInBounds_toArray, List.set_cons_zero, List.set_cons_succ]; refine hK _ ?_; clear hK K)
              (refine wq_step (fun K hK => ?_); apply q_take (by kernel_rfl); (focus (intro w hw; (try dsimp only at hw); go_simp; (try with_reducible rfl); done)); simp only [Act.put, List.setIfInBounds_toArray, List.set_cons_zero, List.set_cons_succ]; refine hK _ ?_; clear hK K)
              (refine wq_step (fun K hK => ?_); apply q_take (by kernel_rfl); (focus (intro w hw; (try dsimp only at hw); go_simp; (try with_reducible rfl); done)); simp only [Act.put, List.setIfInBounds_toArray, List.set_cons_zero, List.set_cons_succ]; refine hK _ ?_; clear hK K)
              (refine wq_step (fun K hK => ?_); apply q_take (by kernel_rfl); (focus (intro w hw; (try dsimp only at hw); go_simp; (try with_reducible rfl); done)); simp only [Act.put, List.setIfInBounds_toArray, List.set_cons_zero, List.set_cons_succ]; refine hK _ ?_; clear hK K)
              (refine wq_step (fun K hK => ?_); apply q_take (by kernel_rfl); (focus (intro w hw; (try dsimp only at hw); go_simp; (try with_reducible rfl); done)); simp only [Act.put, List.setIfInBounds_toArray, List.set_cons_zero, List.set_cons_succ]; refine hK _ ?_; clear hK K)
              (refine wq_step (fun K hK => ?_); apply q_take (by kernel_rfl); (focus (intro w hw; (try dsimp only at hw); go_simp; (try with_reducible rfl); done)); simp only [Act.put, List.setIfInBounds_toArray, List.set_cons_zero, List.set_cons_succ]; refine hK _ ?_; clear hK K)
              (refine wq_step (fun K hK => ?_); apply q_take (by kernel_rfl); (focus (intro w hw; (try dsimp only at hw); go_simp; (try with_reducible rfl); done)); simp only [Act.put, List.setIfInBounds_toArray, List.set_cons_zero, List.set_cons_succ]; refine hK _ ?_; clear hK K)
              (refine wq_step (fun K hK => ?_); apply q_take (by rfl); (focus (intro w hw; (try dsimp only at hw); go_simp; (try with_reducible rfl); done)); simp only [Act.put, List.setIfInBounds_toArray, List.set_cons_zero, List.set_cons_succ]; refine hK _ ?_; clear hK K)
              refine wq_nil ?_
              intro wq hwq
              go_wp2
              go_roundw
              case rel =>
                have hfin : FB D pR (pmR (at_ now)) (k + 1) (k : Int) := by
                  obtain ⟨hk2, hy2⟩ := HYK.out
                  obtain ⟨ha2, hx2⟩ := HXA.out
                  exact HFB.out.less ha2 hk2 (by rw [hy2]; exact HUP.out) (by rw [hy2]; exact HMAY.out) (by rw [hy2, hx2]; exact HL.out)
                exact ⟨k + 1, (k : Int), by omega, by go_num, rfl, hfin, hwq⟩
              case measure => simp [intOf]; omega
            · have hl2 : ¬ (y.f.c.r < x.f.c.r) := hl
              have HL := hide hl
              clear hl
              go_wp2_with fail
              refine region_q (fun w' => Below v.heap.size v w') (by kernel_rfl) (by kernel_rfl) (by (exact hbr.drew)) ?_
              (refine wq_step (fun K hK => ?_); apply q_take (by rfl); (focus (intro w hw; (try dsimp only at hw); go_simp; (try with_reducible rfl); done)); simp only [Act.put, List.setIfInBounds_toArray, List.set_cons_zero, List.set_cons_succ]; refine hK _ ?_; clear hK K)
              (refine wq_step (fun K hK => ?_); apply q_take (by rfl); (focus (intro w hw; (try dsimp only at hw); go_simp; (try with_reducible rfl); done)); simp only [Act.put, List.setIfInBounds_toArray, List.set_cons_zero, List.set_cons_succ]; refine hK _ ?_; clear hK K)
              (refine wq_step (fun K hK => ?_); apply q_take (by rfl); (focus (intro w hw; (try dsimp only at hw); go_simp; (try with_reducible rfl); done)); simp only [Act.put, List.setIfInBounds_toArray, List.set_cons_zero, List.set_cons_succ]; refine hK _ ?_; clear hK K)
              (refine wq_step (fun K hK => ?_); apply q_take (by rfl); (focus (intro w hw; (try dsimp only at hw); go_simp; (try with_reducible rfl); done)); simp only [Act.put, List.setIfInBounds_toArray, List.set_cons_zero, List.set_cons_succ]; refine hK _ ?_; clear hK K)
              (refine wq_step (fun K hK => ?_); apply q_take (by rfl); (focus (intro w hw; (try dsimp only at hw); go_simp; (try with_reducible rfl); done)); simp only [Act.put, List.setIfInBounds_toArray, List.set_cons_zero, List.set_cons_succ]; refine hK _ ?_; clear hK K)
              (refine wq_step (fun K hK => ?_); apply q_take (by rfl); (focus (intro w hw; (try dsimp only at hw); go_simp; (try with_reducible rfl); done)); simp only [Act.put, List.setIfInBounds_toArray, List.set_cons_zero, List.set_cons_succ]; refine hK _ ?_; clear hK K)
              (refine wq_step (fun K hK => ?_); apply q_take (by rfl); (focus (intro w hw; (try dsimp only at hw); go_simp; (try with_reducible rfl); done)); simp only [Act.put, List.setIfInBounds_toArray, List.set_cons_zero, List.set_cons_succ]; refine hK _ ?_; clear hK K)
              (refine wq_step (fun K hK => ?_); apply q_take (by rfl); (focus (intro w hw; (try dsimp only at hw); go_simp; (try with_reducible rfl); done)); simp only [Act.put, List.setIfInBounds_toArray, List.set_cons_zero, List.set_cons_succ]; refine hK _ ?_; clear hK K)
              (refine wq_step (fun K hK => ?_); apply q_take (by kernel_rfl); (focus (intro w hw; (try dsimp only at hw); go_simp; (try with_reducible rfl); done)); simp only [Act.put, List.setIfInBounds_toArray, List.set_cons_zero, List.set_cons_succ]; refine hK _ ?_; clear hK K)
              (refine wq_step (fun K hK => ?_); apply q_take (by kernel_rfl); (focus (intro w hw; (try dsimp only at hw); go_simp; (try with_reducible rfl); done)); simp only [Act.put, List.setIfInBounds_toArray, List.set_cons_zero, List.set_cons_succ]; refine hK _ ?_; clear hK K)
              (refine wq_step (fun K hK => ?_); apply q_take (by kernel_rfl); (focus (intro w hw; (try dsimp only at hw); go_simp; (try with_reducible rfl); done)); simp only [Act.put, List.setIfInBounds_toArray, List.set_cons_zero, List.set_cons_succ]; refine hK _ ?_; clear hK K)
              (refine wq_step (fun K hK => ?_); apply q_take (by kernel_rfl); (focus (intro w hw; (try dsimp only at hw); go_simp; (try with_reducible rfl); done)); simp only [Act.put, List.setIfInBounds_toArray, List.set_cons_zero, List.set_cons_succ]; refine hK _ ?_; clear hK K)
              (refine wq_step (fun K hK => ?_); apply q_take (by kernel_rfl); (focus (intro w hw; (try dsimp only at hw); go_simp; (try with_reducible rfl); done)); simp only [Act.put, List.setIfInBounds_toArray, List.set_cons_zero, List.set_cons_succ]; refine hK _ ?_; clear hK K)
              (refine wq_step (fun K hK => ?_); apply q_take (by kernel_rfl); (focus (intro w hw; (try dsimp only at hw); go_simp; (try with_reducible rfl); done)); simp only [Act.put, List.setIfInBounds_toArray, List.set_cons_zero, List.set_cons_succ]; refine hK _ ?_; clear hK K)
              (refine wq_step (fun K hK => ?_); apply q_take (by kernel_rfl); (focus (intro w hw; (try dsimp only at hw); go_simp; (try with_reducible rfl); done)); simp only [Act.put, List.setIfInBounds_toArray, List.set_cons_zero, List.set_cons_succ]; refine hK _ ?_; clear hK K)
              (refine wq_step (fun K hK => ?_); apply q_take (by kernel_rfl); (focus (intro w hw; (try dsimp only at hw); go_simp; (try with_reducible rfl); done)); simp only [Act.put, List.setIfInBounds_toArray, List.set_cons_zero, List.set_cons_succ]; refine hK _ ?_; clear hK K)
              (refine wq_step (fun K hK => ?_); apply q_take (by kernel_rfl); (focus (intro w hw; (try dsimp only at hw); go_simp; (try with_reducible rfl); done)); simp only [Act.put, List.setIfInBounds_toArray, List.set_cons_zero, List.set_cons_succ]; refine hK _ ?_; clear hK K)
              (refine wq_step (fun K hK => ?_); apply q_take (by kernel_rfl); (focus (intro w hw; (try dsimp only at hw); go_simp; (try with_reducible rfl); done)); simp only [Act.put, List.setIfInBounds_toArray, List.set_cons_zero, List.set_cons_succ]; refine hK _ ?_; clear hK K)
              (refine wq_step (fun K hK => ?_); apply q_take (by kernel_rfl); (focus (intro w hw; (try dsimp only at hw); go_simp; (try with_reducible rfl); done)); simp only [Act.put, List.setIfInBounds_toArray, List.set_cons_zero, List.set_cons_succ]; refine hK _ ?_; clear hK K)
              (refine wq_step (fun K hK => ?_); apply q_call (by kernel_rfl); (focus (intro w hw; (try dsimp only at hw); go_simp; (try exact ⟨rfl, rfl⟩); done)); (focus (intro w hw; (try dsimp only at hw); (refine (rByReserve_calls y.f.p y.f.c (at_ now) w).mono ?_; rintro e w2 ⟨rfl, hb⟩; rw [HMAY.out]; exact ⟨rfl, hw.trans (hb.mono hw.size)⟩))); simp only [Act.put, List.setIfInBounds_toArray, List.set_cons_zero, List.set_cons_succ]; refine hK _ ?_; clear hK K)
              (refine wq_step (fun K hK => ?_); apply q_take (by rfl); (focus (intro w hw; (try dsimp only at hw); go_simp; (try with_reducible rfl); done)); simp only [Act.put, List.setIfInBounds_toArray, List.set_cons_zero, List.set_cons_succ]; refine hK _ ?_; clear hK K)
              (refine wq_step (fun K hK => ?_); apply q_take (by rfl); (focus (intro w hw; (try dsimp only at hw); go_simp; (try with_reducible rfl); done)); simp only [Act.put, List.setIfInBounds_toArray, List.set_cons_zero, List.set_cons_succ]; refine hK _ ?_; clear hK K)
              (refine wq_step (fun K hK => ?_); apply q_take (by kernel_rfl); (focus (intro w hw; (try dsimp only at hw); go_simp; (try with_reducible rfl); done)); simp only [Act.put, List.setIfInBounds_toArray, List.set_cons_zero, List.set_cons_succ]; refine hK _ ?_; clear hK K)
              (refine wq_step (fun K hK => ?_); apply q_take (by kernel_rfl); (focus (intro w hw; (try dsimp only at hw); go_simp; (try with_reducible rfl); done)); simp only [Act.put, List.setIfInBounds_toArray, List.set_cons_zero, List.set_cons_succ]; refine hK _ ?_; clear hK K)
              (refine wq_step (fun K hK => ?_); apply q_take (by kernel_rfl); (focus (intro w hw; (try dsimp only at hw); go_simp; (try with_reducible rfl); done)); simp only [Act.put, List.setIfInBounds_toArray, List.set_cons_zero, List.set_cons_succ]; refine hK _ ?_; clear hK K)
              (refine wq_step (fun K hK => ?_); apply q_take (by kernel_rfl); (focus (intro w hw; (try dsimp only at hw); go_simp; (try with_reducible rfl); done)); simp only [Act.put, List.setIfInBounds_toArray, List.set_cons_zero, List.set_cons_succ]; refine hK _ ?_; clear hK K)
              (refine wq_step (fun K hK => ?_); apply q_take (by kernel_rfl); (focus (intro w hw; (try dsimp only at hw); go_simp; (try with_reducible rfl); done)); simp only [Act.put, List.setIfInBounds_toArray, List.set_cons_zero, List.set_cons_succ]; refine hK _ ?_; clear hK K)
              (refine wq_step (fun K hK => ?_); apply q_take (by kernel_rfl); (focus (intro w hw; (try dsimp only at hw); go_simp; (try with_reducible rfl); done)); simp only [Act.put, List.setIfInBounds_toArray, List.set_cons_zero, List.set_cons_succ]; refine hK _ ?_; clear hK K)
              (refine wq_step (fun K hK => ?_); apply q_take (by kernel_rfl); (focus (intro w hw; (try dsimp only at hw); go_simp; (try with_reducible rfl); done)); simp only [Act.put, List.setIfInBounds_toArray, List.set_cons_zero, List.set_cons_succ]; refine hK _ ?_; clear hK K)
              (refine wq_step (fun K hK => ?_); apply q_take (by kernel_rfl); (focus (intro w hw; (try dsimp only at hw); go_simp; (try with_reducible rfl); done)); simp only [Act.put, List.setIfInBounds_toArray, List.set_cons_zero, List.set_cons_succ]; refine hK _ ?_; clear hK K)
              (refine wq_step (fun K hK => ?_); apply q_take (by kernel_rfl); (focus (intro w hw; (try dsimp only at hw); go_simp; (try with_reducible rfl); done)); simp only [Act.put, List.setIfInBounds_toArray, List.set_cons_zero, List.set_cons_succ]; refine hK _ ?_; clear hK K)
              (refine wq_step (fun K hK => ?_); apply q_take (by kernel_rfl); (focus (intro w hw; (try dsimp only at hw); go_simp; (try with_reducible rfl); done)); simp only [Act.put, List.setIfInBounds_toArray, List.set_cons_zero, List.set_cons_succ]; refine hK _ ?_; clear hK K)
              (refine wq_step (fun K hK => ?_); apply q_take (by kernel_rfl); (focus (intro w hw; (try dsimp only at hw); go_simp; (try with_reducible rfl); done)); simp only [Act.put, List.setIfInBounds_toArray, List.set_cons_zero, List.set_cons_succ]; refine hK _ ?_; clear hK K)
              (refine wq_step (fun K hK => ?_); apply q_take (by kernel_rfl); (focus (intro w hw; (try dsimp only at hw); go_simp; (try with_reducible rfl); done)); simp only [Act.put, List.setIfInBounds_toArray, List.set_cons_zero, List.set_cons_succ]; refine hK _ ?_; clear hK K)
              (refine wq_step (fun K hK => ?_); apply q_take (by kernel_rfl); (focus (intro w hw; (try dsimp only at hw); go_simp; (try with_reducible rfl); done)); simp only [Act.put, List.setIfInBounds_toArray, List.set_cons_zero, List.set_cons_succ]; refine hK _ ?_; clear hK K)
              (refine wq_step (fun K hK => ?_); apply q_take (by kernel_rfl); (focus (intro w hw; (try dsimp only at hw); go_simp; (try with_reducible rfl); done)); simp only [Act.put, List.setIfInBounds_toArray, List.set_cons_zero, List.set_cons_succ]; refine hK _ ?_; clear hK K)
              (refine wq_step (fun K hK => ?_); apply q_take (by kernel_rfl); (focus (intro w hw; (try dsimp only at hw); go_simp; (try with_reducible rfl); done)); simp only [Act.put, List.setIfInBounds_toArray, List.set_cons_zero, List.set_cons_succ]; refine hK _ ?_; clear hK K)
              (refine wq_step (fun K hK => ?_); apply q_take (by kernel_rfl); (focus (intro w hw; (try dsimp only at hw); go_simp; (try with_reducible rfl); done)); simp only [Act.put, List.setIfInBounds_toArray, List.set_cons_zero, List.set_cons_succ]; refine hK _ ?_; clear hK K)
              (refine wq_step (fun K hK => ?_); apply q_take (by kernel_rfl); (focus (intro w hw; (try dsimp only at hw); go_simp; (try with_reducible rfl); done)); simp only [Act.put, List.setIfInBounds_toArray, List.set_cons_zero, List.set_cons_succ]; refine hK _ ?_; clear hK K)
              (refine wq_step (fun K hK => ?_); apply q_take (by rfl); (focus (intro w hw; (try dsimp only at hw); go_simp; (try with_reducible rfl); done)); simp only [Act.put, List.setIfInBounds_toArray, List.set_cons_zero, List.set_cons_succ]; refine hK _ ?_; clear hK K)
              refine wq_nil ?_
              intro wq hwq
              go_wp2
              go_roundw
              case rel =>
                have hfin : FB D pR (pmR (at_ now)) (k + 1) (a : Int) := by
                  obtain ⟨hk2, hy2⟩ := HYK.out
                  obtain ⟨ha2, hx2⟩ := HXA.out
                  exact HFB.out.keep ha2 hk2 (by rw [hy2, hx2]; first | exact HL.out | exact Int.not_lt.2 HL.out)
                exact ⟨k + 1, (a : Int), by omega, by go_num, rfl, hfin, hwq⟩
              case measure => simp [intOf]; omega
    · have m1 : ¬ ((k : Int) < D.length) := by omega
      have e : k = D.length := by omega
      have hfe : FB D pR (pmR (at_ now)) D.length z := by
        have := HFB.out
        rw [e] at this
        exact this
      have HFE1 := hide hfe
      clear e hfe
      rcases (HFE1).out.is with hz | ⟨a, ha, hz⟩
      · subst hz
        go_wp2_with fail
        go_loopw [6, 9] (fun av kv wr => ∃ (k : Nat) (z : Int), k ≤ D.length ∧ kv = .int .i64 k ∧ av = .int .i64 z ∧ FB D pP (pmL (at_ now)) k z ∧ Below v.heap.size v wr) (fun _ kv _ => D.length - (intOf kv).toNat)
        case atStart => exact ⟨0, -1, Nat.zero_le _, rfl, rfl, FB.start, hbr⟩
        case round =>
          obtain ⟨k, z, hk, rfl, rfl, hfb, hbr⟩ := hrel
          have HFB := hide hfb
          clear hfb
          by_cases hkl : k < D.length
          · obtain ⟨b, o, c', hv, hc1, hc2, hbb, hcell⟩ := HDV.out.at_ hkl
            injection hv with e1 _ e3
            subst e1
            obtain ⟨y, hy⟩ : ∃ y, D[k] = y := ⟨_, rfl⟩
            have rules : ∀ w', Below v.heap.size v w' → ∀ j, j < 10 → w'.cell? ⟨b, o + (k * 10 + j), none⟩ = y.cells[j]? := fun w' hb j hj => by
              rw [hb.cell (p := ⟨b, o + (k * 10 + j), none⟩) hbb, hcell j hj, hy]
            have k2 : ∀ w', Below v.heap.size v w' → w'.cell? ⟨b, o + k * 10 + 2, none⟩ = some (.int .i64 y.f.p.r) := fun w' hb => rules w' hb 2 (by omega)
            have k3 : ∀ w', Below v.heap.size v w' → w'.cell? ⟨b, o + k * 10 + 3, none⟩ = some (.int .i64 y.f.p.w) := fun w' hb => rules w' hb 3 (by omega)
            have k4 : ∀ w', Below v.heap.size v w' → w'.cell? ⟨b, o + k * 10 + 4, none⟩ = some (.int .i64 y.f.p.l) := fun w' hb => rules w' hb 4 (by omega)
            have k5 : ∀ w', Below v.heap.size v w' → w'.cell? ⟨b, o + k * 10 + 5, none⟩ = some (.int .i64 y.f.p.b) := fun w' hb => rules w' hb 5 (by omega)
            have k6 : ∀ w', Below v.heap.size v w' → w'.cell? ⟨b, o + k * 10 + 6, none⟩ = some (.int .i64 y.f.c.r) := fun w' hb => rules w' hb 6 (by omega)
            have k7 : ∀ w', Below v.heap.size v w' → w'.cell? ⟨b, o + k * 10 + 7, none⟩ = some (.int .i64 y.f.c.p) := fun w' hb => rules w' hb 7 (by omega)
            have k8 : ∀ w', Below v.heap.size v w' → w'.cell? ⟨b, o + k * 10 + 8, none⟩ = some (.int .i64 y.f.c.l) := fun w' hb => rules w' hb 8 (by omega)
            have k9 : ∀ w', Below v.heap.size v w' → w'.cell? ⟨b, o + k * 10 + 9, none⟩ = some (.slice y.A y.f.q.length y.c) := fun w' hb => rules w' hb 9 (by omega)
            have m1 : (k : Int) < D.length := by omega
            have HYK := hide (show ∃ hk : k < D.length, D[k] = y from ⟨hkl, hy⟩)
            have HBR := hide hbr
            clear rules hcell hy e3 hc1 hc2
            by_cases hu : y.f.q = []
            · have u0 : y.f.q.length = 0 := by rw [hu]; rfl
              rw [u0] at k9
              have hup : up y.f = false := by simp [up, hu]
              have HUP := hide hup
              clear hup hu u0
              go_wp2_with fail
              refine region_q (fun w' => Below v.heap.size v w') (by kernel_rfl) (by kernel_rfl) (by (exact hbr.drew)) ?_
              (refine wq_step (fun K hK => ?_); apply q_take (by rfl); (focus (intro w hw; (try dsimp only at hw); go_simp; (try with_reducible rfl); done)); simp only [Act.put, List.setIfInBounds_toArray, List.set_cons_zero, List.set_cons_succ]; refine hK _ ?_; clear hK K)
              (refine wq_step (fun K hK => ?_); apply q_take (by rfl); (focus (intro w hw; (try dsimp only at hw); go_simp; (try with_reducible rfl); done)); simp only [Act.put, List.setIfInBounds_toArray, List.set_cons_zero, List.set_cons_succ]; refine hK _ ?_; clear hK K)
              (refine wq_step (fun K hK => ?_); apply q_take (by rfl); (focus (intro w hw; (try dsimp only at hw); go_simp; (try with_reducible rfl); done)); simp only [Act.put, List.setIfInBounds_toArray, List.set_cons_zero, List.set_cons_succ]; refine hK _ ?_; clear hK K)
              (refine wq_step (fun K hK => ?_); apply q_take (by rfl); (focus (intro w hw; (try dsimp only at hw); go_simp; (try with_reducible rfl); done)); simp only [Act.put, List.setIfInBounds_toArray, List.set_cons_zero, List.set_cons_succ]; refine hK _ ?_; clear hK K)
              (refine wq_step (fun K hK => ?_); apply q_take (by rfl); (focus (intro w hw; (try dsimp only at hw); go_simp; (try with_reducible rfl); done)); simp only [Act.put, List.setIfInBounds_toArray, List.set_cons_zero, List.set_cons_succ]; refine hK _ ?_; clear hK K)
              (refine wq_step (fun K hK => ?_); apply q_take (by rfl); (focus (intro w hw; (try dsimp only at hw); go_simp; (try with_reducible rfl); done)); simp only [Act.put, List.setIfInBounds_toArray, List.set_cons_zero, List.set_cons_succ]; refine hK _ ?_; clear hK K)
              (refine wq_step (fun K hK => ?_); apply q_take (by rfl); (focus (intro w hw; (try dsimp only at hw); go_simp; (try with_reducible rfl); done)); simp only [Act.put, List.setIfInBounds_toArray, List.set_cons_zero, List.set_cons_succ]; refine hK _ ?_; clear hK K)
              (refine wq_step (fun K hK => ?_); apply q_take (by rfl); (focus (intro w hw; (try dsimp only at hw); go_simp; (try with_reducible rfl); done)); simp only [Act.put, List.setIfInBounds_toArray, List.set_cons_zero, List.set_cons_succ]; refine hK _ ?_; clear hK K)
              (refine wq_step (fun K hK => ?_); refine q_skip (by kernel_rfl) ?_; simp only [Act.put, List.setIfInBounds_toArray, List.set_cons_zero, List.set_cons_succ]; refine hK _ ?_; clear hK K)
              (refine wq_step (fun K hK => ?_); refine q_skip (by kernel_rfl) ?_; simp only [Act.put, List.setIfInBounds_toArray, List.set_cons_zero, List.set_cons_succ]; refine hK _ ?_; clear hK K)
              (refine wq_step (fun K hK => ?_); refine q_skip (by kernel_rfl) ?_; simp only [Act.put, List.setIfInBounds_toArray, List.set_cons_zero, List.set_cons_succ]; refine hK _ ?_; clear hK K)
              (refine wq_step (fun K hK => ?_); refine q_skip (by kernel_rfl) ?_; simp only [Act.put, List.setIfInBounds_toArray, List.set_cons_zero, List.set_cons_succ]; refine hK _ ?_; clear hK K)
              (refine wq_step (fun K hK => ?_); refine q_skip (by kernel_rfl) ?_; simp only [Act.put, List.setIfInBounds_toArray, List.set_cons_zero, List.set_cons_succ]; refine hK _ ?_; clear hK K)
              (refine wq_step (fun K hK => ?_); refine q_skip (by kernel_rfl) ?_; simp only [Act.put, List.setIfInBounds_toArray, List.set_cons_zero, List.set_cons_succ]; refine hK _ ?_; clear hK K)
              (refine wq_step (fun K hK => ?_); refine q_skip (by kernel_rfl) ?_; simp only [Act.put, List.setIfInBounds_toArray, List.set_cons_zero, List.set_cons_succ]; refine hK _ ?_; clear hK K)
              (refine wq_step (fun K hK => ?_); refine q_skip (by kernel_rfl) ?_; simp only [Act.put, List.setIfInBounds_toArray, List.set_cons_zero, List.set_cons_succ]; refine hK _ ?_; clear hK K)
              (refine wq_step (fun K hK => ?_); refine q_skip (by kernel_rfl) ?_; simp only [Act.put, List.setIfInBounds_toArray, List.set_cons_zero, List.set_cons_succ]; refine hK _ ?_; clear hK K)
              (refine wq_step (fun K hK => ?_); refine q_skip (by kernel_rfl) ?_; simp only [Act.put, List.setIfInBounds_toArray, List.set_cons_zero, List.set_cons_succ]; refine hK _ ?_; clear hK K)
              (refine wq_step (fun K hK => ?_); refine q_skip (by kernel_rfl) ?_; simp only [Act.put, List.setIfInBounds_toArray, List.set_cons_zero, List.set_cons_succ]; refine hK _ ?_; clear hK K)
              (refine wq_step (fun K hK => ?_); refine q_skip (by kernel_rfl) ?_; simp only [Act.put, List.setIfInBounds_toArray, List.set_cons_zero, List.set_cons_succ]; refine hK _ ?_; clear hK K)
              (refine wq_step (fun K hK => ?_); apply q_take (by rfl); (focus (intro w hw; (try dsimp only at hw); go_simp; (try with_reducible rfl); done)); simp only [Act.put, List.setIfInBounds_toArray, List.set_cons_zero, List.set_cons_succ]; refine hK _ ?_; clear hK K)
              (refine wq_step (fun K hK => ?_); apply q_take (by rfl); (focus (intro w hw; (try dsimp only at hw); go_simp; (try with_reducible rfl); done)); simp only [Act.put, List.setIfInBounds_toArray, List.set_cons_zero, List.set_cons_succ]; refine hK _ ?_; clear hK K)
              (refine wq_step (fun K hK => ?_); refine q_skip (by kernel_rfl) ?_; simp only [Act.put, List.setIfInBounds_toArray, List.set_cons_zero, List.set_cons_succ]; refine hK _ ?_; clear hK K)
              (refine wq_step (fun K hK => ?_); refine q_skip (by kernel_rfl) ?_; simp only [Act.put, List.setIfInBounds_toArray, List.set_cons_zero, List.set_cons_succ]; refine hK _ ?_; clear hK K)
              (refine wq_step (fun K hK => ?_); refine q_skip (by kernel_rfl) ?_; simp only [Act.put, List.setIfInBounds_toArray, List.set_cons_zero, List.set_cons_succ]; refine hK _ ?_; clear hK K)
              (refine wq_step (fun K hK => ?_); refine q_skip (by kernel_rfl) ?_; simp only [Act.put, List.setIfInBounds_toArray, List.set_cons_zero, List.set_cons_succ]; refine hK _ ?_; clear hK K)
              (refine wq_step (fun K hK => ?_); refine q_skip (by kernel_rfl) ?_; simp only [Act.put, List.setIfInBounds_toArray, List.set_cons_zero, List.set_cons_succ]; refine hK _ ?_; clear hK K)
              (refine wq_step (fun K hK => ?_); refine q_skip (by kernel_rfl) ?_; simp only [Act.put, List.setIfInBounds_toArray, List.set_cons_zero, List.set_cons_succ]; refine hK _ ?_; clear hK K)
              (refine wq_step (fun K hK => ?_); refine q_skip (by kernel_rfl) ?_; simp only [Act.put, List.setIfInBounds_toArray, List.set_cons_zero, List.set_cons_succ]; refine hK _ ?_; clear hK K)
              (refine wq_step (fun K hK => ?_); refine q_skip (by kernel_rfl) ?_; simp only [Act.put, List.setIfInBounds_toArray, List.set_cons_zero, List.set_cons_succ]; refine hK _ ?_; clear hK K)
              (refine wq_step (fun K hK => ?_); refine q_skip (by kernel_rfl) ?_; simp only [Act.put, List.setIfInBounds_toArray, List.set_cons_zero, List.set_cons_succ]; refine hK _ ?_; clear hK K)
              (refine wq_step (fun K hK => ?_); refine q_skip (by kernel_rfl) ?_; simp only [Act.put, List.setIfInBounds_toArray, List.set_cons_zero, List.set_cons_succ]; refine hK _ ?_; clear hK K)
              (refine wq_step (fun K hK => ?_); refine q_skip (by kernel_rfl) ?_; simp only [Act.put, List.setIfInBounds_toArray, List.set_cons_zero, List.set_cons_succ]; refine hK _ ?_; clear hK K)
              (refine wq_step (fun K hK => ?_); refine q_skip (by kernel_rfl) ?_; simp only [Act.put, List.setIfInBounds_toArray, List.set_cons_zero, List.set_cons_succ]; refine hK _ ?_; clear hK K)
              (refine wq_step (fun K hK => ?_); refine q_skip (by kernel_rfl) ?_; simp only [Act.put, List.setIfInBounds_toArray, List.set_cons_zero, List.set_cons_succ]; refine hK _ ?_; clear hK K)
              (refine wq_step (fun K hK => ?_); refine q_skip (by kernel_rfl) ?_; simp only [Act.put, List.setIfInBounds_toArray, List.set_cons_zero, List.set_cons_succ]; refine hK _ ?_; clear hK K)
              (refine wq_step (fun K hK => ?_); refine q_skip (by kernel_rfl) ?_; simp only [Act.put, List.setIfInBounds_toArray, List.set_cons_zero, List.set_cons_succ]; refine hK _ ?_; clear hK K)
              (refine wq_step (fun K hK => ?_); refine q_skip (by kernel_rfl) ?_; simp only [Act.put, List.setIfInBounds_toArray, List.set_cons_zero, List.set_cons_succ]; refine hK _ ?_; clear hK K)
              (refine wq_step (fun K hK => ?_); refine q_skip (by kernel_rfl) ?_; simp only [Act.put, List.setIfInBounds_toArray, List.set_cons_zero, List.set_cons_succ]; refine hK _ ?_; clear hK K)
              (refine wq_step (fun K hK => ?_); apply q_take (by rfl); (focus (intro w hw; (try dsimp only at hw); go_simp; (try with_reducible rfl); done)); simp only [Act.put, List.setIfInBounds_toArray, List.set_cons_zero, List.set_cons_succ]; refine hK _ ?_; clear hK K)
              refine wq_nil ?_
              intro wq hwq
              go_wp2
              go_roundw
              case rel => exact ⟨k + 1, z, by omega, by go_num, rfl, by
                obtain ⟨hk2, hy2⟩ := HYK.out
                exact HFB.out.skip hk2 (by rw [hy2]; intro h; rw [HUP.out] at h; cases h.1), hwq⟩
              case measure => simp [intOf]; omega
            · have hup : up y.f = true := by simp [up, hu]
              have u0 : 0 < y.f.q.length := List.length_pos_iff.2 hu
              have u1 : (0 : Int) < y.f.q.length := by omega
              have HUP := hide hup
              clear hup hu
              cases hmay : byLimit y.f.p y.f.c (at_ now)
              · have HMAY := hide hmay
                go_wp2_with fail
                refine region_q (fun w' => Below v.heap.size v w') (by kernel_rfl) (by kernel_rfl) (by (exact hbr.drew)) ?_
                (refine wq_step (fun K hK => ?_); apply q_take (by rfl); (focus (intro w hw; (try dsimp only at hw); go_simp; (try with_reducible rfl); done)); simp only [Act.put, List.setIfInBounds_toArray, List.set_cons_zero, List.set_cons_succ]; refine hK _ ?_; clear hK K)
                (refine wq_step (fun K hK => ?_); apply q_take (by rfl); (focus (intro w hw; (try dsimp only at hw); go_simp; (try with_reducible rfl); done)); simp only [Act.put, List.setIfInBounds_toArray, List.set_cons_zero, List.set_cons_succ]; refine hK _ ?_; clear hK K)
                (refine wq_step (fun K hK => ?_); apply q_take (by rfl); (focus (intro w hw; (try dsimp only at hw); go_simp; (try with_reducible rfl); done)); simp only [Act.put, List.setIfInBounds_toArray, List.set_cons_zero, List.set_cons_succ]; refine hK _ ?_; clear hK K)
                (refine wq_step (fun K hK => ?_); apply q_take (by rfl); (focus (intro w hw; (try dsimp only at hw); go_simp; (try with_reducible rfl); done)); simp only [Act.put, List.setIfInBounds_toArray, List.set_cons_zero, List.set_cons_succ]; refine hK _ ?_; clear hK K)
                (refine wq_step (fun K hK => ?_); apply q_take (by rfl); (focus (intro w hw; (try dsimp only at hw); go_simp; (try with_reducible rfl); done)); simp only [Act.put, List.setIfInBounds_toArray, List.set_cons_zero, List.set_cons_succ]; refine hK _ ?_; clear hK K)
                (refine wq_step (fun K hK => ?_); apply q_take (by rfl); (focus (intro w hw; (try dsimp only at hw); go_simp; (try with_reducible rfl); done)); simp only [Act.put, List.setIfInBounds_toArray, List.set_cons_zero, List.set_cons_succ]; refine hK _ ?_; clear hK K)
                (refine wq_step (fun K hK => ?_); apply q_take (by rfl); (focus (intro w hw; (try dsimp only at hw); go_simp; (try with_reducible rfl); done)); simp only [Act.put, List.setIfInBounds_toArray, List.set_cons_zero, List.set_cons_succ]; refine hK _ ?_; clear hK K)
                (refine wq_step (fun K hK => ?_); apply q_take (by rfl); (focus (intro w hw; (try dsimp only at hw); go_simp; (try with_reducible rfl); done)); simp only [Act.put, List.setIfInBounds_toArray, List.set_cons_zero, List.set_cons_succ]; refine hK _ ?_; clear hK K)
                (refine wq_step (fun K hK => ?_); apply q_take (by kernel_rfl); (focus (intro w hw; (try dsimp only at hw); go_simp; (try with_reducible rfl); done)); simp only [Act.put, List.setIfInBounds_toArray, List.set_cons_zero, List.set_cons_succ]; refine hK _ ?_; clear hK K)
                (refine wq_step (fun K hK => ?_); apply q_take (by kernel_rfl); (focus (intro w hw; (try dsimp only at hw); go_simp; (try with_reducible rfl); done)); simp only [Act.put, List.setIfInBounds_toArray, List.set_cons_zero, List.set_cons_succ]; refine hK _ ?_; clear hK K)
                (refine wq_step (fun K hK => ?_); apply q_take (by kernel_rfl); (focus (intro w hw; (try dsimp only at hw); go_simp; (try with_reducible rfl); done)); simp only [Act.put, List.setIfInBounds_toArray, List.set_cons_zero, List.set_cons_succ]; refine hK _ ?_; clear hK K)
                (refine wq_step (fun K hK => ?_); apply q_take (by kernel_rfl); (focus (intro w hw; (try dsimp only at hw); go_simp; (try with_reducible rfl); done)); simp only [Act.put, List.setIfInBounds_toArray, List.set_cons_zero, List.set_cons_succ]; refine hK _ ?_; clear hK K)
                (refine wq_step (fun K hK => ?_); apply q_take (by kernel_rfl); (focus (intro w hw; (try dsimp only at hw); go_simp; (try with_reducible rfl); done)); simp only [Act.put, List.setIfInBounds_toArray, List.set_cons_zero, List.set_cons_succ]; refine hK _ ?_; clear hK K)
                (refine wq_step (fun K hK => ?_); apply q_take (by kernel_rfl); (focus (intro w hw; (try dsimp only at hw); go_simp; (try with_reducible rfl); done)); simp only [Act.put, List.setIfInBounds_toArray, List.set_cons_zero, List.set_cons_succ]; refine hK _ ?_; clear hK K)
                (refine wq_step (fun K hK => ?_); apply q_take (by kernel_rfl); (focus (intro w hw; (try dsimp only at hw); go_simp; (try with_reducible rfl); done)); simp only [Act.put, List.setIfInBounds_toArray, List.set_cons_zero, List.set_cons_succ]; refine hK _ ?_; clear hK K)
                (refine wq_step (fun K hK => ?_); apply q_take (by kernel_rfl); (focus (intro w hw; (try dsimp only at hw); go_simp; (try with_reducible rfl); done)); simp only [Act.put, List.setIfInBounds_toArray, List.set_cons_zero, List.set_cons_succ]; refine hK _ ?_; clear hK K)
                (refine wq_step (fun K hK => ?_); apply q_take (by kernel_rfl); (focus (intro w hw; (try dsimp only at hw); go_simp; (try with_reducible rfl); done)); simp only [Act.put, List.setIfInBounds_toArray, List.set_cons_zero, List.set_cons_succ]; refine hK _ ?_; clear hK K)
                (refine wq_step (fun K hK => ?_); apply q_take (by kernel_rfl); (focus (intro w hw; (try dsimp only at hw); go_simp; (try with_reducible rfl); done)); simp only [Act.put, List.setIfInBounds_toArray, List.set_cons_zero, List.set_cons_succ]; refine hK _ ?_; clear hK K)
                (refine wq_step (fun K hK => ?_); apply q_take (by kernel_rfl); (focus (intro w hw; (try dsimp only at hw); go_simp; (try with_reducible rfl); done)); simp only [Act.put, List.setIfInBounds_toArray, List.set_cons_zero, List.set_cons_succ]; refine hK _ ?_; clear hK K)
                (refine wq_step (fun K hK => ?_); apply q_call (by kernel_rfl); (focus (intro w hw; (try dsimp only at hw); go_simp; (try exact ⟨rfl, rfl⟩); done)); (focus (intro w hw; (try dsimp only at hw); (refine (rByLimit_calls y.f.p y.f.c (at_ now) w).mono ?_; rintro e w2 ⟨rfl, hb⟩; rw [HMAY.out]; exact ⟨rfl, hw.trans (hb.mono hw.size)⟩))); simp only [Act.put, List.setIfInBounds_toArray, List.set_cons_zero, List.set_cons_succ]; refine hK _ ?_; clear hK K)
                (refine wq_step (fun K hK => ?_); apply q_take (by rfl); (focus (intro w hw; (try dsimp only at hw); go_simp; (try with_reducible rfl); done)); simp only [Act.put, List.setIfInBounds_toArray, List.set_cons_zero, List.set_cons_succ]; refine hK _ ?_; clear hK K)
                (refine wq_step (fun K hK => ?_); apply q_take (by rfl); (focus (intro w hw; (try dsimp only at hw); go_simp; (try with_reducible rfl); done)); simp only [Act.put, List.setIfInBounds_toArray, List.set_cons_zero, List.set_cons_succ]; refine hK _ ?_; clear hK K)
                (refine wq_step (fun K hK => ?_); refine q_skip (by kernel_rfl) ?_; simp only [Act.put, List.setIfInBounds_toArray, List.set_cons_zero, List.set_cons_succ]; refine hK _ ?_; clear hK K)
                (refine wq_step (fun K hK => ?_); refine q_skip (by kernel_rfl) ?_; simp only [Act.put, List.setIfInBounds_toArray, List.set_cons_zero, List.set_cons_succ]; refine hK _ ?_; clear hK K)
                (refine wq_step (fun K hK => ?_); refine q_skip (by kernel_rfl) ?_; simp only [Act.put, List.setIfInBounds_toArray, List.set_cons_zero, List.set_cons_succ]; refine hK _ ?_; clear hK K)
                (refine wq_step (fun K hK => ?_); refine q_skip (by kernel_rfl) ?_; simp only [Act.put, List.setIfInBounds_toArray, List.set_cons_zero, List.set_cons_succ]; refine hK _ ?_; clear hK K)
                (refine wq_step (fun K hK => ?_); refine q_skip (by kernel_rfl) ?_; simp only [Act.put, List.setIfInBounds_toArray, List.set_cons_zero, List.set_cons_succ]; refine hK _ ?_; clear hK K)
                (refine wq_step (fun K hK => ?_); refine q_skip (by kernel_rfl) ?_; simp only [Act.put, List.setIfInBounds_toArray, List.set_cons_zero, List.set_cons_succ]; refine hK _ ?_; clear hK K)
                (refine wq_step (fun K hK => ?_); refine q_skip (by kernel_rfl) ?_; simp only [Act.put, List.setIfInBounds_toArray, List.set_cons_zero, List.set_cons_succ]; refine hK _ ?_; clear hK K)
                (refine wq_step (fun K hK => ?_); refine q_skip (by kernel_rfl) ?_; simp only [Act.put, List.setIfInBounds_toArray, List.set_cons_zero, List.set_cons_succ]; refine hK _ ?_; clear hK K)
                (refine wq_step (fun K hK => ?_); refine q_skip (by kernel_rfl) ?_; simp only [Act.put, List.setIfInBounds_toArray, List.set_cons_zero, List.set_cons_succ]; refine hK _ ?_; clear hK K)
                (refine wq_step (fun K hK => ?_); refine q_skip (by kernel_rfl) ?_; simp only [Act.put, List.setIfInBounds_toArray, List.set_cons_zero, List.set_cons_succ]; refine hK _ ?_; clear hK K)
                (refine wq_step (fun K hK => ?_); refine q_skip (by kernel_rfl) ?_; simp only [Act.put, List.setIfInBounds_toArray, List.set_cons_zero, List.set_cons_succ]; refine hK _ ?_; clear hK K)
                (refine wq_step (fun K hK => ?_); refine q_skip (by kernel_rfl) ?_; simp only [Act.put, List.setIfInBounds_toArray, List.set_cons_zero, List.set_cons_succ]; refine hK _ ?_; clear hK K)
                (refine wq_step (fun K hK => ?_); refine q_skip (by kernel_rfl) ?_; simp only [Act.put, List.setIfInBounds_toArray, List.set_cons_zero, List.set_cons_succ]; refine hK _ ?_; clear hK K)
                (refine wq_step (fun K hK => ?_); refine q_skip (by kernel_rfl) ?_; simp only [Act.put, List.setIfInBounds_toArray, List.set_cons_zero, List.set_cons_succ]; refine hK _ ?_; clear hK K)
                (refine wq_step (fun K hK => ?_); refine q_skip (by kernel_rfl) ?_; simp only [Act.put, List.setIfInBounds_toArray, List.set_cons_zero, List.set_cons_succ]; refine hK _ ?_; clear hK K)
                (refine wq_step (fun K hK => ?_); refine q_skip (by kernel_rfl) ?_; simp only [Act.put, List.setIfInBounds_toArray, List.set_cons_zero, List.set_cons_succ]; refine hK _ ?_; clear hK K)
                (refine wq_step (fun K hK => ?_); refine q_skip (by kernel_rfl) ?_; simp only [Act.put, List.setIfInBounds_toArray, List.set_cons_zero, List.set_cons_succ]; refine hK _ ?_; clear hK K)
                (refine wq_step (fun K hK => ?_); apply q_take (by rfl); (focus (intro w hw; (try dsimp only at hw); go_simp; (try with_reducible rfl); done)); simp only [Act.put, List.setIfInBounds_toArray, List.set_cons_zero, List.set_cons_succ]; refine hK _ ?_; clear hK K)
                refine wq_nil ?_
                intro wq hwq
                go_wp2
                go_roundw
                case rel => exact ⟨k + 1, z, by omega, by go_num, rfl, by
                  obtain ⟨hk2, hy2⟩ := HYK.out
                  exact HFB.out.skip hk2 (by rw [hy2]; intro h; have h2 : byLimit y.f.p y.f.c (at_ now) = true := h.2; rw [HMAY.out] at h2; cases h2), hwq⟩
                case measure => simp [intOf]; omega
              · have HMAY := hide hmay
                rcases HFB.out.is with hz | ⟨a, ha, hz⟩
                · subst hz
                  go_wp2_with fail
                  refine region_q (fun w' => Below v.heap.size v w') (by kernel_rfl) (by kernel_rfl) (by (exact hbr.drew)) ?_
                  (refine wq_step (fun K hK => ?_); apply q_take (by rfl); (focus (intro w hw; (try dsimp only at hw); go_simp; (try with_reducible rfl); done)); simp only [Act.put, List.setIfInBounds_toArray, List.set_cons_zero, List.set_cons_succ]; refine hK _ ?_; clear hK K)
                  (refine wq_step (fun K hK => ?_); apply q_take (by rfl); (focus (intro w hw; (try dsimp only at hw); go_simp; (try with_reducible rfl); done)); simp only [Act.put, List.setIfInBounds_toArray, List.set_cons_zero, List.set_cons_succ]; refine hK _ ?_; clear hK K)
                  (refine wq_step (fun K hK => ?_); apply q_take (by rfl); (focus (intro w hw; (try dsimp only at hw); go_simp; (try with_reducible rfl); done)); simp only [Act.put, List.setIfInBounds_toArray, List.set_cons_zero, List.set_cons_succ]; refine hK _ ?_; clear hK K)
                  (refine wq_step (fun K hK => ?_); apply q_take (by rfl); (focus (intro w hw; (try dsimp only at hw); go_simp; (try with_reducible rfl); done)); simp only [Act.put, List.setIfInBounds_toArray, List.set_cons_zero, List.set_cons_succ]; refine hK _ ?_; clear hK K)
                  (refine wq_step (fun K hK => ?_); apply q_take (by rfl); (focus (intro w hw; (try dsimp only at hw); go_simp; (try with_reducible rfl); done)); simp only [Act.put, List.setIfInBounds_toArray, List.set_cons_zero, List.set_cons_succ]; refine hK _ ?_; clear hK K)
                  (refine wq_step (fun K hK => ?_); apply q_take (by rfl); (focus (intro w hw; (try dsimp only at hw); go_simp; (try with_reducible rfl); done)); simp only [Act.put, List.setIfInBounds_toArray, List.set_cons_zero, List.set_cons_succ]; refine hK _ ?_; clear hK K)
                  (refine wq_step (fun K hK => ?_); apply q_take (by rfl); (focus (intro w hw; (try dsimp only at hw); go_simp; (try with_reducible rfl); done)); simp only [Act.put, List.setIfInBounds_toArray, List.set_cons_zero, List.set_cons_succ]; refine hK _ ?_; clear hK K)
                  (refine wq_step (fun K hK => ?_); apply q_take (by rfl); (focus (intro w hw; (try dsimp only at hw); go_simp; (try with_reducible rfl); done)); simp only [Act.put, List.setIfInBounds_toArray, List.set_cons_zero, List.set_cons_succ]; refine hK _ ?_; clear hK K)
                  (refine wq_step (fun K hK => ?_); apply q_take (by kernel_rfl); (focus (intro w hw; (try dsimp only at hw); go_simp; (try with_reducible rfl); done)); simp only [Act.put, List.setIfInBounds_toArray, List.set_cons_zero, List.set_cons_succ]; refine hK _ ?_; clear hK K)
                  (refine wq_step (fun K hK => ?_); apply q_take (by kernel_rfl); (focus (intro w hw; (try dsimp only at hw); go_simp; (try with_reducible rfl); done)); simp only [Act.put, List.setIfInBounds_toArray, List.set_cons_zero, List.set_cons_succ]; refine hK _ ?_; clear hK K)
                  (refine wq_step (fun K hK => ?_); apply q_take (by kernel_rfl); (focus (intro w hw; (try dsimp only at hw); go_simp; (try with_reducible rfl); done)); simp only [Act.put, List.setIfInBounds_toArray, List.set_cons_zero, List.set_cons_succ]; refine hK _ ?_; clear hK K)
                  (refine wq_step (fun K hK => ?_); apply q_take (by kernel_rfl); (focus (intro w hw; (try dsimp only at hw); go_simp; (try with_reducible rfl); done)); simp only [Act.put, List.setIfInBounds_toArray, List.set_cons_zero, List.set_cons_succ]; refine hK _ ?_; clear hK K)
                  (refine wq_step (fun K hK => ?_); apply q_take (by kernel_rfl); (focus (intro w hw; (try dsimp only at hw); go_simp; (try with_reducible rfl); done)); simp only [Act.put, List.setIfInBounds_toArray, List.set_cons_zero, List.set_cons_succ]; refine hK _ ?_; clear hK K)
                  (refine wq_step (fun K hK => ?_); apply q_take (by kernel_rfl); (focus (intro w hw; (try dsimp only at hw); go_simp; (try with_reducible rfl); done)); simp only [Act.put, List.setIfInBounds_toArray, List.set_cons_zero, List.set_cons_succ]; refine hK _ ?_; clear hK K)
                  (refine wq_step (fun K hK => ?_); apply q_take (by kernel_rfl); (focus (intro w hw; (try dsimp only at hw); go_simp; (try with_reducible rfl); done)); simp only [Act.put, List.setIfInBounds_toArray, List.set_cons_zero, List.set_cons_succ]; refine hK _ ?_; clear hK K)
                  (refine wq_step (fun K hK => ?_); apply q_take (by kernel_rfl); (focus (intro w hw; (try dsimp only at hw); go_simp; (try with_reducible rfl); done)); simp only [Act.put, List.setIfInBounds_toArray, List.set_cons_zero, List.set_cons_succ]; refine hK _ ?_; clear hK K)
                  (refine wq_step (fun K hK => ?_); apply q_take (by kernel_rfl); (focus (intro w hw; (try dsimp only at hw); go_simp; (try with_reducible rfl); done)); simp only [Act.put, List.setIfInBounds_toArray, List.set_cons_zero, List.set_cons_succ]; refine hK _ ?_; clear hK K)
                  (refine wq_step (fun K hK => ?_); apply q_take (by kernel_rfl); (focus (intro w hw; (try dsimp only at hw); go_simp; (try with_reducible rfl); done)); simp only [Act.put, List.setIfInBounds_toArray, List.set_cons_zero, List.set_cons_succ]; refine hK _ ?_; clear hK K)
                  (refine wq_step (fun K hK => ?_); apply q_take (by kernel_rfl); (focus (intro w hw; (try dsimp only at hw); go_simp; (try with_reducible rfl); done)); simp only [Act.put, List.setIfInBounds_toArray, List.set_cons_zero, List.set_cons_succ]; refine hK _ ?_; clear hK K)
                  (refine wq_step (fun K hK => ?_); apply q_call (by kernel_rfl); (focus (intro w hw; (try dsimp only at hw); go_simp; (try exact ⟨rfl, rfl⟩); done)); (focus (intro w hw; (try dsimp only at hw); (refine (rByLimit_calls y.f.p y.f.c (at_ now) w).mono ?_; rintro e w2 ⟨rfl, hb⟩; rw [HMAY.out]; exact ⟨rfl, hw.trans (hb.mono hw.size)⟩))); simp only [Act.put, List.setIfInBounds_toArray, List.set_cons_zero, List.set_cons_succ]; refine hK _ ?_; clear hK K)
                  (refine wq_step (fun K hK => ?_); apply q_take (by rfl); (focus (intro w hw; (try dsimp only at hw); go_simp; (try with_reducible rfl); done)); simp only [Act.put, List.setIfInBounds_toArray, List.set_cons_zero, List.set_cons_succ]; refine hK _ ?_; clear hK K)
                  (refine wq_step (fun K hK => ?_); apply q_take (by rfl); (focus (intro w hw; (try dsimp only at hw); go_simp; (try with_reducible rfl); done)); simp only [Act.put, List.setIfInBounds_toArray, List.set_cons_zero, List.set_cons_succ]; refine hK _ ?_; clear hK K)
                  (refine wq_step (fun K hK => ?_); apply q_take (by kernel_rfl); (focus (intro w hw; (try dsimp only at hw); go_simp; (try with_reducible rfl); done)); simp only [Act.put, List.setIfInBounds_toArray, List.set_cons_zero, List.set_cons_succ]; refine hK _ ?_; clear hK K)
                  (refine wq_step (fun K hK => ?_); apply q_take (by kernel_rfl); (focus (intro w hw; (try dsimp only at hw); go_simp; (try with_reducible rfl); done)); simp only [Act.put, List.setIfInBounds_toArray, List.set_cons_zero, List.set_cons_succ]; refine hK _ ?_; clear hK K)
                  (refine wq_step (fun K hK => ?_); apply q_take (by kernel_rfl); (focus (intro w hw; (try dsimp only at hw); go_simp; (try with_reducible rfl); done)); simp only [Act.put, List.setIfInBounds_toArray, List.set_cons_zero, List.set_cons_succ]; refine hK _ ?_; clear hK K)
                  (refine wq_step (fun K hK => ?_); refine q_skip (by kernel_rfl) ?_; simp only [Act.put, List.setIfInBounds_toArray, List.set_cons_zero, List.set_cons_succ]; refine hK _ ?_; clear hK K)
                  (refine wq_step (fun K hK => ?_); refine q_skip (by kernel_rfl) ?_; simp only [Act.put, List.setIfInBounds_toArray, List.set_cons_zero, List.set_cons_succ]; refine hK _ ?_; clear hK K)
                  (refine wq_step (fun K hK => ?_); refine q_skip (by kernel_rfl) ?_; simp only [Act.put, List.setIfInBounds_toArray, List.set_cons_zero, List.set_cons_succ]; refine hK _ ?_; clear hK K)
                  (refine wq_step (fun K hK => ?_); refine q_skip (by kernel_rfl) ?_; simp only [Act.put, List.setIfInBounds_toArray, List.set_cons_zero, List.set_cons_succ]; refine hK _ ?_; clear hK K)
                  (refine wq_step (fun K hK => ?_); refine q_skip (by kernel_rfl) ?_; simp only [Act.put, List.setIfInBounds_toArray, List.set_cons_zero, List.set_cons_succ]; refine hK _ ?_; clear hK K)
                  (refine wq_step (fun K hK => ?_); refine q_skip (by kernel_rfl) ?_; simp only [Act.put, List.setIfInBounds_toArray, List.set_cons_zero, List.set_cons_succ]; refine hK _ ?_; clear hK K)
                  (refine wq_step (fun K hK => ?_); refine q_skip (by kernel_rfl) ?_; simp only [Act.put, List.setIfInBounds_toArray, List.set_cons_zero, List.set_cons_succ]; refine hK _ ?_; clear hK K)
                  (refine wq_step (fun K hK => ?_); refine q_skip (by kernel_rfl) ?_; simp only [Act.put, List.setIfInBounds_toArray, List.set_cons_zero, List.set_cons_succ]; refine hK _ ?_; clear hK K)
                  (refine wq_step (fun K hK => ?_); refine q_skip (by kernel_rfl) ?_; simp only [Act.put, List.setIfInBounds_toArray, List.set_cons_zero, List.set_cons_succ]; refine hK _ ?_; clear hK K)
                  (refine wq_step (fun K hK => ?_); refine q_skip (by kernel_rfl) ?_; simp only [Act.put, List.setIfInBounds_toArray, List.set_cons_zero, List.set_cons_succ]; refine hK _ ?_; clear hK K)
                  (refine wq_step (fun K hK => ?_); refine q_skip (by kernel_rfl) ?_; simp only [Act.put, List.setIfInBounds_toArray, List.set_cons_zero, List.set_cons_succ]; refine hK _ ?_; clear hK K)
                  (refine wq_step (fun K hK => ?_); refine q_skip (by kernel_rfl) ?_; simp only [Act.put, List.setIfInBounds_toArray, List.set_cons_zero, List.set_cons_succ]; refine hK _ ?_; clear hK K)
                  (refine wq_step (fun K hK => ?_); refine q_skip (by kernel_rfl) ?_; simp only [Act.put, List.setIfInBounds_toArray, List.set_cons_zero, List.set_cons_succ]; refine hK _ ?_; clear hK K)
                  (refine wq_step (fun K hK => ?_); apply q_take (by kernel_rfl); (focus (intro w hw; (try dsimp only at hw); go_simp; (try with_reducible rfl); done)); simp only [Act.put, List.setIfInBounds_toArray, List.set_cons_zero, List.set_cons_succ]; refine hK _ ?_; clear hK K)
                  (refine wq_step (fun K hK => ?_); apply q_take (by rfl); (focus (intro w hw; (try dsimp only at hw); go_simp; (try with_reducible rfl); done)); simp only [Act.put, List.setIfInBounds_toArray, List.set_cons_zero, List.set_cons_succ]; refine hK _ ?_; clear hK K)
                  refine wq_nil ?_
                  intro wq hwq
                  go_wp2
                  go_roundw
                  case rel => exact ⟨k + 1, (k : Int), by omega, by go_num, rfl, by
                    obtain ⟨hk2, hy2⟩ := HYK.out
                    exact HFB.out.first hk2 (by rw [hy2]; exact HUP.out) (by rw [hy2]; exact HMAY.out), hwq⟩
                  case measure => simp [intOf]; omega
                · subst hz
                  obtain ⟨x, hx⟩ : ∃ x, D[a] = x := ⟨_, rfl⟩
                  obtain ⟨b2, o2, c2', hv2, _, _, _, hcell2⟩ := HDV.out.at_ ha
                  injection hv2 with e1 e4 e5
                  clear e4 e5
                  injection e1 with e1
                  injection e1 with e1 e2
                  subst e1 e2
                  have rules2 : ∀ w', Below v.heap.size v w' → ∀ j, j < 10 → w'.cell? ⟨b, o + (a * 10 + j), none⟩ = x.cells[j]? := fun w' hb j hj => by
                    rw [hb.cell (p := ⟨b, o + (a * 10 + j), none⟩) hbb, hcell2 j hj, hx]
                  have a6 : ∀ w', Below v.heap.size v w' → w'.cell? ⟨b, o + a * 10 + 6, none⟩ = some (.int .i64 x.f.c.r) := fun w' hb => rules2 w' hb 6 (by omega)
                  have a7 : ∀ w', Below v.heap.size v w' → w'.cell? ⟨b, o + a * 10 + 7, none⟩ = some (.int .i64 x.f.c.p) := fun w' hb => rules2 w' hb 7 (by omega)
                  have m2 : (a : Int) < D.length := by omega
                  have m3 : ¬ ((a : Int) < 0) := by omega
                  have HXA := hide (show ∃ ha : a < D.length, D[a] = x from ⟨ha, hx⟩)
                  clear rules2 hcell2 hx ha
                  by_cases hl : pP y.f < pP x.f
                  · have hl2 : y.f.c.p < x.f.c.p := hl
                    have HL := hide hl
                    clear hl
                    go_wp2_with fail
                    refine region_q (fun w' => Below v.heap.size v w') (by kernel_rfl) (by kernel_rfl) (by (exact hbr.drew)) ?_
                    (refine wq_step (fun K hK => ?_); apply q_take (by rfl); (focus (intro w hw; (try dsimp only at hw); go_simp; (try with_reducible rfl); done)); simp only [Act.put, List.setIfInBounds_toArray, List.set_cons_zero, List.set_cons_succ]; refine hK _ ?_; clear hK K)
                    (refine wq_step (fun K hK => ?_); apply q_take (by rfl); (focus (intro w hw; (try dsimp only at hw); go_simp; (try with_reducible rfl); done)); simp only [Act.put, List.setIfInBounds_toArray, List.set_cons_zero, List.set_cons_succ]; refine hK _ ?_; clear hK K)
                    (refine wq_step (fun K hK => ?_); apply q_take (by rfl); (focus (intro w hw; (try dsimp only at hw); go_simp; (try with_reducible rfl); done)); simp only [Act.put, List.setIfInBounds_toArray, List.set_cons_zero, List.set_cons_succ]; refine hK _ ?_; clear hK K)
                    (refine wq_step (fun K hK => ?_); apply q_take (by rfl); (focus (intro w hw; (try dsimp only at hw); go_simp; (try with_reducible rfl); done)); simp only [Act.put, List.setIfInBounds_toArray, List.set_cons_zero, List.set_cons_succ]; refine hK _ ?_; clear hK K)
                    (refine wq_step (fun K hK => ?_); apply q_take (by rfl); (focus (intro w hw; (try dsimp only at hw); go_simp; (try with_reducible rfl); done)); simp only [Act.put, List.setIfInBounds_toArray, List.set_cons_zero, List.set_cons_succ]; refine hK _ ?_; clear hK K)
                    (refine wq_step (fun K hK => ?_); apply q_take (by rfl); (focus (intro w hw; (try dsimp only at hw); go_simp; (try with_reducible rfl); done)); simp only [Act.put, List.setIfInBounds_toArray, List.set_cons_zero, List.set_cons_succ]; refine hK _ ?_; clear hK K)
                    (refine wq_step (fun K hK => ?_); apply q_take (by rfl); (focus (intro w hw; (try dsimp only at hw); go_simp; (try with_reducible rfl); done)); simp only [Act.put, List.setIfInBounds_toArray, List.set_cons_zero, List.set_cons_succ]; refine hK _ ?_; clear hK K)
                    (refine wq_step (fun K hK => ?_); apply q_take (by rfl); (focus (intro w hw; (try dsimp only at hw); go_simp; (try with_reducible rfl); done)); simp only [Act.put, List.setIfInBounds_toArray, List.set_cons_zero, List.set_cons_succ]; refine hK _ ?_; clear hK K)
                    (refine wq_step (fun K hK => ?_); apply q_take (by kernel_rfl); (focus (intro w hw; (try dsimp only at hw); go_simp; (try with_reducible rfl); done)); simp only [Act.put, List.setIfInBounds_toArray, List.set_cons_zero, List.set_cons_succ]; refine hK _ ?_; clear hK K)
                    (refine wq_step (fun K hK => ?_); apply q_take (by kernel_rfl); (focus (intro w hw; (try dsimp only at hw); go_simp; (try with_reducible rfl); done)); simp only [Act.put, List.setIfInBounds_toArray, List.set_cons_zero, List.set_cons_succ]; refine hK _ ?_; clear hK K)
                    (refine wq_step (fun K hK => ?_); apply q_take (by kernel_rfl); (focus (intro w hw; (try dsimp only at hw); go_simp; (try with_reducible rfl); done)); simp only [Act.put, List.setIfInBounds_toArray, List.set_cons_zero, List.set_cons_succ]; refine hK _ ?_; clear hK K)
                    (refine wq_step (fun K hK => ?_); apply q_take (by kernel_rfl); (focus (intro w hw; (try dsimp only at hw); go_simp; (try with_reducible rfl); done)); simp only [Act.put, List.setIfInBounds_toArray, List.set_cons_zero, List.set_cons_succ]; refine hK _ ?_; clear hK K)
                    (refine wq_step (fun K hK => ?_); apply q_take (by kernel_rfl); (focus (intro w hw; (try dsimp only at hw); go_simp; (try with_reducible rfl); done)); simp only [Act.put, List.setIfInBounds_toArray, List.set_cons_zero, List.set_cons_succ]; refine hK _ ?_; clear hK K)
                    (refine wq_step (fun K hK => ?_); apply q_take (by kernel_rfl); (focus (intro w hw; (try dsimp only at hw); go_simp; (try with_reducible rfl); done)); simp only [Act.put, List.setIfInBounds_toArray, List.set_cons_zero, List.set_cons_succ]; refine hK _ ?_; clear hK K)
                    (refine wq_step (fun K hK => ?_); apply q_take (by kernel_rfl); (focus (intro w hw; (try dsimp only at hw); go_simp; (try with_reducible rfl); done)); simp only [Act.put, List.setIfInBounds_toArray, List.set_cons_zero, List.set_cons_succ]; refine hK _ ?_; clear hK K)
                    (refine wq_step (fun K hK => ?_); apply q_take (by kernel_rfl); (focus (intro w hw; (try dsimp only at hw); go_simp; (try with_reducible rfl); done)); simp only [Act.put, List.setIfInBounds_toArray, List.set_cons_zero, List.set_cons_succ]; refine hK _ ?_; clear hK K)
                    (refine wq_step (fun K hK => ?_); apply q_take (by kernel_rfl); (focus (intro w hw; (try dsimp only at hw); go_simp; (try with_reducible rfl); done)); simp only [Act.put, List.setIfInBounds_toArray, List.set_cons_zero, List.set_cons_succ]; refine hK _ ?_; clear hK K)
                    (refine wq_step (fun K hK => ?_); apply q_take (by kernel_rfl); (focus (intro w hw; (try dsimp only at hw); go_simp; (try with_reducible rfl); done)); simp only [Act.put, List.setIfInBounds_toArray, List.set_cons_zero, List.set_cons_succ]; refine hK _ ?_; clear hK K)
                    (refine wq_step (fun K hK => ?_); apply q_take (by kernel_rfl); (focus (intro w hw; (try dsimp only at hw); go_simp; (try with_reducible rfl); done)); simp only [Act.put, List.setIfInBounds_toArray, List.set_cons_zero, List.set_cons_succ]; refine hK _ ?_; clear hK K)
                    (refine wq_step (fun K hK => ?_); apply q_call (by kernel_rfl); (focus (intro w hw; (try dsimp only at hw); go_simp; (try exact ⟨rfl, rfl⟩); done)); (focus (intro w hw; (try dsimp only at hw); (refine (rByLimit_calls y.f.p y.f.c (at_ now) w).mono ?_; rintro e w2 ⟨rfl, hb⟩; rw [HMAY.out]; exact ⟨rfl, hw.trans (hb.mono hw.size)⟩))); simp only [Act.put, List.setIfInBounds_toArray, List.set_cons_zero, List.set_cons_succ]; refine hK _ ?_; clear hK K)
                    (refine wq_step (fun K hK => ?_); apply q_take (by rfl); (focus (intro w hw; (try dsimp only at hw); go_simp; (try with_reducible rfl); done)); simp only [Act.put, List.setIfInBounds_toArray, List.set_cons_zero, List.set_cons_succ]; refine hK _ ?_; clear hK K)
                    (refine wq_step (fun K hK => ?_); apply q_take (by rfl); (focus (intro w hw; (try dsimp only at hw); go_simp; (try with_reducible rfl); done)); simp only [Act.put, List.setIfInBounds_toArray, List.set_cons_zero, List.set_cons_succ]; refine hK _ ?_; clear hK K)
                    (refine wq_step (fun K hK => ?_); apply q_take (by kernel_rfl); (focus (intro w hw; (try dsimp only at hw); go_simp; (try with_reducible rfl); done)); simp only [Act.put, List.setIfInBounds_toArray, List.set_cons_zero, List.set_cons_succ]; refine hK _ ?_; clear hK K)
                    (refine wq_step (fun K hK => ?_); apply q_take (by kernel_rfl); (focus (intro w hw; (try dsimp only at hw); go_simp; (try with_reducible rfl); done)); simp only [Act.put, List.setIfInBounds_toArray, List.set_cons_zero, List.set_cons_succ]; refine hK _ ?_; clear hK K)
                    (refine wq_step (fun K hK => ?_); apply q_take (by kernel_rfl); (focus (intro w hw; (try dsimp only at hw); go_simp; (try with_reducible rfl); done)); simp only [Act.put, List.setIfInBounds_toArray, List.set_cons_zero, List.set_cons_succ]; refine hK _ ?_; clear hK K)
                    (refine wq_step (fun K hK => ?_); apply q_take (by kernel_rfl); (focus (intro w hw; (try dsimp only at hw); go_simp; (try with_reducible rfl); done)); simp only [Act.put, List.setIfInBounds_toArray, List.set_cons_zero, List.set_cons_succ]; refine hK _ ?_; clear hK K)
                    (refine wq_step (fun K hK => ?_); apply q_take (by kernel_rfl); (focus (intro w hw; (try dsimp only at hw); go_simp; (try with_reducible rfl); done)); simp only [Act.put, List.setIfInBounds_toArray, List.set_cons_zero, List.set_cons_succ]; refine hK _ ?_; clear hK K)
                    (refine wq_step (fun K hK => ?_); apply q_take (by kernel_rfl); (focus (intro w hw; (try dsimp only at hw); go_simp; (try with_reducible rfl); done)); simp only [Act.put, List.setIfInBounds_toArray, List.set_cons_zero, List.set_cons_succ]; refine hK _ ?_; clear hK K)
                    (refine wq_step (fun K hK => ?_); apply q_take (by kernel_rfl); (focus (intro w hw; (try dsimp only at hw); go_simp; (try with_reducible rfl); done)); simp only [Act.put, List.setIfInBounds_toArray, List.set_cons_zero, List.set_cons_succ]; refine hK _ ?_; clear hK K)
                    (refine wq_step (fun K hK => ?_); apply q_take (by kernel_rfl); (focus (intro w hw; (try dsimp only at hw); go_simp; (try with_reducible rfl); done)); simp only [Act.put, List.setIfInBounds_toArray, List.set_cons_zero, List.set_cons_succ]; refine hK _ ?_; clear hK K)
                    (refine wq_step (fun K hK => ?_); apply q_take (by kernel_rfl); (focus (intro w hw; (try dsimp only at hw); go_simp; (try with_reducible rfl); done)); simp only [Act.put, List.setIfInBounds_toArray, List.set_cons_zero, List.set_cons_succ]; refine hK _ ?_; clear hK K)
                    (refine wq_step (fun K hK => ?_); apply q_take (by kernel_rfl); (focus (intro w hw; (try dsimp only at hw); go_simp; (try with_reducible rfl); done)); simp only [Act.put, List.setIfInBounds_toArray, List.set_cons_zero, List.set_cons_succ]; refine hK _ ?_; clear hK K)
                    (refine wq_step (fun K hK => ?_); apply q_take (by kernel_rfl); (focus (intro w hw; (try dsimp only at hw); go_simp; (try with_reducible rfl); done)); simp only [Act.put, List.setIfInBounds_toArray, List.set_cons_zero, List.set_cons_succ]; refine hK _ ?_; clear hK K)
                    (refine wq_step (fun K hK => ?_); apply q_take (by kernel_rfl); (focus (intro w hw; (try dsimp only at hw); go_simp; (try with_reducible rfl); done)); simp only [Act.put, List.setIfInBounds_toArray, List.set_cons_zero, List.set_cons_succ]; refine hK _ ?_; clear hK K)
                    (refine wq_step (fun K hK => ?_); apply q_take (by kernel_rfl); (focus (intro w hw; (try dsimp only at hw); go_simp; (try with_reducible rfl); done)); simp only [Act.put, List.setIfInBounds_toArray, List.set_cons_zero, List.set_cons_succ]; refine hK _ ?_; clear hK K)
                    (refine wq_step (fun K hK => ?_); apply q_take (by kernel_rfl); (focus (intro w hw; (try dsimp only at hw); go_simp; (try with_reducible rfl); done)); simp only [Act.put, List.setIfInBounds_toArray, List.set_cons_zero, List.set_cons_succ]; refine hK _ ?_; clear hK K)
                    (refine wq_step (fun K hK => ?_); apply q_take (by kernel_rfl); (focus (intro w hw; (try dsimp only at hw); go_simp; (try with_reducible rfl); done)); simp only [Act.put, List.setIfInBounds_toArray, List.set_cons_zero, List.set_cons_succ]; refine hK _ ?_; clear hK K)
                    (refine wq_step (fun K hK => ?_); apply q_take (by kernel_rfl); (focus (intro w hw; (try dsimp only at hw); go_simp; (try with_reducible rfl); done)); simp only [Act.put, List.setIfInBounds_toArray, List.set_cons_zero, List.set_cons_succ]; refine hK _ ?_; clear hK K)
                    (refine wq_step (fun K hK => ?_); apply q_take (by kernel_rfl); (focus (intro w hw; (try dsimp only at hw); go_simp; (try with_reducible rfl); done)); simp only [Act.put, List.setIfInBounds_toArray, List.set_cons_zero, List.set_cons_succ]; refine hK _ ?_; clear hK K)
                    (refine wq_step (fun K hK => ?_); apply q_take (by rfl); (focus (intro w hw; (try dsimp only at hw); go_simp; (try with_reducible rfl); done)); simp only [Act.put, List.setIfInBounds_toArray, List.set_cons_zero, List.set_cons_succ]; refine hK _ ?_; clear hK K)
                    refine wq_nil ?_
                    intro wq hwq
                    go_wp2
                    go_roundw
                    case rel =>
                      have hfin : FB D pP (pmL (at_ now)) (k + 1) (k : Int) := by
                        obtain ⟨hk2, hy2⟩ := HYK.out
                        obtain ⟨ha2, hx2⟩ := HXA.out
                        exact HFB.out.less ha2 hk2 (by rw [hy2]; exact HUP.out) (by rw [hy2]; exact HMAY.out) (by rw [hy2, hx2]; exact HL.out)
                      exact ⟨k + 1, (k : Int), by omega, by go_num, rfl, hfin, hwq⟩
                    case measure => simp [intOf]; omega
                  · have hl2 : ¬ (y.f.c.p < x.f.c.p) := hl
                    have HL := hide hl
                    clear hl
                    go_wp2_with fail
                    refine region_q (fun w' => Below v.heap.size v w') (by kernel_rfl) (by kernel_rfl) (by (exact hbr.drew)) ?_
                    (refine wq_step (fun K hK => ?_); apply q_take (by rfl); (focus (intro w hw; (try dsimp only at hw); go_simp; (try with_reducible rfl); done)); simp only [Act.put, List.setIfInBounds_toArray, List.set_cons_zero, List.set_cons_succ]; refine hK _ ?_; clear hK K)
                    (refine wq_step (fun K hK => ?_); apply q_take (by rfl); (focus (intro w hw; (try dsimp only at hw); go_simp; (try with_reducible rfl); done)); simp only [Act.put, List.setIfInBounds_toArray, List.set_cons_zero, List.set_cons_succ]; refine hK _ ?_; clear hK K)
                    (refine wq_step (fun K hK => ?_); apply q_take (by rfl); (focus (intro w hw; (try dsimp only at hw); go_simp; (try with_reducible rfl); done)); simp only [Act.put, List.setIfInBounds_toArray, List.set_cons_zero, List.set_cons_succ]; refine hK _ ?_; clear hK K)
                    (refine wq_step (fun K hK => ?_); apply q_take (by rfl); (focus (intro w hw; (try dsimp only at hw); go_simp; (try with_reducible rfl); done)); simp only [Act.put, List.setIfInBounds_toArray, List.set_cons_zero, List.set_cons_succ]; refine hK _ ?_; clear hK K)
                    (refine wq_step (fun K hK => ?_); apply q_take (by rfl); (focus (intro w hw; (try dsimp only at hw); go_simp; (try with_reducible rfl); done)); simp only [Act.put, List.setIfInBounds_toArray, List.set_cons_zero, List.set_cons_succ]; refine hK _ ?_; clear hK K)
                    (refine wq_step (fun K hK => ?_); apply q_take (by rfl); (focus (intro w hw; (try dsimp only at hw); go_simp; (try with_reducible rfl); done)); simp only [Act.put, List.setIfInBounds_toArray, List.set_cons_zero, List.set_cons_succ]; refine hK _ ?_; clear hK K)
                    (refine wq_step (fun K hK => ?_); apply q_take (by rfl); (focus (intro w hw; (try dsimp only at hw); go_simp; (try with_reducible rfl); done)); simp only [Act.put, List.setIfInBounds_toArray, List.set_cons_zero, List.set_cons_succ]; refine hK _ ?_; clear hK K)
                    (refine wq_step (fun K hK => ?_); apply q_take (by rfl); (focus (intro w hw; (try dsimp only at hw); go_simp; (try with_reducible rfl); done)); simp only [Act.put, List.setIfInBounds_toArray, List.set_cons_zero, List.set_cons_succ]; refine hK _ ?_; clear hK K)
                    (refine wq_step (fun K hK => ?_); apply q_take (by kernel_rfl); (focus (intro w hw; (try dsimp only at hw); go_simp; (try with_reducible rfl); done)); simp only [Act.put, List.setIfInBounds_toArray, List.set_cons_zero, List.set_cons_succ]; refine hK _ ?_; clear hK K)
                    (refine wq_step (fun K hK => ?_); apply q_take (by kernel_rfl); (focus (intro w hw; (try dsimp only at hw); go_simp; (try with_reducible rfl); done)); simp only [Act.put, List.setIfInBounds_toArray, List.set_cons_zero, List.set_cons_succ]; refine hK _ ?_; clear hK K)
                    (refine wq_step (fun K hK => ?_); apply q_take (by kernel_rfl); (focus (intro w hw; (try dsimp only at hw); go_simp; (try with_reducible rfl); done)); simp only [Act.put, List.setIfInBounds_toArray, List.set_cons_zero, List.set_cons_succ]; refine hK _ ?_; clear hK K)
                    (refine wq_step (fun K hK => ?_); apply q_take (by kernel_rfl); (focus (intro w hw; (try dsimp only at hw); go_simp; (try with_reducible rfl); done)); simp only [Act.put, List.setIfInBounds_toArray, List.set_cons_zero, List.set_cons_succ]; refine hK _ ?_; clear hK K)
                    (refine wq_step (fun K hK => ?_); apply q_take (by kernel_rfl); (focus (intro w hw; (try dsimp only at hw); go_simp; (try with_reducible rfl); done)); simp only [Act.put, List.setIfInBounds_toArray, List.set_cons_zero, List.set_cons_succ]; refine hK _ ?_; clear hK K)
                    (refine wq_step (fun K hK => ?_); apply q_take (by kernel_rfl); (focus (intro w hw; (try dsimp only at hw); go_simp; (try with_reducible rfl); done)); simp only [Act.put, List.setIfInBounds_toArray, List.set_cons_zero, List.set_cons_succ]; refine hK _ ?_; clear hK K)
                    (refine wq_step (fun K hK => ?_); apply q_take (by kernel_rfl); (focus (intro w hw; (try dsimp only at hw); go_simp; (try with_reducible rfl); done)); simp only [Act.put, List.setIfInBounds_toArray, List.set_cons_zero, List.set_cons_succ]; refine hK _ ?_; clear hK K)
                    (refine wq_step (fun K hK => ?_); apply q_take (by kernel_rfl); (focus (intro w hw; (try dsimp only at hw); go_simp; (try with_reducible rfl); done)); simp only [Act.put, List.setIfInBounds_toArray, List.set_cons_zero, List.set_cons_succ]; refine hK _ ?_; clear hK K)
                    (refine wq_step (fun K hK => ?_); apply q_take (by kernel_rfl); (focus (intro w hw; (try dsimp only at hw); go_simp; (try with_reducible rfl); done)); simp only [Act.put, List.setIfInBounds_toArray, List.set_cons_zero, List.set_cons_succ]; refine hK _ ?_; clear hK K)
                    (refine wq_step (fun K hK => ?_); apply q_take (by kernel_rfl); (focus (intro w hw; (try dsimp only at hw); go_simp; (try with_reducible rfl); done)); simp only [Act.put, List.setIfInBounds_toArray, List.set_cons_zero, List.set_cons_succ]; refine hK _ ?_; clear hK K)
                    (refine wq_step (fun K hK => ?_); apply q_take (by kernel_rfl); (focus (intro w hw; (try dsimp only at hw); go_simp; (try with_reducible rfl); done)); simp only [Act.put, List.setIfInBounds_toArray, List.set_cons_zero, List.set_cons_succ]; refine hK _ ?_; clear hK K)
                    (refine wq_step (fun K hK => ?_); apply q_call (by kernel_rfl); (focus (intro w hw; (try dsimp only at hw); go_simp; (try exact ⟨rfl, rfl⟩); done)); (focus (intro w hw; (try dsimp only at hw); (refine (rByLimit_calls y.f.p y.f.c (at_ now) w).mono ?_; rintro e w2 ⟨rfl, hb⟩; rw [HMAY.out]; exact ⟨rfl, hw.trans (hb.mono hw.size)⟩))); simp only [Act.put, List.setIfInBounds_toArray, List.set_cons_zero, List.set_cons_succ]; refine hK _ ?_; clear hK K)
                    (refine wq_step (fun K hK => ?_); apply q_take (by rfl); (focus (intro w hw; (try dsimp only at hw); go_simp; (try with_reducible rfl); done)); simp only [Act.put, List.setIfInBounds_toArray, List.set_cons_zero, List.set_cons_succ]; refine hK _ ?_; clear hK K)
                    (refine wq_step (fun K hK => ?_); apply q_take (by rfl); (focus (intro w hw; (try dsimp only at hw); go_simp; (try with_reducible rfl); done)); simp only [Act.put, List.setIfInBounds_toArray, List.set_cons_zero, List.set_cons_succ]; refine hK _ ?_; clear hK K)
                    (refine wq_step (fun K hK => ?_); apply q_take (by kernel_rfl); (focus (intro w hw; (try dsimp only at hw); go_simp; (try with_reducible rfl); done)); simp only [Act.put, List.setIfInBounds_toArray, List.set_cons_zero, List.set_cons_succ]; refine hK _ ?_; clear hK K)
                    (refine wq_step (fun K hK => ?_); apply q_take (by kernel_rfl); (focus (intro w hw; (try dsimp only at hw); go_simp; (try with_reducible rfl); done)); simp only [Act.put, List.setIfInBounds_toArray, List.set_cons_zero, List.set_cons_succ]; refine hK _ ?_; clear hK K)
                    (refine wq_step (fun K hK => ?_); apply q_take (by kernel_rfl); (focus (intro w hw; (try dsimp only at hw); go_simp; (try with_reducible rfl); done)); simp only [Act.put, List.setIfInBounds_toArray, List.set_cons_zero, List.set_cons_succ]; refine hK _ ?_; clear hK K)
                    (refine wq_step (fun K hK => ?_); apply q_take (by kernel_rfl); (focus (intro w hw; (try dsimp only at hw); go_simp; (try with_reducible rfl); done)); simp only [Act.put, List.setIfInBounds_toArray, List.set_cons_zero, List.set_cons_succ]; refine hK _ ?_; clear hK K)
                    (refine wq_step (fun K hK => ?_); apply q_take (by kernel_rfl); (focus (intro w hw; (try dsimp only at hw); go_simp; (try with_reducible rfl); done)); simp only [Act.put, List.setIfInBounds_toArray, List.set_cons_zero, List.set_cons_succ]; refine hK _ ?_; clear hK K)
                    (refine wq_step (fun K hK => ?_); apply q_take (by kernel_rfl); (focus (intro w hw; (try dsimp only at hw); go_simp; (try with_reducible rfl); done)); simp only [Act.put, List.setIfInBounds_toArray, List.set_cons_zero, List.set_cons_succ]; refine hK _ ?_; clear hK K)
                    (refine wq_step (fun K hK => ?_); apply q_take (by kernel_rfl); (focus (intro w hw; (try dsimp only at hw); go_simp; (try with_reducible rfl); done)); simp only [Act.put, List.setIfInBounds_toArray, List.set_cons_zero, List.set_cons_succ]; refine hK _ ?_; clear hK K)
                    (refine wq_step (fun K hK => ?_); apply q_take (by kernel_rfl); (focus (intro w hw; (try dsimp only at hw); go_simp; (try with_reducible rfl); done)); simp only [Act.put, List.setIfInBounds_toArray, List.set_cons_zero, List.set_cons_succ]; refine hK _ ?_; clear hK K)
                    (refine wq_step (fun K hK => ?_); apply q_take (by kernel_rfl); (focus (intro w hw; (try dsimp only at hw); go_simp; (try with_reducible rfl); done)); simp only [Act.put, List.setIfInBounds_toArray, List.set_cons_zero, List.set_cons_succ]; refine hK _ ?_; clear hK K)
                    (refine wq_step (fun K hK => ?_); apply q_take (by kernel_rfl); (focus (intro w hw; (try dsimp only at hw); go_simp; (try with_reducible rfl); done)); simp only [Act.put, List.setIfInBounds_toArray, List.set_cons_zero, List.set_cons_succ]; refine hK _ ?_; clear hK K)
                    (refine wq_step (fun K hK => ?_); apply q_take (by kernel_rfl); (focus (intro w hw; (try dsimp only at hw); go_simp; (try with_reducible rfl); done)); simp only [Act.put, List.setIfInBounds_toArray, List.set_cons_zero, List.set_cons_succ]; refine hK _ ?_; clear hK K)
                    (refine wq_step (fun K hK => ?_); apply q_take (by kernel_rfl); (focus (intro w hw; (try dsimp only at hw); go_simp; (try with_reducible rfl); done)); simp only [Act.put, List.setIfInBounds_toArray, List.set_cons_zero, List.set_cons_succ]; refine hK _ ?_; clear hK K)
                    (refine wq_step (fun K hK => ?_); apply q_take (by kernel_rfl); (focus (intro w hw; (try dsimp only at hw); go_simp; (try with_reducible rfl); done)); simp only [Act.put, List.setIfInBounds_toArray, List.set_cons_zero, List.set_cons_succ]; refine hK _ ?_; clear hK K)
                    (refine wq_step (fun K hK => ?_); apply q_take (by kernel_rfl); (focus (intro w hw; (try dsimp only at hw); go_simp; (try with_reducible rfl); done)); simp only [Act.put, List.setIfInBounds_toArray, List.set_cons_zero, List.set_cons_succ]; refine hK _ ?_; clear hK K)
                    (refine wq_step (fun K hK => ?_); apply q_take (by kernel_rfl); (focus (intro w hw; (try dsimp only at hw); go_simp; (try with_reducible rfl); done)); simp only [Act.put, List.setIfInBounds_toArray, List.set_cons_zero, List.set_cons_succ]; refine hK _ ?_; clear hK K)
                    (refine wq_step (fun K hK => ?_); apply q_take (by kernel_rfl); (focus (intro w hw; (try dsimp only at hw); go_simp; (try with_reducible rfl); done)); simp only [Act.put, List.setIfInBounds_toArray, List.set_cons_zero, List.set_cons_succ]; refine hK _ ?_; clear hK K)
                    (refine wq_step (fun K hK => ?_); apply q_take (by kernel_rfl); (focus (intro w hw; (try dsimp only at hw); go_simp; (try with_reducible rfl); done)); simp only [Act.put, List.setIfInBounds_toArray, List.set_cons_zero, List.set_cons_succ]; refine hK _ ?_; clear hK K)
                    (refine wq_step (fun K hK => ?_); apply q_take (by rfl); (focus (intro w hw; (try dsimp only at hw); go_simp; (try with_reducible rfl); done)); simp only [Act.put, List.setIfInBounds_toArray, List.set_cons_zero, List.set_cons_succ]; refine hK _ ?_; clear hK K)
                    refine wq_nil ?_
                    intro wq hwq
                    go_wp2
                    go_roundw
                    case rel =>
                      have hfin : FB D pP (pmL (at_ now)) (k + 1) (a : Int) := by
                        obtain ⟨hk2, hy2⟩ := HYK.out
                        obtain ⟨ha2, hx2⟩ := HXA.out
                        exact HFB.out.keep ha2 hk2 (by rw [hy2, hx2]; first | exact HL.out | exact Int.not_lt.2 HL.out)
                      exact ⟨k + 1, (a : Int), by omega, by go_num, rfl, hfin, hwq⟩
                    case measure => simp [intOf]; omega
          · have m1 : ¬ ((k : Int) < D.length) := by omega
            have e : k = D.length := by omega
            have hfe : FB D pP (pmL (at_ now)) D.length z := by
              have := HFB.out
              rw [e] at this
              exact this
            have HFE2 := hide hfe
            clear e hfe
            rcases (HFE2).out.is with hz | ⟨a, ha, hz⟩
            · subst hz
              have BR := HB0.out.below hbr
              have r0' : wr.cell? ⟨w.heap.size, 0, none⟩ = some (.slice none 0 0) := BR.cell 0
              have r1' : wr.cell? ⟨w.heap.size, 1, none⟩ = some (.int .i64 0) := BR.cell 1
              have r2' : wr.cell? ⟨w.heap.size, 2, none⟩ = some (.int .i64 0) := BR.cell 2
              have r3' : wr.cell? ⟨w.heap.size, 3, none⟩ = some (.int .i64 0) := BR.cell 3
              have r4' : wr.cell? ⟨w.heap.size, 4, none⟩ = some (.int .i64 0) := BR.cell 4
              have r5' : wr.cell? ⟨w.heap.size, 5, none⟩ = some (.int .i64 0) := BR.cell 5
              have s0' : wr.frozen? ⟨w.heap.size, 0, none⟩ = false := BR.frozen 0
              have s1' : wr.frozen? ⟨w.heap.size, 1, none⟩ = false := BR.frozen 1
              have s2' : wr.frozen? ⟨w.heap.size, 2, none⟩ = false := BR.frozen 2
              have s3' : wr.frozen? ⟨w.heap.size, 3, none⟩ = false := BR.frozen 3
              have s4' : wr.frozen? ⟨w.heap.size, 4, none⟩ = false := BR.frozen 4
              have s5' : wr.frozen? ⟨w.heap.size, 5, none⟩ = false := BR.frozen 5
              have HBR0 := hide hbr
              clear BR hbr
              go_wp2
              refine bodyPost_ret (v := .agg #[.slice A D.length c, .int .i64 0, .int .i64 0, .int .i64 0, .int .i64 0, .int .i64 0]) (by simp [results, Try.results26, go_sem, *]) rfl ?_
              refine Or.inl ⟨HFE1.out, HFE2.out, rfl, ?_⟩
              exact below_six (HBW.out.trans (HBR0.out.mono HBW.out.size)) (Nat.le_refl _) _ _ _ _ _ _
            · subst hz
              have m2 : ¬ ((a : Int) < 0) := by omega
              obtain ⟨b, o, c', hv, hc1, hc2, hbb, hcell⟩ := HDV.out.at_ ha
              injection hv with e1 _ e3
              subst e1
              clear e3
              obtain ⟨d, hd⟩ : ∃ d, D[a] = d := ⟨_, rfl⟩
              have rules : ∀ j, j < 10 → wr.cell? ⟨b, o + (a * 10 + j), none⟩ = d.cells[j]? := fun j hj => by
                rw [hbr.cell (p := ⟨b, o + (a * 10 + j), none⟩) hbb, hcell j hj, hd]
              have k0 : wr.cell? ⟨b, o + a * 10, none⟩ = some (.int .i64 d.f.id) := rules 0 (by omega)
              have k1 : wr.cell? ⟨b, o + a * 10 + 1, none⟩ = some (.int .i64 d.f.ver) := rules 1 (by omega)
              have k2 : wr.cell? ⟨b, o + a * 10 + 2, none⟩ = some (.int .i64 d.f.p.r) := rules 2 (by omega)
              have k3 : wr.cell? ⟨b, o + a * 10 + 3, none⟩ = some (.int .i64 d.f.p.w) := rules 3 (by omega)
              have k4 : wr.cell? ⟨b, o + a * 10 + 4, none⟩ = some (.int .i64 d.f.p.l) := rules 4 (by omega)
              have k5 : wr.cell? ⟨b, o + a * 10 + 5, none⟩ = some (.int .i64 d.f.p.b) := rules 5 (by omega)
              have k6 : wr.cell? ⟨b, o + a * 10 + 6, none⟩ = some (.int .i64 d.f.c.r) := rules 6 (by omega)
              have k7 : wr.cell? ⟨b, o + a * 10 + 7, none⟩ = some (.int .i64 d.f.c.p) := rules 7 (by omega)
              have k8 : wr.cell? ⟨b, o + a * 10 + 8, none⟩ = some (.int .i64 d.f.c.l) := rules 8 (by omega)
              have hup : up d.f = true := by
                rcases (HFE2).out with ⟨h, _⟩ | ⟨a', ha', _, h, h2, _⟩
                · omega
                · have e : a = a' := by omega
                  subst e
                  rw [hd] at h2
                  exact h2
              obtain ⟨x, rest, hq⟩ : ∃ x rest, d.f.q = x :: rest := by
                cases hqq : d.f.q with
                | nil => simp [up, hqq] at hup
                | cons x rest => exact ⟨x, rest, rfl⟩
              have hdm : d ∈ D := by rw [← hd]; exact List.getElem_mem ha
              obtain ⟨hqr, hqc, hqG⟩ := HDV.out.q d hdm
              obtain ⟨ln, hln⟩ : ∃ ln, d.f.q.length = ln := ⟨_, rfl⟩
              have hl1 : ln = rest.length + 1 := by rw [← hln, hq]; rfl
              rw [hln] at hqr hqc
              obtain ⟨g, qo, hA, hgB, hitc⟩ := hqr.at_ (by omega)
              have k9 : wr.cell? ⟨b, o + a * 10 + 9, none⟩ = some (.slice (some ⟨g, qo, none⟩) ln d.c) := (rules 9 (by omega)).trans (by
                rw [← hA, ← hln]
                rfl)
              have x0 : wr.cell? ⟨g, qo, none⟩ = some (.int .i64 x.name) := (hbr.cell (p := ⟨g, qo, none⟩) hgB).trans (hitc 0 _ (by rw [hq]; rfl))
              have x1 : wr.cell? ⟨g, qo + 1, none⟩ = some (.int .i64 x.delta) := (hbr.cell (p := ⟨g, qo + 1, none⟩) hgB).trans (hitc 1 _ (by rw [hq]; rfl))
              have x2 : wr.cell? ⟨g, qo + 2, none⟩ = some (.int .i64 x.rho) := (hbr.cell (p := ⟨g, qo + 2, none⟩) hgB).trans (hitc 2 _ (by rw [hq]; rfl))
              have j1 : (a : Int) < D.length := by omega
              have j2 : (0 : Int) < ln := by omega
              have j3 : (1 : Int) ≤ ln := by omega
              have j4 : (ln : Int) ≤ d.c := by omega
              have hvs := hbr.size
              have n1 : ¬ (b = wr.heap.size) := by omega
              have n2 : ¬ (g = wr.heap.size) := by omega
              have n3 : ¬ (b = wr.heap.size + 1) := by omega
              have n4 : ¬ (g = wr.heap.size + 1) := by omega
              have n5 : ¬ (wr.heap.size = b) := by omega
              have n6 : ¬ (wr.heap.size = g) := by omega
              have n7 : ¬ (wr.heap.size + 1 = b) := by omega
              have n8 : ¬ (wr.heap.size + 1 = g) := by omega
              have n9 : g < wr.heap.size := by omega
              have n10 : b < wr.heap.size := by omega
              have HRD := hide hqr
              have HQG := hide hqG
              have HQ := hide hq
              have HLN := hide hln
              have HL1 := hide hl1
              have HA := hide hA
              have HDD := hide (show ∃ ha : a < D.length, D[a] = d from ⟨ha, hd⟩)
              have HBR0 := hide hbr
              clear rules hcell hd hq hqr hqG hqc hln hl1 hA hitc hdm hup hc1 hc2
              have hcut := HRD.out.cut (k := 1) (cap := d.c) (by omega) (by omega)
              have hck := HCK.out d (by obtain ⟨ha, e⟩ := HDD.out; rw [← e]; exact List.getElem_mem ha)
              have ht0 : 0 ≤ at_ now := times_lo _ _
              have ht1 : at_ now ≤ 2305843009213693952 := times_hi _ _
              have HCH := hide (fun w1 => rCharge_calls d.f.p d.f.c (at_ now) 2 x.delta x.rho w1 ht0 ht1 hck.1 hck.2)
              clear hck ht0 ht1
              by_cases hcc : d.c = 1
              · rw [if_pos hcc, HA.out, HQ.out] at hcut
                have HCUT := hide hcut
                clear hcut
                go_wp2_with fail
                obtain ⟨u, hu⟩ : ∃ u, (wr.alloc (.cells #[.int .i64 d.f.id, .int .i64 d.f.ver, .int .i64 d.f.p.r, .int .i64 d.f.p.w, .int .i64 d.f.p.l, .int .i64 d.f.p.b, .int .i64 d.f.c.r, .int .i64 d.f.c.p, .int .i64 d.f.c.l, .slice (some ⟨g, qo, none⟩) (ln - 1) 0] 74)).alloc (.cells #[.int .i64 x.name, .int .i64 x.delta, .int .i64 x.rho] 36) = u := ⟨_, rfl⟩
                have hub : Below wr.heap.size wr u := by rw [← hu]; exact ((Below.refl _ _).alloc (Nat.le_refl _) _).alloc (by simp) _
                have BU : Blk u wr.heap.size 74 [.int .i64 d.f.id, .int .i64 d.f.ver, .int .i64 d.f.p.r, .int .i64 d.f.p.w, .int .i64 d.f.p.l, .int .i64 d.f.p.b, .int .i64 d.f.c.r, .int .i64 d.f.c.p, .int .i64 d.f.c.l, .slice (some ⟨g, qo, none⟩) (ln - 1) 0] := by rw [← hu]; exact (Blk.new rfl).alloc _
                have BX : Blk u (wr.heap.size + 1) 36 x.cells := by rw [← hu]; exact Blk.new (by simp)
                rw [hu]
                clear hu
                refine (HCH.out u).mono ?_
                rintro e w3 ⟨rfl, hb3⟩
                have B3 := BU.below hb3
                have X3 := BX.below hb3
                have y6 : w3.cell? ⟨wr.heap.size, 6, none⟩ = some (.int .i64 d.f.c.r) := B3.cell 6
                have y7 : w3.cell? ⟨wr.heap.size, 7, none⟩ = some (.int .i64 d.f.c.p) := B3.cell 7
                have y8 : w3.cell? ⟨wr.heap.size, 8, none⟩ = some (.int .i64 d.f.c.l) := B3.cell 8
                have z6 : w3.frozen? ⟨wr.heap.size, 6, none⟩ = false := B3.frozen 6
                have z7 : w3.frozen? ⟨wr.heap.size, 7, none⟩ = false := B3.frozen 7
                have z8 : w3.frozen? ⟨wr.heap.size, 8, none⟩ = false := B3.frozen 8
                have HU3 := hide (hub.trans (hb3.mono hub.size))
                have HBB3 := hide B3
                have HX3 := hide X3
                clear BU BX hub hb3 B3 X3 k0 k1 k2 k3 k4 k5 k6 k7 k8 k9 x0 x1 x2
                go_wp2_with fail
                obtain ⟨ch, hch⟩ : ∃ ch, charge d.f.p d.f.c (at_ now) 2 x.delta x.rho = ch := ⟨_, rfl⟩
                rw [hch]
                have hrl : rest.length = ln - 1 := by have := HL1.out; omega
                have ch4 : Chg [wr.heap.size] w3 (((w3.setCell ⟨wr.heap.size, 6, none⟩ (.int .i64 ch.r)).setCell ⟨wr.heap.size, 7, none⟩ (.int .i64 ch.p)).setCell ⟨wr.heap.size, 8, none⟩ (.int .i64 ch.l)) := (((Chg.refl [wr.heap.size] w3).setCell (Or.inl (by simp)) _).setCell (Or.inl (by simp)) _).setCell (Or.inl (by simp)) _
                have B4 : Blk (((w3.setCell ⟨wr.heap.size, 6, none⟩ (.int .i64 ch.r)).setCell ⟨wr.heap.size, 7, none⟩ (.int .i64 ch.p)).setCell ⟨wr.heap.size, 8, none⟩ (.int .i64 ch.l)) wr.heap.size 74 (Dl.cells ⟨⟨d.f.id, d.f.ver, d.f.p, ch, rest⟩, (some ⟨g, qo, none⟩), 0⟩) := by
                  have := ((HBB3.out.set 6 (.int .i64 ch.r)).set 7 (.int .i64 ch.p)).set 8 (.int .i64 ch.l)
                  rw [show Dl.cells ⟨⟨d.f.id, d.f.ver, d.f.p, ch, rest⟩, (some ⟨g, qo, none⟩), 0⟩ = [.int .i64 d.f.id, .int .i64 d.f.ver, .int .i64 d.f.p.r, .int .i64 d.f.p.w, .int .i64 d.f.p.l, .int .i64 d.f.p.b, .int .i64 ch.r, .int .i64 ch.p, .int .i64 ch.l, .slice (some ⟨g, qo, none⟩) (ln - 1) 0] by simp [Dl.cells, Dl.lv, hrl]]
                  exact this
                have X4 := HX3.out.chg ch4 (by simp)
                have hb34 : Below v.heap.size v w3 := HBR0.out.trans (HU3.out.mono HBR0.out.size)
                have hvb : v.heap.size ≤ wr.heap.size := HBR0.out.size
                have hb4 : Below v.heap.size v (((w3.setCell ⟨wr.heap.size, 6, none⟩ (.int .i64 ch.r)).setCell ⟨wr.heap.size, 7, none⟩ (.int .i64 ch.p)).setCell ⟨wr.heap.size, 8, none⟩ (.int .i64 ch.l)) := Chg.onto hb34 hb34.size ch4 (fun z hz => by rw [List.mem_singleton.1 hz]; exact hvb)
                obtain ⟨w4, hw4⟩ : ∃ w4, (((w3.setCell ⟨wr.heap.size, 6, none⟩ (.int .i64 ch.r)).setCell ⟨wr.heap.size, 7, none⟩ (.int .i64 ch.p)).setCell ⟨wr.heap.size, 8, none⟩ (.int .i64 ch.l)) = w4 := ⟨_, rfl⟩
                rw [hw4] at B4 X4 hb4
                rw [hw4]
                have D4 := HDV.out.below hb4
                have R4 := HB0.out.below hb4
                have hlen4 : ln - 1 ≤ 0 := by omega
                have Q4 : Qr v G ⟨⟨d.f.id, d.f.ver, d.f.p, ch, rest⟩, (some ⟨g, qo, none⟩), 0⟩ := by
                  refine ⟨?_, by rw [hrl]; exact hlen4, fun b2 o2 e => ?_⟩
                  · have := HCUT.out
                    rw [show ln - 1 = rest.length by omega] at this
                    exact this
                  · have : g = b2 := by injection e with e; injection e
                    rw [← this]
                    exact HQG.out g qo HA.out
                have g0 : ∀ w', Below w4.heap.size w4 w' → w'.cell? ⟨wr.heap.size, 0, none⟩ = some (.int .i64 d.f.id) := B4.rule 0 _ rfl
                have g1 : ∀ w', Below w4.heap.size w4 w' → w'.cell? ⟨wr.heap.size, 1, none⟩ = some (.int .i64 d.f.ver) := B4.rule 1 _ rfl
                have g2 : ∀ w', Below w4.heap.size w4 w' → w'.cell? ⟨wr.heap.size, 2, none⟩ = some (.int .i64 d.f.p.r) := B4.rule 2 _ rfl
                have g3 : ∀ w', Below w4.heap.size w4 w' → w'.cell? ⟨wr.heap.size, 3, none⟩ = some (.int .i64 d.f.p.w) := B4.rule 3 _ rfl
                have g4 : ∀ w', Below w4.heap.size w4 w' → w'.cell? ⟨wr.heap.size, 4, none⟩ = some (.int .i64 d.f.p.l) := B4.rule 4 _ rfl
                have g5 : ∀ w', Below w4.heap.size w4 w' → w'.cell? ⟨wr.heap.size, 5, none⟩ = some (.int .i64 d.f.p.b) := B4.rule 5 _ rfl
                have g6 : ∀ w', Below w4.heap.size w4 w' → w'.cell? ⟨wr.heap.size, 6, none⟩ = some (.int .i64 ch.r) := B4.rule 6 _ rfl
                have g7 : ∀ w', Below w4.heap.size w4 w' → w'.cell? ⟨wr.heap.size, 7, none⟩ = some (.int .i64 ch.p) := B4.rule 7 _ rfl
                have g8 : ∀ w', Below w4.heap.size w4 w' → w'.cell? ⟨wr.heap.size, 8, none⟩ = some (.int .i64 ch.l) := B4.rule 8 _ rfl
                have g9 : ∀ w', Below w4.heap.size w4 w' → w'.cell? ⟨wr.heap.size, 9, none⟩ = some (.slice (some ⟨g, qo, none⟩) rest.length 0) := B4.rule 9 _ rfl
                have x0 : ∀ w', Below w4.heap.size w4 w' → w'.cell? ⟨wr.heap.size + 1, 0, none⟩ = some (.int .i64 x.name) := X4.rule 0 _ rfl
                have x1 : ∀ w', Below w4.heap.size w4 w' → w'.cell? ⟨wr.heap.size + 1, 1, none⟩ = some (.int .i64 x.delta) := X4.rule 1 _ rfl
                have x2 : ∀ w', Below w4.heap.size w4 w' → w'.cell? ⟨wr.heap.size + 1, 2, none⟩ = some (.int .i64 x.rho) := X4.rule 2 _ rfl
                have HWI := hide (fun w' (hb : Below w4.heap.size w4 w') => with12_calls a ⟨⟨d.f.id, d.f.ver, d.f.p, ch, rest⟩, (some ⟨g, qo, none⟩), 0⟩ (D4.below hb) rfl hnn ha ((Q4.below hb4).below hb))
                have HR4 := hide R4
                have HB4 := hide hb4
                have HCHE := hide hch
                have r4 := Below.refl w4.heap.size w4
                clear hch hrl ch4 B4 X4 hb34 hb4 hw4 D4 R4 hlen4 Q4 y6 y7 y8 z6 z7 z8
                refine region_lexg (fun w' => Below w4.heap.size w4 w') [9] 0 [(2, 0), (2, 1), (0, 2), (2, 4), (0, 5), (0, 6), (2, 7), (1, 3), (2, 8), (3, 9)] #[true, true, true, true, true, true, true, true, true, true] (by kernel_rfl) (by kernel_rfl) (by decide) (by kernel_rfl) (by kernel_rfl) (fun _ _ _ _ _ h => h) (by (first | exact r4.drew | exact hb5)) (fun hS0 => ?_)
                simp only [List.map_cons, List.map_nil, List.getElem?_toArray, List.getElem?_cons_succ, List.getElem?_cons_zero]
                (apply lexg_pure (by rfl); (focus (intro w; go_simp; (try with_reducible rfl); done)); simp only [Act.put, List.setIfInBounds_toArray, List.set_cons_zero, List.set_cons_succ])
                (apply lexg_pure (by rfl); (focus (intro w; go_simp; (try with_reducible rfl); done)); simp only [Act.put, List.setIfInBounds_toArray, List.set_cons_zero, List.set_cons_succ])
                (apply lexg_take (by rfl); (focus (intro w hw; (try dsimp only at hw); go_simp; (try with_reducible rfl); done)); simp only [Act.put, List.setIfInBounds_toArray, List.set_cons_zero, List.set_cons_succ])
                (apply lexg_pure (by rfl); (focus (intro w; go_simp; (try with_reducible rfl); done)); simp only [Act.put, List.setIfInBounds_toArray, List.set_cons_zero, List.set_cons_succ])
                (apply lexg_take (by rfl); (focus (intro w hw; (try dsimp only at hw); go_simp; (try with_reducible rfl); done)); simp only [Act.put, List.setIfInBounds_toArray, List.set_cons_zero, List.set_cons_succ])
                (apply lexg_take (by rfl); (focus (intro w hw; (try dsimp only at hw); go_simp; (try with_reducible rfl); done)); simp only [Act.put, List.setIfInBounds_toArray, List.set_cons_zero, List.set_cons_succ])
                (apply lexg_pure (by rfl); (focus (intro w; go_simp; (try with_reducible rfl); done)); simp only [Act.put, List.setIfInBounds_toArray, List.set_cons_zero, List.set_cons_succ])
                (refine lexg_eff (by rfl) ?_; go_simp; ((go_at_call 47; (refine (HWI.out _ r4.drew).mono ?_); rintro e w5 ⟨vv, rfl, hout⟩; obtain ⟨A5, c5, G5, rfl, hl5, hd5, hg5, hbb5⟩ := hout; have hb5 : Below w4.heap.size w4 w5 := r4.drew.trans (hbb5.mono r4.drew.size); have R5 := HR4.out.below hb5; have t0 : w5.cell? ⟨w.heap.size, 0, none⟩ = some (.slice none 0 0) := R5.cell 0; have t1 : w5.cell? ⟨w.heap.size, 1, none⟩ = some (.int .i64 0) := R5.cell 1; have t2 : w5.cell? ⟨w.heap.size, 2, none⟩ = some (.int .i64 0) := R5.cell 2; have t3 : w5.cell? ⟨w.heap.size, 3, none⟩ = some (.int .i64 0) := R5.cell 3; have t4 : w5.cell? ⟨w.heap.size, 4, none⟩ = some (.int .i64 0) := R5.cell 4; have t5 : w5.cell? ⟨w.heap.size, 5, none⟩ = some (.int .i64 0) := R5.cell 5; have s0 : w5.frozen? ⟨w.heap.size, 0, none⟩ = false := R5.frozen 0; have s1 : w5.frozen? ⟨w.heap.size, 1, none⟩ = false := R5.frozen 1; have s2 : w5.frozen? ⟨w.heap.size, 2, none⟩ = false := R5.frozen 2; have s3 : w5.frozen? ⟨w.heap.size, 3, none⟩ = false := R5.frozen 3; have s4 : w5.frozen? ⟨w.heap.size, 4, none⟩ = false := R5.frozen 4; have s5 : w5.frozen? ⟨w.heap.size, 5, none⟩ = false := R5.frozen 5)); refine lexg_both (by (first | exact r4.drew | exact hb5)) (fun hS1 => ?_))
                (apply lexg_pure (by rfl); (focus (intro w; go_simp; (try with_reducible rfl); done)); simp only [Act.put, List.setIfInBounds_toArray, List.set_cons_zero, List.set_cons_succ])
                (refine lexg_effN (by rfl) ?_; go_simp)
                refine lexg_nil (fun _ => wpAnyG_done (by kernel_rfl) ?_ _)
                have HL5 := hide hl5
                have HD5 := hide hd5
                have HG5 := hide hg5
                have HB5 := hide hb5
                clear hl5 hd5 hg5 hbb5 hb5 R5 g0 g1 g2 g3 g4 g5 g6 g7 g8 g9 x0 x1 x2 r4
                go_wp2
                refine bodyPost_ret (v := .agg #[.slice A5 D.length c5, .int .i64 d.f.id, .int .i64 x.name, .int .i64 x.delta, .int .i64 x.rho, .int .i64 2]) (by simp [results, Try.results26, go_sem, *]) rfl ?_
                obtain ⟨ha2, hd2⟩ := HDD.out
                have hwv := HB0.out.lt
                have hv4 := HB4.out.size
                have hnG : w.heap.size ∉ G5 := fun hm => by
                  rcases HG5.out _ hm with h | h
                  · have := HD.out.lt _ h; omega
                  · have h2 : w4.heap.size ≤ w.heap.size := h
                    omega
                have hB5 : Below w.heap.size w w5 := (HBW.out.trans (HB4.out.mono HBW.out.size)).trans (HB5.out.mono (by omega))
                refine Or.inr ⟨a, ha2, 2, x, rest, ?_, by rw [hd2]; exact HQ.out, _, (some ⟨g, qo, none⟩), 0, by rw [hd2], ?_⟩
                · first | exact Or.inl ⟨rfl, HFE1.out⟩ | exact Or.inr ⟨rfl, HFE1.out, HFE2.out⟩
                · rw [hd2, HCHE.out]
                  exact ⟨A5, c5, G5, rfl, HL5.out, HD5.out.six hnG _ _ _ _ _ _, fun z hz => (HG5.out z hz).imp id (fun h => by
                    have h2 : w4.heap.size ≤ z := h
                    omega), below_six hB5 (Nat.le_refl _) _ _ _ _ _ _⟩
              · rw [if_neg hcc, HA.out, Option.map_some, add_addr, HQ.out] at hcut
                have HCUT := hide hcut
                clear hcut
                go_wp2_with fail
                obtain ⟨u, hu⟩ : ∃ u, (wr.alloc (.cells #[.int .i64 d.f.id, .int .i64 d.f.ver, .int .i64 d.f.p.r, .int .i64 d.f.p.w, .int .i64 d.f.p.l, .int .i64 d.f.p.b, .int .i64 d.f.c.r, .int .i64 d.f.c.p, .int .i64 d.f.c.l, .slice (some ⟨g, qo + 3, none⟩) (ln - 1) (d.c - 1)] 74)).alloc (.cells #[.int .i64 x.name, .int .i64 x.delta, .int .i64 x.rho] 36) = u := ⟨_, rfl⟩
                have hub : Below wr.heap.size wr u := by rw [← hu]; exact ((Below.refl _ _).alloc (Nat.le_refl _) _).alloc (by simp) _
                have BU : Blk u wr.heap.size 74 [.int .i64 d.f.id, .int .i64 d.f.ver, .int .i64 d.f.p.r, .int .i64 d.f.p.w, .int .i64 d.f.p.l, .int .i64 d.f.p.b, .int .i64 d.f.c.r, .int .i64 d.f.c.p, .int .i64 d.f.c.l, .slice (some ⟨g, qo + 3, none⟩) (ln - 1) (d.c - 1)] := by rw [← hu]; exact (Blk.new rfl).alloc _
                have BX : Blk u (wr.heap.size + 1) 36 x.cells := by rw [← hu]; exact Blk.new (by simp)
                rw [hu]
                clear hu
                refine (HCH.out u).mono ?_
                rintro e w3 ⟨rfl, hb3⟩
                have B3 := BU.below hb3
                have X3 := BX.below hb3
                have y6 : w3.cell? ⟨wr.heap.size, 6, none⟩ = some (.int .i64 d.f.c.r) := B3.cell 6
                have y7 : w3.cell? ⟨wr.heap.size, 7, none⟩ = some (.int .i64 d.f.c.p) := B3.cell 7
                have y8 : w3.cell? ⟨wr.heap.size, 8, none⟩ = some (.int .i64 d.f.c.l) := B3.cell 8
                have z6 : w3.frozen? ⟨wr.heap.size, 6, none⟩ = false := B3.frozen 6
                have z7 : w3.frozen? ⟨wr.heap.size, 7, none⟩ = false := B3.frozen 7
                have z8 : w3.frozen? ⟨wr.heap.size, 8, none⟩ = false := B3.frozen 8
                have HU3 := hide (hub.trans (hb3.mono hub.size))
                have HBB3 := hide B3
                have HX3 := hide X3
                clear BU BX hub hb3 B3 X3 k0 k1 k2 k3 k4 k5 k6 k7 k8 k9 x0 x1 x2
                go_wp2_with fail
                obtain ⟨ch, hch⟩ : ∃ ch, charge d.f.p d.f.c (at_ now) 2 x.delta x.rho = ch := ⟨_, rfl⟩
                rw [hch]
                have hrl : rest.length = ln - 1 := by have := HL1.out; omega
                have ch4 : Chg [wr.heap.size] w3 (((w3.setCell ⟨wr.heap.size, 6, none⟩ (.int .i64 ch.r)).setCell ⟨wr.heap.size, 7, none⟩ (.int .i64 ch.p)).setCell ⟨wr.heap.size, 8, none⟩ (.int .i64 ch.l)) := (((Chg.refl [wr.heap.size] w3).setCell (Or.inl (by simp)) _).setCell (Or.inl (by simp)) _).setCell (Or.inl (by simp)) _
                have B4 : Blk (((w3.setCell ⟨wr.heap.size, 6, none⟩ (.int .i64 ch.r)).setCell ⟨wr.heap.size, 7, none⟩ (.int .i64 ch.p)).setCell ⟨wr.heap.size, 8, none⟩ (.int .i64 ch.l)) wr.heap.size 74 (Dl.cells ⟨⟨d.f.id, d.f.ver, d.f.p, ch, rest⟩, (some ⟨g, qo + 3, none⟩), (d.c - 1)⟩) := by
                  have := ((HBB3.out.set 6 (.int .i64 ch.r)).set 7 (.int .i64 ch.p)).set 8 (.int .i64 ch.l)
                  rw [show Dl.cells ⟨⟨d.f.id, d.f.ver, d.f.p, ch, rest⟩, (some ⟨g, qo + 3, none⟩), (d.c - 1)⟩ = [.int .i64 d.f.id, .int .i64 d.f.ver, .int .i64 d.f.p.r, .int .i64 d.f.p.w, .int .i64 d.f.p.l, .int .i64 d.f.p.b, .int .i64 ch.r, .int .i64 ch.p, .int .i64 ch.l, .slice (some ⟨g, qo + 3, none⟩) (ln - 1) (d.c - 1)] by simp [Dl.cells, Dl.lv, hrl]]
                  exact this
                have X4 := HX3.out.chg ch4 (by simp)
                have hb34 : Below v.heap.size v w3 := HBR0.out.trans (HU3.out.mono HBR0.out.size)
                have hvb : v.heap.size ≤ wr.heap.size := HBR0.out.size
                have hb4 : Below v.heap.size v (((w3.setCell ⟨wr.heap.size, 6, none⟩ (.int .i64 ch.r)).setCell ⟨wr.heap.size, 7, none⟩ (.int .i64 ch.p)).setCell ⟨wr.heap.size, 8, none⟩ (.int .i64 ch.l)) := Chg.onto hb34 hb34.size ch4 (fun z hz => by rw [List.mem_singleton.1 hz]; exact hvb)
                obtain ⟨w4, hw4⟩ : ∃ w4, (((w3.setCell ⟨wr.heap.size, 6, none⟩ (.int .i64 ch.r)).setCell ⟨wr.heap.size, 7, none⟩ (.int .i64 ch.p)).setCell ⟨wr.heap.size, 8, none⟩ (.int .i64 ch.l)) = w4 := ⟨_, rfl⟩
                rw [hw4] at B4 X4 hb4
                rw [hw4]
                have D4 := HDV.out.below hb4
                have R4 := HB0.out.below hb4
                have hlen4 : ln - 1 ≤ (d.c - 1) := by omega
                have Q4 : Qr v G ⟨⟨d.f.id, d.f.ver, d.f.p, ch, rest⟩, (some ⟨g, qo + 3, none⟩), (d.c - 1)⟩ := by
                  refine ⟨?_, by rw [hrl]; exact hlen4, fun b2 o2 e => ?_⟩
                  · have := HCUT.out
                    rw [show ln - 1 = rest.length by omega] at this
                    exact this
                  · have : g = b2 := by injection e with e; injection e
                    rw [← this]
                    exact HQG.out g qo HA.out
                have g0 : ∀ w', Below w4.heap.size w4 w' → w'.cell? ⟨wr.heap.size, 0, none⟩ = some (.int .i64 d.f.id) := B4.rule 0 _ rfl
                have g1 : ∀ w', Below w4.heap.size w4 w' → w'.cell? ⟨wr.heap.size, 1, none⟩ = some (.int .i64 d.f.ver) := B4.rule 1 _ rfl
                have g2 : ∀ w', Below w4.heap.size w4 w' → w'.cell? ⟨wr.heap.size, 2, none⟩ = some (.int .i64 d.f.p.r) := B4.rule 2 _ rfl
                have g3 : ∀ w', Below w4.heap.size w4 w' → w'.cell? ⟨wr.heap.size, 3, none⟩ = some (.int .i64 d.f.p.w) := B4.rule 3 _ rfl
                have g4 : ∀ w', Below w4.heap.size w4 w' → w'.cell? ⟨wr.heap.size, 4, none⟩ = some (.int .i64 d.f.p.l) := B4.rule 4 _ rfl
                have g5 : ∀ w', Below w4.heap.size w4 w' → w'.cell? ⟨wr.heap.size, 5, none⟩ = some (.int .i64 d.f.p.b) := B4.rule 5 _ rfl
                have g6 : ∀ w', Below w4.heap.size w4 w' → w'.cell? ⟨wr.heap.size, 6, none⟩ = some (.int .i64 ch.r) := B4.rule 6 _ rfl
                have g7 : ∀ w', Below w4.heap.size w4 w' → w'.cell? ⟨wr.heap.size, 7, none⟩ = some (.int .i64 ch.p) := B4.rule 7 _ rfl
                have g8 : ∀ w', Below w4.heap.size w4 w' → w'.cell? ⟨wr.heap.size, 8, none⟩ = some (.int .i64 ch.l) := B4.rule 8 _ rfl
                have g9 : ∀ w', Below w4.heap.size w4 w' → w'.cell? ⟨wr.heap.size, 9, none⟩ = some (.slice (some ⟨g, qo + 3, none⟩) rest.length (d.c - 1)) := B4.rule 9 _ rfl
                have x0 : ∀ w', Below w4.heap.size w4 w' → w'.cell? ⟨wr.heap.size + 1, 0, none⟩ = some (.int .i64 x.name) := X4.rule 0 _ rfl
                have x1 : ∀ w', Below w4.heap.size w4 w' → w'.cell? ⟨wr.heap.size + 1, 1, none⟩ = some (.int .i64 x.delta) := X4.rule 1 _ rfl
                have x2 : ∀ w', Below w4.heap.size w4 w' → w'.cell? ⟨wr.heap.size + 1, 2, none⟩ = some (.int .i64 x.rho) := X4.rule 2 _ rfl
                have HWI := hide (fun w' (hb : Below w4.heap.size w4 w') => with12_calls a ⟨⟨d.f.id, d.f.ver, d.f.p, ch, rest⟩, (some ⟨g, qo + 3, none⟩), (d.c - 1)⟩ (D4.below hb) rfl hnn ha ((Q4.below hb4).below hb))
                have HR4 := hide R4
                have HB4 := hide hb4
                have HCHE := hide hch
                have r4 := Below.refl w4.heap.size w4
                clear hch hrl ch4 B4 X4 hb34 hb4 hw4 D4 R4 hlen4 Q4 y6 y7 y8 z6 z7 z8
                refine region_lexg (fun w' => Below w4.heap.size w4 w') [9] 0 [(2, 0), (2, 1), (0, 2), (2, 4), (0, 5), (0, 6), (2, 7), (1, 3), (2, 8), (3, 9)] #[true, true, true, true, true, true, true, true, true, true] (by kernel_rfl) (by kernel_rfl) (by decide) (by kernel_rfl) (by kernel_rfl) (fun _ _ _ _ _ h => h) (by (first | exact r4.drew | exact hb5)) (fun hS0 => ?_)
                simp only [List.map_cons, List.map_nil, List.getElem?_toArray, List.getElem?_cons_succ, List.getElem?_cons_zero]
                (apply lexg_pure (by rfl); (focus (intro w; go_simp; (try with_reducible rfl); done)); simp only [Act.put, List.setIfInBounds_toArray, List.set_cons_zero, List.set_cons_succ])
                (apply lexg_pure (by rfl); (focus (intro w; go_simp; (try with_reducible rfl); done)); simp only [Act.put, List.setIfInBounds_toArray, List.set_cons_zero, List.set_cons_succ])
                (apply lexg_take (by rfl); (focus (intro w hw; (try dsimp only at hw); go_simp; (try with_reducible rfl); done)); simp only [Act.put, List.setIfInBounds_toArray, List.set_cons_zero, List.set_cons_succ])
                (apply lexg_pure (by rfl); (focus (intro w; go_simp; (try with_reducible rfl); done)); simp only [Act.put, List.setIfInBounds_toArray, List.set_cons_zero, List.set_cons_succ])
                (apply lexg_take (by rfl); (focus (intro w hw; (try dsimp only at hw); go_simp; (try with_reducible rfl); done)); simp only [Act.put, List.setIfInBounds_toArray, List.set_cons_zero, List.set_cons_succ])
                (apply lexg_take (by rfl); (focus (intro w hw; (try dsimp only at hw); go_simp; (try with_reducible rfl); done)); simp only [Act.put, List.setIfInBounds_toArray, List.set_cons_zero, List.set_cons_succ])
                (apply lexg_pure (by rfl); (focus (intro w; go_simp; (try with_reducible rfl); done)); simp only [Act.put, List.setIfInBounds_toArray, List.set_cons_zero, List.set_cons_succ])
                (refine lexg_eff (by rfl) ?_; go_simp; ((go_at_call 47; (refine (HWI.out _ r4.drew).mono ?_); rintro e w5 ⟨vv, rfl, hout⟩; obtain ⟨A5, c5, G5, rfl, hl5, hd5, hg5, hbb5⟩ := hout; have hb5 : Below w4.heap.size w4 w5 := r4.drew.trans (hbb5.mono r4.drew.size); have R5 := HR4.out.below hb5; have t0 : w5.cell? ⟨w.heap.size, 0, none⟩ = some (.slice none 0 0) := R5.cell 0; have t1 : w5.cell? ⟨w.heap.size, 1, none⟩ = some (.int .i64 0) := R5.cell 1; have t2 : w5.cell? ⟨w.heap.size, 2, none⟩ = some (.int .i64 0) := R5.cell 2; have t3 : w5.cell? ⟨w.heap.size, 3, none⟩ = some (.int .i64 0) := R5.cell 3; have t4 : w5.cell? ⟨w.heap.size, 4, none⟩ = some (.int .i64 0) := R5.cell 4; have t5 : w5.cell? ⟨w.heap.size, 5, none⟩ = some (.int .i64 0) := R5.cell 5; have s0 : w5.frozen? ⟨w.heap.size, 0, none⟩ = false := R5.frozen 0; have s1 : w5.frozen? ⟨w.heap.size, 1, none⟩ = false := R5.frozen 1; have s2 : w5.frozen? ⟨w.heap.size, 2, none⟩ = false := R5.frozen 2; have s3 : w5.frozen? ⟨w.heap.size, 3, none⟩ = false := R5.frozen 3; have s4 : w5.frozen? ⟨w.heap.size, 4, none⟩ = false := R5.frozen 4; have s5 : w5.frozen? ⟨w.heap.size, 5, none⟩ = false := R5.frozen 5)); refine lexg_both (by (first | exact r4.drew | exact hb5)) (fun hS1 => ?_))
                (apply lexg_pure (by rfl); (focus (intro w; go_simp; (try with_reducible rfl); done)); simp only [Act.put, List.setIfInBounds_toArray, List.set_cons_zero, List.set_cons_succ])
                (refine lexg_effN (by rfl) ?_; go_simp)
                refine lexg_nil (fun _ => wpAnyG_done (by kernel_rfl) ?_ _)
                have HL5 := hide hl5
                have HD5 := hide hd5
                have HG5 := hide hg5
                have HB5 := hide hb5
                clear hl5 hd5 hg5 hbb5 hb5 R5 g0 g1 g2 g3 g4 g5 g6 g7 g8 g9 x0 x1 x2 r4
                go_wp2
                refine bodyPost_ret (v := .agg #[.slice A5 D.length c5, .int .i64 d.f.id, .int .i64 x.name, .int .i64 x.delta, .int .i64 x.rho, .int .i64 2]) (by simp [results, Try.results26, go_sem, *]) rfl ?_
                obtain ⟨ha2, hd2⟩ := HDD.out
                have hwv := HB0.out.lt
                have hv4 := HB4.out.size
                have hnG : w.heap.size ∉ G5 := fun hm => by
                  rcases HG5.out _ hm with h | h
                  · have := HD.out.lt _ h; omega
                  · have h2 : w4.heap.size ≤ w.heap.size := h
                    omega
                have hB5 : Below w.heap.size w w5 := (HBW.out.trans (HB4.out.mono HBW.out.size)).trans (HB5.out.mono (by omega))
                refine Or.inr ⟨a, ha2, 2, x, rest, ?_, by rw [hd2]; exact HQ.out, _, (some ⟨g, qo + 3, none⟩), (d.c - 1), by rw [hd2], ?_⟩
                · first | exact Or.inl ⟨rfl, HFE1.out⟩ | exact Or.inr ⟨rfl, HFE1.out, HFE2.out⟩
                · rw [hd2, HCHE.out]
                  exact ⟨A5, c5, G5, rfl, HL5.out, HD5.out.six hnG _ _ _ _ _ _, fun z hz => (HG5.out z hz).imp id (fun h => by
                    have h2 : w4.heap.size ≤ z := h
                    omega), below_six hB5 (Nat.le_refl _) _ _ _ _ _ _⟩
      · subst hz
        have m2 : ¬ ((a : Int) < 0) := by omega
        obtain ⟨b, o, c', hv, hc1, hc2, hbb, hcell⟩ := HDV.out.at_ ha
        injection hv with e1 _ e3
        subst e1
        clear e3
        obtain ⟨d, hd⟩ : ∃ d, D[a] = d := ⟨_, rfl⟩
        have rules : ∀ j, j < 10 → wr.cell? ⟨b, o + (a * 10 + j), none⟩ = d.cells[j]? := fun j hj => by
          rw [hbr.cell (p := ⟨b, o + (a * 10 + j), none⟩) hbb, hcell j hj, hd]
        have k0 : wr.cell? ⟨b, o + a * 10, none⟩ = some (.int .i64 d.f.id) := rules 0 (by omega)
        have k1 : wr.cell? ⟨b, o + a * 10 + 1, none⟩ = some (.int .i64 d.f.ver) := rules 1 (by omega)
        have k2 : wr.cell? ⟨b, o + a * 10 + 2, none⟩ = some (.int .i64 d.f.p.r) := rules 2 (by omega)
        have k3 : wr.cell? ⟨b, o + a * 10 + 3, none⟩ = some (.int .i64 d.f.p.w) := rules 3 (by omega)
        have k4 : wr.cell? ⟨b, o + a * 10 + 4, none⟩ = some (.int .i64 d.f.p.l) := rules 4 (by omega)
        have k5 : wr.cell? ⟨b, o + a * 10 + 5, none⟩ = some (.int .i64 d.f.p.b) := rules 5 (by omega)
        have k6 : wr.cell? ⟨b, o + a * 10 + 6, none⟩ = some (.int .i64 d.f.c.r) := rules 6 (by omega)
        have k7 : wr.cell? ⟨b, o + a * 10 + 7, none⟩ = some (.int .i64 d.f.c.p) := rules 7 (by omega)
        have k8 : wr.cell? ⟨b, o + a * 10 + 8, none⟩ = some (.int .i64 d.f.c.l) := rules 8 (by omega)
        have hup : up d.f = true := by
          rcases (HFE1).out with ⟨h, _⟩ | ⟨a', ha', _, h, h2, _⟩
          · omega
          · have e : a = a' := by omega
            subst e
            rw [hd] at h2
            exact h2
        obtain ⟨x, rest, hq⟩ : ∃ x rest, d.f.q = x :: rest := by
          cases hqq : d.f.q with
          | nil => simp [up, hqq] at hup
          | cons x rest => exact ⟨x, rest, rfl⟩
        have hdm : d ∈ D := by rw [← hd]; exact List.getElem_mem ha
        obtain ⟨hqr, hqc, hqG⟩ := HDV.out.q d hdm
        obtain ⟨ln, hln⟩ : ∃ ln, d.f.q.length = ln := ⟨_, rfl⟩
        have hl1 : ln = rest.length + 1 := by rw [← hln, hq]; rfl
        rw [hln] at hqr hqc
        obtain ⟨g, qo, hA, hgB, hitc⟩ := hqr.at_ (by omega)
        have k9 : wr.cell? ⟨b, o + a * 10 + 9, none⟩ = some (.slice (some ⟨g, qo, none⟩) ln d.c) := (rules 9 (by omega)).trans (by
          rw [← hA, ← hln]
          rfl)
        have x0 : wr.cell? ⟨g, qo, none⟩ = some (.int .i64 x.name) := (hbr.cell (p := ⟨g, qo, none⟩) hgB).trans (hitc 0 _ (by rw [hq]; rfl))
        have x1 : wr.cell? ⟨g, qo + 1, none⟩ = some (.int .i64 x.delta) := (hbr.cell (p := ⟨g, qo + 1, none⟩) hgB).trans (hitc 1 _ (by rw [hq]; rfl))
        have x2 : wr.cell? ⟨g, qo + 2, none⟩ = some (.int .i64 x.rho) := (hbr.cell (p := ⟨g, qo + 2, none⟩) hgB).trans (hitc 2 _ (by rw [hq]; rfl))
        have j1 : (a : Int) < D.length := by omega
        have j2 : (0 : Int) < ln := by omega
        have j3 : (1 : Int) ≤ ln := by omega
        have j4 : (ln : Int) ≤ d.c := by omega
        have hvs := hbr.size
        have n1 : ¬ (b = wr.heap.size) := by omega
        have n2 : ¬ (g = wr.heap.size) := by omega
        have n3 : ¬ (b = wr.heap.size + 1) := by omega
        have n4 : ¬ (g = wr.heap.size + 1) := by omega
        have n5 : ¬ (wr.heap.size = b) := by omega
        have n6 : ¬ (wr.heap.size = g) := by omega
        have n7 : ¬ (wr.heap.size + 1 = b) := by omega
        have n8 : ¬ (wr.heap.size + 1 = g) := by omega
        have n9 : g < wr.heap.size := by omega
        have n10 : b < wr.heap.size := by omega
        have HRD := hide hqr
        have HQG := hide hqG
        have HQ := hide hq
        have HLN := hide hln
        have HL1 := hide hl1
        have HA := hide hA
        have HDD := hide (show ∃ ha : a < D.length, D[a] = d from ⟨ha, hd⟩)
        have HBR0 := hide hbr
        clear rules hcell hd hq hqr hqG hqc hln hl1 hA hitc hdm hup hc1 hc2
        have hcut := HRD.out.cut (k := 1) (cap := d.c) (by omega) (by omega)
        have hck := HCK.out d (by obtain ⟨ha, e⟩ := HDD.out; rw [← e]; exact List.getElem_mem ha)
        have ht0 : 0 ≤ at_ now := times_lo _ _
        have ht1 : at_ now ≤ 2305843009213693952 := times_hi _ _
        have HCH := hide (fun w1 => rCharge_calls d.f.p d.f.c (at_ now) 1 x.delta x.rho w1 ht0 ht1 hck.1 hck.2)
        clear hck ht0 ht1
        by_cases hcc : d.c = 1
        · rw [if_pos hcc, HA.out, HQ.out] at hcut
          have HCUT := hide hcut
          clear hcut
          go_wp2_with fail
          obtain ⟨u, hu⟩ : ∃ u, (wr.alloc (.cells #[.int .i64 d.f.id, .int .i64 d.f.ver, .int .i64 d.f.p.r, .int .i64 d.f.p.w, .int .i64 d.f.p.l, .int .i64 d.f.p.b, .int .i64 d.f.c.r, .int .i64 d.f.c.p, .int .i64 d.f.c.l, .slice (some ⟨g, qo, none⟩) (ln - 1) 0] 74)).alloc (.cells #[.int .i64 x.name, .int .i64 x.delta, .int .i64 x.rho] 36) = u := ⟨_, rfl⟩
          have hub : Below wr.heap.size wr u := by rw [← hu]; exact ((Below.refl _ _).alloc (Nat.le_refl _) _).alloc (by simp) _
          have BU : Blk u wr.heap.size 74 [.int .i64 d.f.id, .int .i64 d.f.ver, .int .i64 d.f.p.r, .int .i64 d.f.p.w, .int .i64 d.f.p.l, .int .i64 d.f.p.b, .int .i64 d.f.c.r, .int .i64 d.f.c.p, .int .i64 d.f.c.l, .slice (some ⟨g, qo, none⟩) (ln - 1) 0] := by rw [← hu]; exact (Blk.new rfl).alloc _
          have BX : Blk u (wr.heap.size + 1) 36 x.cells := by rw [← hu]; exact Blk.new (by simp)
          rw [hu]
          clear hu
          refine (HCH.out u).mono ?_
          rintro e w3 ⟨rfl, hb3⟩
          have B3 := BU.below hb3
          have X3 := BX.below hb3
          have y6 : w3.cell? ⟨wr.heap.size, 6, none⟩ = some (.int .i64 d.f.c.r) := B3.cell 6
          have y7 : w3.cell? ⟨wr.heap.size, 7, none⟩ = some (.int .i64 d.f.c.p) := B3.cell 7
          have y8 : w3.cell? ⟨wr.heap.size, 8, none⟩ = some (.int .i64 d.f.c.l) := B3.cell 8
          have z6 : w3.frozen? ⟨wr.heap.size, 6, none⟩ = false := B3.frozen 6
          have z7 : w3.frozen? ⟨wr.heap.size, 7, none⟩ = false := B3.frozen 7
          have z8 : w3.frozen? ⟨wr.heap.size, 8, none⟩ = false := B3.frozen 8
          have HU3 := hide (hub.trans (hb3.mono hub.size))
          have HBB3 := hide B3
          have HX3 := hide X3
          clear BU BX hub hb3 B3 X3 k0 k1 k2 k3 k4 k5 k6 k7 k8 k9 x0 x1 x2
          go_wp2_with fail
          obtain ⟨ch, hch⟩ : ∃ ch, charge d.f.p d.f.c (at_ now) 1 x.delta x.rho = ch := ⟨_, rfl⟩
          rw [hch]
          have hrl : rest.length = ln - 1 := by have := HL1.out; omega
          have ch4 : Chg [wr.heap.size] w3 (((w3.setCell ⟨wr.heap.size, 6, none⟩ (.int .i64 ch.r)).setCell ⟨wr.heap.size, 7, none⟩ (.int .i64 ch.p)).setCell ⟨wr.heap.size, 8, none⟩ (.int .i64 ch.l)) := (((Chg.refl [wr.heap.size] w3).setCell (Or.inl (by simp)) _).setCell (Or.inl (by simp)) _).setCell (Or.inl (by simp)) _
          have B4 : Blk (((w3.setCell ⟨wr.heap.size, 6, none⟩ (.int .i64 ch.r)).setCell ⟨wr.heap.size, 7, none⟩ (.int .i64 ch.p)).setCell ⟨wr.heap.size, 8, none⟩ (.int .i64 ch.l)) wr.heap.size 74 (Dl.cells ⟨⟨d.f.id, d.f.ver, d.f.p, ch, rest⟩, (some ⟨g, qo, none⟩), 0⟩) := by
            have := ((HBB3.out.set 6 (.int .i64 ch.r)).set 7 (.int .i64 ch.p)).set 8 (.int .i64 ch.l)
            rw [show Dl.cells ⟨⟨d.f.id, d.f.ver, d.f.p, ch, rest⟩, (some ⟨g, qo, none⟩), 0⟩ = [.int .i64 d.f.id, .int .i64 d.f.ver, .int .i64 d.f.p.r, .int .i64 d.f.p.w, .int .i64 d.f.p.l, .int .i64 d.f.p.b, .int .i64 ch.r, .int .i64 ch.p, .int .i64 ch.l, .slice (some ⟨g, qo, none⟩) (ln - 1) 0] by simp [Dl.cells, Dl.lv, hrl]]
            exact this
          have X4 := HX3.out.chg ch4 (by simp)
          have hb34 : Below v.heap.size v w3 := HBR0.out.trans (HU3.out.mono HBR0.out.size)
          have hvb : v.heap.size ≤ wr.heap.size := HBR0.out.size
          have hb4 : Below v.heap.size v (((w3.setCell ⟨wr.heap.size, 6, none⟩ (.int .i64 ch.r)).setCell ⟨wr.heap.size, 7, none⟩ (.int .i64 ch.p)).setCell ⟨wr.heap.size, 8, none⟩ (.int .i64 ch.l)) := Chg.onto hb34 hb34.size ch4 (fun z hz => by rw [List.mem_singleton.1 hz]; exact hvb)
          obtain ⟨w4, hw4⟩ : ∃ w4, (((w3.setCell ⟨wr.heap.size, 6, none⟩ (.int .i64 ch.r)).setCell ⟨wr.heap.size, 7, none⟩ (.int .i64 ch.p)).setCell ⟨wr.heap.size, 8, none⟩ (.int .i64 ch.l)) = w4 := ⟨_, rfl⟩
          rw [hw4] at B4 X4 hb4
          rw [hw4]
          have D4 := HDV.out.below hb4
          have R4 := HB0.out.below hb4
          have hlen4 : ln - 1 ≤ 0 := by omega
          have Q4 : Qr v G ⟨⟨d.f.id, d.f.ver, d.f.p, ch, rest⟩, (some ⟨g, qo, none⟩), 0⟩ := by
            refine ⟨?_, by rw [hrl]; exact hlen4, fun b2 o2 e => ?_⟩
            · have := HCUT.out
              rw [show ln - 1 = rest.length by omega] at this
              exact this
            · have : g = b2 := by injection e with e; injection e
              rw [← this]
              exact HQG.out g qo HA.out
          have g0 : ∀ w', Below w4.heap.size w4 w' → w'.cell? ⟨wr.heap.size, 0, none⟩ = some (.int .i64 d.f.id) := B4.rule 0 _ rfl
          have g1 : ∀ w', Below w4.heap.size w4 w' → w'.cell? ⟨wr.heap.size, 1, none⟩ = some (.int .i64 d.f.ver) := B4.rule 1 _ rfl
          have g2 : ∀ w', Below w4.heap.size w4 w' → w'.cell? ⟨wr.heap.size, 2, none⟩ = some (.int .i64 d.f.p.r) := B4.rule 2 _ rfl
          have g3 : ∀ w', Below w4.heap.size w4 w' → w'.cell? ⟨wr.heap.size, 3, none⟩ = some (.int .i64 d.f.p.w) := B4.rule 3 _ rfl
          have g4 : ∀ w', Below w4.heap.size w4 w' → w'.cell? ⟨wr.heap.size, 4, none⟩ = some (.int .i64 d.f.p.l) := B4.rule 4 _ rfl
          have g5 : ∀ w', Below w4.heap.size w4 w' → w'.cell? ⟨wr.heap.size, 5, none⟩ = some (.int .i64 d.f.p.b) := B4.rule 5 _ rfl
          have g6 : ∀ w', Below w4.heap.size w4 w' → w'.cell? ⟨wr.heap.size, 6, none⟩ = some (.int .i64 ch.r) := B4.rule 6 _ rfl
          have g7 : ∀ w', Below w4.heap.size w4 w' → w'.cell? ⟨wr.heap.size, 7, none⟩ = some (.int .i64 ch.p) := B4.rule 7 _ rfl
          have g8 : ∀ w', Below w4.heap.size w4 w' → w'.cell? ⟨wr.heap.size, 8, none⟩ = some (.int .i64 ch.l) := B4.rule 8 _ rfl
          have g9 : ∀ w', Below w4.heap.size w4 w' → w'.cell? ⟨wr.heap.size, 9, none⟩ = some (.slice (some ⟨g, qo, none⟩) rest.length 0) := B4.rule 9 _ rfl
          have x0 : ∀ w', Below w4.heap.size w4 w' → w'.cell? ⟨wr.heap.size + 1, 0, none⟩ = some (.int .i64 x.name) := X4.rule 0 _ rfl
          have x1 : ∀ w', Below w4.heap.size w4 w' → w'.cell? ⟨wr.heap.size + 1, 1, none⟩ = some (.int .i64 x.delta) := X4.rule 1 _ rfl
          have x2 : ∀ w', Below w4.heap.size w4 w' → w'.cell? ⟨wr.heap.size + 1, 2, none⟩ = some (.int .i64 x.rho) := X4.rule 2 _ rfl
          have HWI := hide (fun w' (hb : Below w4.heap.size w4 w') => with12_calls a ⟨⟨d.f.id, d.f.ver, d.f.p, ch, rest⟩, (some ⟨g, qo, none⟩), 0⟩ (D4.below hb) rfl hnn ha ((Q4.below hb4).below hb))
          have HR4 := hide R4
          have HB4 := hide hb4
          have HCHE := hide hch
          have r4 := Below.refl w4.heap.size w4
          clear hch hrl ch4 B4 X4 hb34 hb4 hw4 D4 R4 hlen4 Q4 y6 y7 y8 z6 z7 z8
          refine region_lexg (fun w' => Below w4.heap.size w4 w') [9] 0 [(2, 0), (2, 1), (0, 2), (2, 4), (0, 5), (0, 6), (2, 7), (1, 3), (2, 8), (3, 9)] #[true, true, true, true, true, true, true, true, true, true] (by kernel_rfl) (by kernel_rfl) (by decide) (by kernel_rfl) (by kernel_rfl) (fun _ _ _ _ _ h => h) (by (first | exact r4.drew | exact hb5)) (fun hS0 => ?_)
          simp only [List.map_cons, List.map_nil, List.getElem?_toArray, List.getElem?_cons_succ, List.getElem?_cons_zero]
          (apply lexg_pure (by rfl); (focus (intro w; go_simp; (try with_reducible rfl); done)); simp only [Act.put, List.setIfInBounds_toArray, List.set_cons_zero, List.set_cons_succ])
          (apply lexg_pure (by rfl); (focus (intro w; go_simp; (try with_reducible rfl); done)); simp only [Act.put, List.setIfInBounds_toArray, List.set_cons_zero, List.set_cons_succ])
          (apply lexg_take (by rfl); (focus (intro w hw; (try dsimp only at hw); go_simp; (try with_reducible rfl); done)); simp only [Act.put, List.setIfInBounds_toArray, List.set_cons_zero, List.set_cons_succ])
          (apply lexg_pure (by rfl); (focus (intro w; go_simp; (try with_reducible rfl); done)); simp only [Act.put, List.setIfInBounds_toArray, List.set_cons_zero, List.set_cons_succ])
          (apply lexg_take (by rfl); (focus (intro w hw; (try dsimp only at hw); go_simp; (try with_reducible rfl); done)); simp only [Act.put, List.setIfInBounds_toArray, List.set_cons_zero, List.set_cons_succ])
          (apply lexg_take (by rfl); (focus (intro w hw; (try dsimp only at hw); go_simp; (try with_reducible rfl); done)); simp only [Act.put, List.setIfInBounds_toArray, List.set_cons_zero, List.set_cons_succ])
          (apply lexg_pure (by rfl); (focus (intro w; go_simp; (try with_reducible rfl); done)); simp only [Act.put, List.setIfInBounds_toArray, List.set_cons_zero, List.set_cons_succ])
          (refine lexg_eff (by rfl) ?_; go_simp; ((go_at_call 47; (refine (HWI.out _ r4.drew).mono ?_); rintro e w5 ⟨vv, rfl, hout⟩; obtain ⟨A5, c5, G5, rfl, hl5, hd5, hg5, hbb5⟩ := hout; have hb5 : Below w4.heap.size w4 w5 := r4.drew.trans (hbb5.mono r4.drew.size); have R5 := HR4.out.below hb5; have t0 : w5.cell? ⟨w.heap.size, 0, none⟩ = some (.slice none 0 0) := R5.cell 0; have t1 : w5.cell? ⟨w.heap.size, 1, none⟩ = some (.int .i64 0) := R5.cell 1; have t2 : w5.cell? ⟨w.heap.size, 2, none⟩ = some (.int .i64 0) := R5.cell 2; have t3 : w5.cell? ⟨w.heap.size, 3, none⟩ = some (.int .i64 0) := R5.cell 3; have t4 : w5.cell? ⟨w.heap.size, 4, none⟩ = some (.int .i64 0) := R5.cell 4; have t5 : w5.cell? ⟨w.heap.size, 5, none⟩ = some (.int .i64 0) := R5.cell 5; have s0 : w5.frozen? ⟨w.heap.size, 0, none⟩ = false := R5.frozen 0; have s1 : w5.frozen? ⟨w.heap.size, 1, none⟩ = false := R5.frozen 1; have s2 : w5.frozen? ⟨w.heap.size, 2, none⟩ = false := R5.frozen 2; have s3 : w5.frozen? ⟨w.heap.size, 3, none⟩ = false := R5.frozen 3; have s4 : w5.frozen? ⟨w.heap.size, 4, none⟩ = false := R5.frozen 4; have s5 : w5.frozen? ⟨w.heap.size, 5, none⟩ = false := R5.frozen 5)); refine lexg_both (by (first | exact r4.drew | exact hb5)) (fun hS1 => ?_))
          (apply lexg_pure (by rfl); (focus (intro w; go_simp; (try with_reducible rfl); done)); simp only [Act.put, List.setIfInBounds_toArray, List.set_cons_zero, List.set_cons_succ])
          (refine lexg_effN (by rfl) ?_; go_simp)
          refine lexg_nil (fun _ => wpAnyG_done (by kernel_rfl) ?_ _)
          have HL5 := hide hl5
          have HD5 := hide hd5
          have HG5 := hide hg5
          have HB5 := hide hb5
          clear hl5 hd5 hg5 hbb5 hb5 R5 g0 g1 g2 g3 g4 g5 g6 g7 g8 g9 x0 x1 x2 r4
          go_wp2
          refine bodyPost_ret (v := .agg #[.slice A5 D.length c5, .int .i64 d.f.id, .int .i64 x.name, .int .i64 x.delta, .int .i64 x.rho, .int .i64 1]) (by simp [results, Try.results26, go_sem, *]) rfl ?_
          obtain ⟨ha2, hd2⟩ := HDD.out
          have hwv := HB0.out.lt
          have hv4 := HB4.out.size
          have hnG : w.heap.size ∉ G5 := fun hm => by
            rcases HG5.out _ hm with h | h
            · have := HD.out.lt _ h; omega
            · have h2 : w4.heap.size ≤ w.heap.size := h
              omega
          have hB5 : Below w.heap.size w w5 := (HBW.out.trans (HB4.out.mono HBW.out.size)).trans (HB5.out.mono (by omega))
          refine Or.inr ⟨a, ha2, 1, x, rest, ?_, by rw [hd2]; exact HQ.out, _, (some ⟨g, qo, none⟩), 0, by rw [hd2], ?_⟩
          · first | exact Or.inl ⟨rfl, HFE1.out⟩ | exact Or.inr ⟨rfl, HFE1.out, HFE2.out⟩
          · rw [hd2, HCHE.out]
            exact ⟨A5, c5, G5, rfl, HL5.out, HD5.out.six hnG _ _ _ _ _ _, fun z hz => (HG5.out z hz).imp id (fun h => by
              have h2 : w4.heap.size ≤ z := h
              omega), below_six hB5 (Nat.le_refl _) _ _ _ _ _ _⟩
        · rw [if_neg hcc, HA.out, Option.map_some, add_addr, HQ.out] at hcut
          have HCUT := hide hcut
          clear hcut
          go_wp2_with fail
          obtain ⟨u, hu⟩ : ∃ u, (wr.alloc (.cells #[.int .i64 d.f.id, .int .i64 d.f.ver, .int .i64 d.f.p.r, .int .i64 d.f.p.w, .int .i64 d.f.p.l, .int .i64 d.f.p.b, .int .i64 d.f.c.r, .int .i64 d.f.c.p, .int .i64 d.f.c.l, .slice (some ⟨g, qo + 3, none⟩) (ln - 1) (d.c - 1)] 74)).alloc (.cells #[.int .i64 x.name, .int .i64 x.delta, .int .i64 x.rho] 36) = u := ⟨_, rfl⟩
          have hub : Below wr.heap.size wr u := by rw [← hu]; exact ((Below.refl _ _).alloc (Nat.le_refl _) _).alloc (by simp) _
          have BU : Blk u wr.heap.size 74 [.int .i64 d.f.id, .int .i64 d.f.ver, .int .i64 d.f.p.r, .int .i64 d.f.p.w, .int .i64 d.f.p.l, .int .i64 d.f.p.b, .int .i64 d.f.c.r, .int .i64 d.f.c.p, .int .i64 d.f.c.l, .slice (some ⟨g, qo + 3, none⟩) (ln - 1) (d.c - 1)] := by rw [← hu]; exact (Blk.new rfl).alloc _
          have BX : Blk u (wr.heap.size + 1) 36 x.cells := by rw [← hu]; exact Blk.new (by simp)
          rw [hu]
          clear hu
          refine (HCH.out u).mono ?_
          rintro e w3 ⟨rfl, hb3⟩
          have B3 := BU.below hb3
          have X3 := BX.below hb3
          have y6 : w3.cell? ⟨wr.heap.size, 6, none⟩ = some (.int .i64 d.f.c.r) := B3.cell 6
          have y7 : w3.cell? ⟨wr.heap.size, 7, none⟩ = some (.int .i64 d.f.c.p) := B3.cell 7
          have y8 : w3.cell? ⟨wr.heap.size, 8, none⟩ = some (.int .i64 d.f.c.l) := B3.cell 8
          have z6 : w3.frozen? ⟨wr.heap.size, 6, none⟩ = false := B3.frozen 6
          have z7 : w3.frozen? ⟨wr.heap.size, 7, none⟩ = false := B3.frozen 7
          have z8 : w3.frozen? ⟨wr.heap.size, 8, none⟩ = false := B3.frozen 8
          have HU3 := hide (hub.trans (hb3.mono hub.size))
          have HBB3 := hide B3
          have HX3 := hide X3
          clear BU BX hub hb3 B3 X3 k0 k1 k2 k3 k4 k5 k6 k7 k8 k9 x0 x1 x2
          go_wp2_with fail
          obtain ⟨ch, hch⟩ : ∃ ch, charge d.f.p d.f.c (at_ now) 1 x.delta x.rho = ch := ⟨_, rfl⟩
          rw [hch]
          have hrl : rest.length = ln - 1 := by have := HL1.out; omega
          have ch4 : Chg [wr.heap.size] w3 (((w3.setCell ⟨wr.heap.size, 6, none⟩ (.int .i64 ch.r)).setCell ⟨wr.heap.size, 7, none⟩ (.int .i64 ch.p)).setCell ⟨wr.heap.size, 8, none⟩ (.int .i64 ch.l)) := (((Chg.refl [wr.heap.size] w3).setCell (Or.inl (by simp)) _).setCell (Or.inl (by simp)) _).setCell (Or.inl (by simp)) _
          have B4 : Blk (((w3.setCell ⟨wr.heap.size, 6, none⟩ (.int .i64 ch.r)).setCell ⟨wr.heap.size, 7, none⟩ (.int .i64 ch.p)).setCell ⟨wr.heap.size, 8, none⟩ (.int .i64 ch.l)) wr.heap.size 74 (Dl.cells ⟨⟨d.f.id, d.f.ver, d.f.p, ch, rest⟩, (some ⟨g, qo + 3, none⟩), (d.c - 1)⟩) := by
            have := ((HBB3.out.set 6 (.int .i64 ch.r)).set 7 (.int .i64 ch.p)).set 8 (.int .i64 ch.l)
            rw [show Dl.cells ⟨⟨d.f.id, d.f.ver, d.f.p, ch, rest⟩, (some ⟨g, qo + 3, none⟩), (d.c - 1)⟩ = [.int .i64 d.f.id, .int .i64 d.f.ver, .int .i64 d.f.p.r, .int .i64 d.f.p.w, .int .i64 d.f.p.l, .int .i64 d.f.p.b, .int .i64 ch.r, .int .i64 ch.p, .int .i64 ch.l, .slice (some ⟨g, qo + 3, none⟩) (ln - 1) (d.c - 1)] by simp [Dl.cells, Dl.lv, hrl]]
            exact this
          have X4 := HX3.out.chg ch4 (by simp)
          have hb34 : Below v.heap.size v w3 := HBR0.out.trans (HU3.out.mono HBR0.out.size)
          have hvb : v.heap.size ≤ wr.heap.size := HBR0.out.size
          have hb4 : Below v.heap.size v (((w3.setCell ⟨wr.heap.size, 6, none⟩ (.int .i64 ch.r)).setCell ⟨wr.heap.size, 7, none⟩ (.int .i64 ch.p)).setCell ⟨wr.heap.size, 8, none⟩ (.int .i64 ch.l)) := Chg.onto hb34 hb34.size ch4 (fun z hz => by rw [List.mem_singleton.1 hz]; exact hvb)
          obtain ⟨w4, hw4⟩ : ∃ w4, (((w3.setCell ⟨wr.heap.size, 6, none⟩ (.int .i64 ch.r)).setCell ⟨wr.heap.size, 7, none⟩ (.int .i64 ch.p)).setCell ⟨wr.heap.size, 8, none⟩ (.int .i64 ch.l)) = w4 := ⟨_, rfl⟩
          rw [hw4] at B4 X4 hb4
          rw [hw4]
          have D4 := HDV.out.below hb4
          have R4 := HB0.out.below hb4
          have hlen4 : ln - 1 ≤ (d.c - 1) := by omega
          have Q4 : Qr v G ⟨⟨d.f.id, d.f.ver, d.f.p, ch, rest⟩, (some ⟨g, qo + 3, none⟩), (d.c - 1)⟩ := by
            refine ⟨?_, by rw [hrl]; exact hlen4, fun b2 o2 e => ?_⟩
            · have := HCUT.out
              rw [show ln - 1 = rest.length by omega] at this
              exact this
            · have : g = b2 := by injection e with e; injection e
              rw [← this]
              exact HQG.out g qo HA.out
          have g0 : ∀ w', Below w4.heap.size w4 w' → w'.cell? ⟨wr.heap.size, 0, none⟩ = some (.int .i64 d.f.id) := B4.rule 0 _ rfl
          have g1 : ∀ w', Below w4.heap.size w4 w' → w'.cell? ⟨wr.heap.size, 1, none⟩ = some (.int .i64 d.f.ver) := B4.rule 1 _ rfl
          have g2 : ∀ w', Below w4.heap.size w4 w' → w'.cell? ⟨wr.heap.size, 2, none⟩ = some (.int .i64 d.f.p.r) := B4.rule 2 _ rfl
          have g3 : ∀ w', Below w4.heap.size w4 w' → w'.cell? ⟨wr.heap.size, 3, none⟩ = some (.int .i64 d.f.p.w) := B4.rule 3 _ rfl
          have g4 : ∀ w', Below w4.heap.size w4 w' → w'.cell? ⟨wr.heap.size, 4, none⟩ = some (.int .i64 d.f.p.l) := B4.rule 4 _ rfl
          have g5 : ∀ w', Below w4.heap.size w4 w' → w'.cell? ⟨wr.heap.size, 5, none⟩ = some (.int .i64 d.f.p.b) := B4.rule 5 _ rfl
          have g6 : ∀ w', Below w4.heap.size w4 w' → w'.cell? ⟨wr.heap.size, 6, none⟩ = some (.int .i64 ch.r) := B4.rule 6 _ rfl
          have g7 : ∀ w', Below w4.heap.size w4 w' → w'.cell? ⟨wr.heap.size, 7, none⟩ = some (.int .i64 ch.p) := B4.rule 7 _ rfl
          have g8 : ∀ w', Below w4.heap.size w4 w' → w'.cell? ⟨wr.heap.size, 8, none⟩ = some (.int .i64 ch.l) := B4.rule 8 _ rfl
          have g9 : ∀ w', Below w4.heap.size w4 w' → w'.cell? ⟨wr.heap.size, 9, none⟩ = some (.slice (some ⟨g, qo + 3, none⟩) rest.length (d.c - 1)) := B4.rule 9 _ rfl
          have x0 : ∀ w', Below w4.heap.size w4 w' → w'.cell? ⟨wr.heap.size + 1, 0, none⟩ = some (.int .i64 x.name) := X4.rule 0 _ rfl
          have x1 : ∀ w', Below w4.heap.size w4 w' → w'.cell? ⟨wr.heap.size + 1, 1, none⟩ = some (.int .i64 x.delta) := X4.rule 1 _ rfl
          have x2 : ∀ w', Below w4.heap.size w4 w' → w'.cell? ⟨wr.heap.size + 1, 2, none⟩ = some (.int .i64 x.rho) := X4.rule 2 _ rfl
          have HWI := hide (fun w' (hb : Below w4.heap.size w4 w') => with12_calls a ⟨⟨d.f.id, d.f.ver, d.f.p, ch, rest⟩, (some ⟨g, qo + 3, none⟩), (d.c - 1)⟩ (D4.below hb) rfl hnn ha ((Q4.below hb4).below hb))
          have HR4 := hide R4
          have HB4 := hide hb4
          have HCHE := hide hch
          have r4 := Below.refl w4.heap.size w4
          clear hch hrl ch4 B4 X4 hb34 hb4 hw4 D4 R4 hlen4 Q4 y6 y7 y8 z6 z7 z8
          refine region_lexg (fun w' => Below w4.heap.size w4 w') [9] 0 [(2, 0), (2, 1), (0, 2), (2, 4), (0, 5), (0, 6), (2, 7), (1, 3), (2, 8), (3, 9)] #[true, true, true, true, true, true, true, true, true, true] (by kernel_rfl) (by kernel_rfl) (by decide) (by kernel_rfl) (by kernel_rfl) (fun _ _ _ _ _ h => h) (by (first | exact r4.drew | exact hb5)) (fun hS0 => ?_)
          simp only [List.map_cons, List.map_nil, List.getElem?_toArray, List.getElem?_cons_succ, List.getElem?_cons_zero]
          (apply lexg_pure (by rfl); (focus (intro w; go_simp; (try with_reducible rfl); done)); simp only [Act.put, List.setIfInBounds_toArray, List.set_cons_zero, List.set_cons_succ])
          (apply lexg_pure (by rfl); (focus (intro w; go_simp; (try with_reducible rfl); done)); simp only [Act.put, List.setIfInBounds_toArray, List.set_cons_zero, List.set_cons_succ])
          (apply lexg_take (by rfl); (focus (intro w hw; (try dsimp only at hw); go_simp; (try with_reducible rfl); done)); simp only [Act.put, List.setIfInBounds_toArray, List.set_cons_zero, List.set_cons_succ])
          (apply lexg_pure (by rfl); (focus (intro w; go_simp; (try with_reducible rfl); done)); simp only [Act.put, List.setIfInBounds_toArray, List.set_cons_zero, List.set_cons_succ])
          (apply lexg_take (by rfl); (focus (intro w hw; (try dsimp only at hw); go_simp; (try with_reducible rfl); done)); simp only [Act.put, List.setIfInBounds_toArray, List.set_cons_zero, List.set_cons_succ])
          (apply lexg_take (by rfl); (focus (intro w hw; (try dsimp only at hw); go_simp; (try with_reducible rfl); done)); simp only [Act.put, List.setIfInBounds_toArray, List.set_cons_zero, List.set_cons_succ])
          (apply lexg_pure (by rfl); (focus (intro w; go_simp; (try with_reducible rfl); done)); simp only [Act.put, List.setIfInBounds_toArray, List.set_cons_zero, List.set_cons_succ])
          (refine lexg_eff (by rfl) ?_; go_simp; ((go_at_call 47; (refine (HWI.out _ r4.drew).mono ?_); rintro e w5 ⟨vv, rfl, hout⟩; obtain ⟨A5, c5, G5, rfl, hl5, hd5, hg5, hbb5⟩ := hout; have hb5 : Below w4.heap.size w4 w5 := r4.drew.trans (hbb5.mono r4.drew.size); have R5 := HR4.out.below hb5; have t0 : w5.cell? ⟨w.heap.size, 0, none⟩ = some (.slice none 0 0) := R5.cell 0; have t1 : w5.cell? ⟨w.heap.size, 1, none⟩ = some (.int .i64 0) := R5.cell 1; have t2 : w5.cell? ⟨w.heap.size, 2, none⟩ = some (.int .i64 0) := R5.cell 2; have t3 : w5.cell? ⟨w.heap.size, 3, none⟩ = some (.int .i64 0) := R5.cell 3; have t4 : w5.cell? ⟨w.heap.size, 4, none⟩ = some (.int .i64 0) := R5.cell 4; have t5 : w5.cell? ⟨w.heap.size, 5, none⟩ = some (.int .i64 0) := R5.cell 5; have s0 : w5.frozen? ⟨w.heap.size, 0, none⟩ = false := R5.frozen 0; have s1 : w5.frozen? ⟨w.heap.size, 1, none⟩ = false := R5.frozen 1; have s2 : w5.frozen? ⟨w.heap.size, 2, none⟩ = false := R5.frozen 2; have s3 : w5.frozen? ⟨w.heap.size, 3, none⟩ = false := R5.frozen 3; have s4 : w5.frozen? ⟨w.heap.size, 4, none⟩ = false := R5.frozen 4; have s5 : w5.frozen? ⟨w.heap.size, 5, none⟩ = false := R5.frozen 5)); refine lexg_both (by (first | exact r4.drew | exact hb5)) (fun hS1 => ?_))
          (apply lexg_pure (by rfl); (focus (intro w; go_simp; (try with_reducible rfl); done)); simp only [Act.put, List.setIfInBounds_toArray, List.set_cons_zero, List.set_cons_succ])
          (refine lexg_effN (by rfl) ?_; go_simp)
          refine lexg_nil (fun _ => wpAnyG_done (by kernel_rfl) ?_ _)
          have HL5 := hide hl5
          have HD5 := hide hd5
          have HG5 := hide hg5
          have HB5 := hide hb5
          clear hl5 hd5 hg5 hbb5 hb5 R5 g0 g1 g2 g3 g4 g5 g6 g7 g8 g9 x0 x1 x2 r4
          go_wp2
          refine bodyPost_ret (v := .agg #[.slice A5 D.length c5, .int .i64 d.f.id, .int .i64 x.name, .int .i64 x.delta, .int .i64 x.rho, .int .i64 1]) (by simp [results, Try.results26, go_sem, *]) rfl ?_
          obtain ⟨ha2, hd2⟩ := HDD.out
          have hwv := HB0.out.lt
          have hv4 := HB4.out.size
          have hnG : w.heap.size ∉ G5 := fun hm => by
            rcases HG5.out _ hm with h | h
            · have := HD.out.lt _ h; omega
            · have h2 : w4.heap.size ≤ w.heap.size := h
              omega
          have hB5 : Below w.heap.size w w5 := (HBW.out.trans (HB4.out.mono HBW.out.size)).trans (HB5.out.mono (by omega))
          refine Or.inr ⟨a, ha2, 1, x, rest, ?_, by rw [hd2]; exact HQ.out, _, (some ⟨g, qo + 3, none⟩), (d.c - 1), by rw [hd2], ?_⟩
          · first | exact Or.inl ⟨rfl, HFE1.out⟩ | exact Or.inr ⟨rfl, HFE1.out, HFE2.out⟩
          · rw [hd2, HCHE.out]
            exact ⟨A5, c5, G5, rfl, HL5.out, HD5.out.six hnG _ _ _ _ _ _, fun z hz => (HG5.out z hz).imp id (fun h => by
              have h2 : w4.heap.size ≤ z := h
              omega), below_six hB5 (Nat.le_refl _) _ _ _ _ _ _⟩
end Go.Proofs.Ytjdkafamaoeifaa
