/- The law SchedLimit of layer 12: for every input it answers true. No conditions. -/
import Derived.Test.YtjdkafamaoeifaaWhen
namespace Go.Proofs.Ytjdkafamaoeifaa
open Go.ChangeShapes Go.WideShapes Go.ChangeAt Go.RowKit Go.Proofs Go.Joins Go.Maps
set_option linter.unusedVariables false
set_option linter.unusedSimpArgs false

def fL (p : Nat → Pol) (C : Nat → Clk) (Q : Nat → List It) (j : Nat) : Fl := ⟨(j : Int), 1, p j, C j, Q j⟩
/-- flows 0 to n - 1 -/
def XL (p : Nat → Pol) (C : Nat → Clk) (Q : Nat → List It) (n : Nat) : List Fl := (List.range n).map (fL p C Q)
section
variable {p : Nat → Pol} {C : Nat → Clk} {Q : Nat → List It} {n j : Nat}
theorem XL_length : (XL p C Q n).length = n := by simp [XL]
theorem XL_get (h : j < (XL p C Q n).length) : (XL p C Q n)[j] = fL p C Q j := by simp [XL]
theorem XL_set (c : Clk) (q : List It) : (XL p C Q n).set j ⟨(j : Int), 1, p j, c, q⟩ = XL p (upW C j c) (upW Q j q) n := by
  refine List.ext_getElem (by simp [XL]) fun i h1 h2 => ?_
  rw [List.getElem_set, XL_get, XL_get]
  split
  · rename_i e; subst e
    simp [fL, upW]
  · rename_i e
    simp [fL, upW, Ne.symm e]
theorem XL_succ : XL p C Q (n + 1) = XL p C Q n ++ [fL p C Q n] := by simp [XL, List.range_succ]
theorem XL_congr {C' : Nat → Clk} {Q' : Nat → List It} (h : ∀ i, i < n → C i = C' i ∧ Q i = Q' i) : XL p C Q n = XL p C' Q' n := by
  unfold XL
  refine List.map_congr_left fun i hi => ?_
  obtain ⟨h1, h2⟩ := h i (by simpa using hi)
  simp [fL, h1, h2]
theorem XL_no : ∀ f ∈ XL p C Q n, f.id ≠ (n : Int) := by
  intro f hf
  obtain ⟨i, hi, rfl⟩ := List.mem_map.1 hf
  have : i < n := by simpa using hi
  simp [fL]
  omega
end
def pg (ps : List Pol) (j : Nat) : Pol := ps.getD j ⟨0, 0, 0, 0⟩
theorem pg_get {ps : List Pol} {j : Nat} (h : j < ps.length) : pg ps j = ps[j] := by simp [pg, h]
/-- all flows so far are filled, and their clocks for limits stand at 0 -/
def Filled (ps : List Pol) (C : Nat → Clk) (k : Nat) : Prop := ∀ j, j < k → (C j).l = 0 ∧ right (pg ps j).r (pg ps j).w (pg ps j).l (pg ps j).b = true
def QOk (q : List It) : Prop := q.length = 3 ∧ ∀ x ∈ q, x.delta = 0 ∧ x.rho = 0
theorem QOk.its : QOk (its 3) := ⟨its_length 3, fun x hx => its_plain hx⟩
theorem QOk.step {q rest : List It} {x : It} (h : QOk q) (e : q = x :: rest) : QOk (rest ++ [⟨0, 0, 0⟩]) ∧ rest ≠ [] ∧ rest.length < 1024 ∧ x.delta = 0 ∧ x.rho = 0 := by
  subst e
  obtain ⟨h1, h2⟩ := h
  simp at h1
  refine ⟨⟨by simp; omega, fun y hy => ?_⟩, fun e => by rw [e] at h1; simp at h1, by omega, h2 x (by simp)⟩
  rcases List.mem_append.1 hy with h3 | h3
  · exact h2 y (List.mem_cons_of_mem _ h3)
  · rw [List.mem_singleton.1 h3]; exact ⟨rfl, rfl⟩
/-- what is known of the flows' picks: now, at most m of each -/
structure Lim2 (pl : List Pol) (C : Nat → Clk) (Q : Nat → List It) (ts : Nat → List Int) (now : Int) (m : Nat) : Prop where
  h : ∀ j, j < pl.length → 0 < (pg pl j).l → Hist (pg pl j) (C j).l (ts j) now
  q : ∀ j, j < pl.length → QOk (Q j)
  r : ∀ j, j < pl.length → right (pg pl j).r (pg pl j).w (pg pl j).l (pg pl j).b = true
  n : ∀ j, (ts j).length ≤ m
theorem Lim2.start {pl : List Pol} {C : Nat → Clk} (h : Filled pl C pl.length) : Lim2 pl C (fun _ => its 3) (fun _ => []) 0 0 :=
  ⟨fun j hj _ => by rw [(h j hj).1]; exact Hist.start _ _, fun j hj => QOk.its, fun j hj => (h j hj).2, fun j => by simp⟩
theorem Lim2.later {pl : List Pol} {C : Nat → Clk} {Q : Nat → List It} {ts : Nat → List Int} {now now' : Int} {m m' : Nat} (h : Lim2 pl C Q ts now m) (hn : now ≤ now') (hm : m ≤ m') : Lim2 pl C Q ts now' m' :=
  ⟨fun j hj hl => (h.h j hj hl).later hn, h.q, h.r, fun j => Nat.le_trans (h.n j) hm⟩
theorem Picks.mayL {X : List Fl} {tag : Int} {i : Nat} {phase : Int} (h : Picks X tag i phase) : (phase = 1 ∨ phase = 2) ∧ ∃ hi : i < X.length, mayL tag X[i] = true := by
  rcases h with ⟨rfl, hi, _, hm, _⟩ | ⟨rfl, _, hi, _, hm, _⟩
  · refine ⟨Or.inl rfl, hi, ?_⟩
    cases hml : Go.Proofs.Ytjdkafamaoeifaa.mayL tag X[i]
    · rw [mayR_L hml] at hm; cases hm
    · rfl
  · exact ⟨Or.inr rfl, hi, hm⟩
theorem Lim2.pick {pl : List Pol} {C : Nat → Clk} {Q : Nat → List It} {ts : Nat → List Int} {now : Int} {m i : Nat} {phase : Int} {x : It} {rest : List It} (h : Lim2 pl C Q ts now m) (hi : i < pl.length) (n0 : 0 ≤ now) (n1 : now ≤ 1000)
    (hp : Picks (XL (pg pl) C Q pl.length) (at_ now) i phase) (hq : Q i = x :: rest) :
    Lim2 pl (upW C i (charge (pg pl i) (C i) (at_ now) phase x.delta x.rho)) (upW Q i (rest ++ [⟨0, 0, 0⟩])) (upW ts i (ts i ++ [now])) now (m + 1) := by
  obtain ⟨hst, _, _, hd, hr⟩ := (h.q i hi).step hq
  obtain ⟨hph, hi', hm⟩ := hp.mayL
  rw [XL_get] at hm
  refine ⟨fun j hj hl => ?_, fun j hj => ?_, h.r, fun j => ?_⟩
  · by_cases e : j = i
    · subst e
      rw [upW_same, upW_same, hd, hr]
      refine (h.h j hj hl).step (h.r j hj) hl hph n0 n1 ?_
      simp only [Go.Proofs.Ytjdkafamaoeifaa.mayL, byLimit, fL, Bool.and_eq_true, Bool.or_eq_true, decide_eq_true_eq] at hm
      rcases hm.2 with h1 | h1
      · have := of_decide_eq_true h1; omega
      · exact of_decide_eq_true h1
    · rw [upW_other e, upW_other e]
      exact h.h j hj hl
  · by_cases e : j = i
    · subst e; rw [upW_same]; exact hst
    · rw [upW_other e]; exact h.q j hj
  · by_cases e : j = i
    · subst e; rw [upW_same, List.length_append, List.length_singleton]; have := h.n j; omega
    · rw [upW_other e]; have := h.n j; omega
theorem LimSt.start {W wr : World} {ps : Nat} {X : List Fl} (h : Sch W [] wr ps X) : LimSt W (wr.alloc (.cells (whCells fun _ => .slice none 0 0).toArray 34)) wr.heap.size ps X (fun _ => .slice none 0 0) (fun _ => []) := by
  obtain ⟨⟨F, hs, h1, _⟩, hi⟩ := h
  have hb : Below wr.heap.size wr (wr.alloc (.cells (whCells fun _ => .slice none 0 0).toArray 34)) := (Below.refl _ _).alloc (Nat.le_refl _) _
  have hf : ∀ z, WFoot wr.heap.size (fun _ => Value.slice none 0 0) z → z = wr.heap.size := by
    rintro z (rfl | ⟨i, _, hz⟩)
    · rfl
    · simp [Value.ownBlock] at hz
  refine ⟨⟨F, hs.below hb, fun z hz => ⟨h1 z hz, fun hw => ?_⟩⟩, ⟨Blk.new rfl, fun i hi => ⟨rfl, Or.inl ⟨rfl, rfl⟩⟩, fun i j g _ _ _ hg => by simp [Value.ownBlock] at hg⟩, fun z hz => ?_, hi.base.trans (hb.mono hi.base.size)⟩
  · have := hs.lt z hz
    have := hf z hw
    omega
  · rw [hf z hz]; exact hi.base.size
set_option maxHeartbeats 8000000 in
set_option maxRecDepth 100000 in
/-- THE WALK of SchedLimit: whatever comes in, it answers true, and nothing that was there turns. -/
theorem schedLimit_walk {H : Type} {enc : TypeId × Value → H} (W : World) (base : Nat) (v0 v1 : Value) (d0 d1 : DataW H) (p0 p1 : List MemPlace)
    (ok0 : Value.okWide Try.prog W .any base 22 v0) (h0 : DataW.Trod enc Try.prog W 0 (fun _ => true) true 22 v0 d0 p0)
    (ok1 : Value.okWide Try.prog W .any base 23 v1) (h1 : DataW.Trod enc Try.prog W 0 (fun _ => true) true 23 v1 d1 p1) :
    Calls Try.prog 3 #[v0, v1] W fun e w' => e = .returned (.bool true) ∧ Below W.heap.size W w' := by
  obtain ⟨A0, c0, pl, rfl, l0, m0, R0⟩ := open_pols ok0 h0
  obtain ⟨A1, c1, xs, rfl, l1, m1, fw, R1⟩ := open_intsR Try.underlying23 Try.underlying5 (by kernel_rfl) ok1 h1
  clear ok0 h0 ok1 h1
  unfold maxLen at m0 m1
  have HR0 := hide R0
  have HR1 := hide R1
  have HFW := hide fw
  clear R0 R1 fw
  by_cases n0 : pl.length ≤ 6
  · have hn : ¬ (6 < (pl.length : Int)) := by omega
    by_cases n1 : xs.length ≤ 60
    · have hn1 : ¬ (60 < (xs.length : Int)) := by omega
      have HN := hide (snew_s (Inv.refl W))
      go_enter Try.func3, Try.ntmps3
      go_wp2_with fail
      refine HN.out.mono ?_
      rintro e w1 ⟨ps, rfl, h1⟩
      have H1 := hide h1
      clear h1 HN
      go_wp2_with fail
      go_loopw [6] (fun i wr => ∃ (k : Nat) (C : Nat → Clk), k ≤ pl.length ∧ i = .int .i64 k ∧ Filled pl C k ∧ Sch W [] wr ps (XL (pg pl) C (fun _ => its 3) k)) (fun i _ => pl.length - (intOf i).toNat)
      case atStart => exact ⟨0, fun _ => ⟨0, 0, 0⟩, by omega, rfl, fun j hj => absurd hj (by omega), H1.out⟩
      case round =>
        obtain ⟨k, C, hk, rfl, hfl, hs⟩ := hrel
        have HF := hide hfl
        have HS := hide hs
        clear hfl hs
        by_cases hlt : k < pl.length
        · obtain ⟨b, o, rfl, hbB, hcell⟩ := HR0.out.at_ (by omega)
          have hb := HS.out.base
          obtain ⟨q, hq⟩ : ∃ q, pl[k] = q := ⟨_, rfl⟩
          have hpg : pg pl k = q := by rw [pg_get hlt, hq]
          have d0 : wr.cell? ⟨b, o + k * 4, none⟩ = some (.int .i64 q.r) := (hb.cell (p := ⟨b, o + k * 4, none⟩) hbB).trans (by rw [← hq]; exact hcell _ _ (polCells_get pl k 0 hlt (by omega)))
          have d1 : wr.cell? ⟨b, o + k * 4 + 1, none⟩ = some (.int .i64 q.w) := (hb.cell (p := ⟨b, o + k * 4 + 1, none⟩) hbB).trans (by rw [← hq]; exact hcell _ _ (polCells_get pl k 1 hlt (by omega)))
          have d2 : wr.cell? ⟨b, o + k * 4 + 2, none⟩ = some (.int .i64 q.l) := (hb.cell (p := ⟨b, o + k * 4 + 2, none⟩) hbB).trans (by rw [← hq]; exact hcell _ _ (polCells_get pl k 2 hlt (by omega)))
          have d3 : wr.cell? ⟨b, o + k * 4 + 3, none⟩ = some (.int .i64 q.b) := (hb.cell (p := ⟨b, o + k * 4 + 3, none⟩) hbB).trans (by rw [← hq]; exact hcell _ _ (polCells_get pl k 3 hlt (by omega)))
          have i1 : (k : Int) < pl.length := by omega
          have HPG := hide hpg
          clear hcell hq hpg
          cases hrt : right q.r q.w q.l q.b
          · go_wp2_with fail
            with_reducible refine (rRight_calls _ _ _ _ _).mono ?_
            rintro e w2 ⟨rfl, hb2⟩
            rw [hrt]
            have bI := hb.trans (hb2.mono hb.size)
            clear d0 d1 d2 d3
            go_wp2_with fail
            refine (awake12_calls _).mono ?_
            rintro e wa ⟨rfl, hba⟩
            go_wp2
            go_ret
            exact ⟨rfl, bI.trans (hba.mono bI.size)⟩
          · go_wp2_with fail
            with_reducible refine (rRight_calls _ _ _ _ _).mono ?_
            rintro e w2 ⟨rfl, hb2⟩
            rw [hrt]
            have h2 := HS.out.below hb2
            have f0 : w2.cell? ⟨b, o + k * 4, none⟩ = some (.int .i64 q.r) := (hb2.cell (p := ⟨b, o + k * 4, none⟩) (Nat.lt_of_lt_of_le hbB hb.size)).trans d0
            have f1 : w2.cell? ⟨b, o + k * 4 + 1, none⟩ = some (.int .i64 q.w) := (hb2.cell (p := ⟨b, o + k * 4 + 1, none⟩) (Nat.lt_of_lt_of_le hbB hb.size)).trans d1
            have f2 : w2.cell? ⟨b, o + k * 4 + 2, none⟩ = some (.int .i64 q.l) := (hb2.cell (p := ⟨b, o + k * 4 + 2, none⟩) (Nat.lt_of_lt_of_le hbB hb.size)).trans d2
            have f3 : w2.cell? ⟨b, o + k * 4 + 3, none⟩ = some (.int .i64 q.b) := (hb2.cell (p := ⟨b, o + k * 4 + 3, none⟩) (Nat.lt_of_lt_of_le hbB hb.size)).trans d3
            have HC := hide (set_new_s (k : Int) 1 q h2 (by rw [XL_length]; omega) XL_no (by omega) (by omega) (by decide) hrt)
            have HRT := hide hrt
            clear d0 d1 d2 d3 h2 hrt hb2
            go_wp2_with fail
            refine HC.out.mono ?_
            rintro e w3 ⟨rfl, h3⟩
            have hlast : (XL (pg pl) C (fun _ => its 3) k ++ [(⟨(k : Int), 1, q, ⟨0, 0, 0⟩, []⟩ : Fl)])[k]'(by simp [XL_length]) = ⟨(k : Int), 1, q, ⟨0, 0, 0⟩, []⟩ := by
              rw [List.getElem_append_right (by simp [XL_length])]
              simp [XL_length]
            have HFILL := hide (fill_calls k ⟨(k : Int), 1, q, ⟨0, 0, 0⟩, []⟩ (k : Int) 0 h3 (by simp [XL_length]; omega) (by simp [XL_length]) hlast rfl rfl)
            clear h3 hlast HC f0 f1 f2 f3
            go_wp2_with fail
            refine HFILL.out.mono ?_
            rintro e w4 ⟨rfl, h4⟩
            have h4' : ∃ C', Filled pl C' (k + 1) ∧ Sch W [] w4 ps (XL (pg pl) C' (fun _ => its 3) (k + 1)) := by
              refine ⟨upW C k (wake ⟨0, 0, 0⟩ (at_ 0) (leastP (XL (pg pl) C (fun _ => its 3) k ++ [(⟨(k : Int), 1, q, ⟨0, 0, 0⟩, []⟩ : Fl)]))), fun j hj => ?_, ?_⟩
              · by_cases e : j = k
                · subst e
                  rw [upW_same, HPG.out]
                  exact ⟨rfl, HRT.out⟩
                · rw [upW_other e]
                  exact HF.out j (by omega)
              · have e : (XL (pg pl) C (fun _ => its 3) k ++ [(⟨(k : Int), 1, q, ⟨0, 0, 0⟩, []⟩ : Fl)]).set k ⟨(k : Int), 1, q, wake ⟨0, 0, 0⟩ (at_ 0) (leastP (XL (pg pl) C (fun _ => its 3) k ++ [(⟨(k : Int), 1, q, ⟨0, 0, 0⟩, []⟩ : Fl)])), its 3⟩ =
                    XL (pg pl) (upW C k (wake ⟨0, 0, 0⟩ (at_ 0) (leastP (XL (pg pl) C (fun _ => its 3) k ++ [(⟨(k : Int), 1, q, ⟨0, 0, 0⟩, []⟩ : Fl)])))) (fun _ => its 3) (k + 1) := by
                  rw [List.set_append_right _ _ (by simp [XL_length]), XL_length, Nat.sub_self, List.set_cons_zero, XL_succ]
                  congr 1
                  · exact XL_congr fun i hi => ⟨by rw [upW_other (by omega)], rfl⟩
                  · simp [fL, upW, HPG.out]
                rw [← e]
                exact h4
            have H4 := hide h4'
            clear h4 h4' HFILL
            go_wp2
            obtain ⟨C', g1, g2⟩ := H4.out
            go_roundw
            case rel => exact ⟨k + 1, C', by omega, by go_num, g1, g2⟩
            case measure => simp [intOf]; omega
        · have e2 : k = pl.length := by omega
          subst e2
          obtain ⟨i0, hi0, hz0, hz1, hz2⟩ := info_parts Try.infoInt2
          have hst := LimSt.start HS.out
          have h2 := Lim2.start HF.out
          obtain ⟨b, hb⟩ : ∃ b, wr.heap.size = b := ⟨_, rfl⟩
          rw [hb] at hst
          have HST := hide hst
          have H2 := hide h2
          clear hst h2
          go_wp2_with fail
          go_loopw [8, 9, 10, 11, 12, 13] (fun tv _ _ _ _ _ wr => ∃ (t : Nat) (C : Nat → Clk) (Q : Nat → List It) (sv : Nat → Value) (ts : Nat → List Int), t ≤ xs.length ∧ tv = .int .i64 t ∧ LimSt W wr b ps (XL (pg pl) C Q pl.length) sv ts ∧ Lim2 pl C Q ts t (13 * t)) (fun tv _ _ _ _ _ _ => xs.length - (intOf tv).toNat)
          case atStart => exact ⟨0, C, _, _, _, by omega, rfl, HST.out, H2.out⟩
          case round =>
            obtain ⟨t, C, Q, sv, ts, ht, rfl, hs, h2⟩ := hrel
            by_cases htl : t < xs.length
            · obtain ⟨bA, o, rfl, hbA, hcell⟩ := HR1.out.at_ (by omega)
              have hcx : W.cell? ⟨bA, o + t, none⟩ = some (.int .u8 xs[t]) := hcell t _ (by simp [htl])
              have hwx := bounds_u8 (HFW.out _ (List.getElem_mem htl))
              obtain ⟨x, hx⟩ : ∃ x, xs[t] = x := ⟨_, rfl⟩
              rw [hx] at hcx hwx
              obtain ⟨x0, x1⟩ := hwx
              have HCX := hide hcx
              have HS2 := hide hs
              have HL2 := hide h2
              have j1 : (t : Int) < xs.length := by omega
              clear hcell hcx hx hs h2
              go_wp2_with fail
              go_loopw [9, 10, 11, 12, 13] (fun kv _ _ _ _ wr => ∃ (k : Nat) (C : Nat → Clk) (Q : Nat → List It) (sv : Nat → Value) (ts : Nat → List Int), (k : Int) ≤ x % 13 ∧ kv = .int .i64 k ∧ LimSt W wr b ps (XL (pg pl) C Q pl.length) sv ts ∧ Lim2 pl C Q ts t (13 * t + k)) (fun kv _ _ _ _ _ => 13 - (intOf kv).toNat)
              case atStart => exact ⟨0, C, Q, sv, ts, by omega, rfl, HS2.out, HL2.out⟩
              case round =>
                obtain ⟨k, C, Q, sv, ts, hk, rfl, hs, h2⟩ := hrel
                have hcw : wr.cell? ⟨bA, o + t, none⟩ = some (.int .u8 x) := (hs.base.cell (p := ⟨bA, o + t, none⟩) hbA).trans HCX.out
                have HS3 := hide hs
                have HL3 := hide h2
                by_cases hkl : (k : Int) < x % 13
                · have HPK := hide (pick_l (t : Int) hs (by rw [XL_length]; omega))
                  clear hs h2
                  go_wp2_with fail
                  refine HPK.out.mono ?_
                  rintro e w3 (⟨rfl, h3⟩ | ⟨i, phase, f, y, rest, hp, ⟨hi, hf⟩, hqf, rfl, h3⟩)
                  · have H3 := hide (h3.below ((Below.refl w3.heap.size w3).alloc (Nat.le_refl _) (.cells #[.int .i64 0, .int .i64 0, .int .i64 0] 36)))
                    clear h3 HPK
                    go_wp2
                    go_roundw
                    case rel => exact ⟨k + 1, C, Q, sv, ts, by omega, by go_num, H3.out, HL3.out.later (Int.le_refl _) (by omega)⟩
                    case measure => simp [intOf]; omega
                  · have hin : i < pl.length := by rw [XL_length] at hi; exact hi
                    have hi6 : i < 6 := by omega
                    rw [XL_get] at hf
                    subst hf
                    have hqi : Q i = y :: rest := hqf
                    have h2' := HL3.out.pick hin (by omega) (by omega) hp hqi
                    have h4 : LimSt W w3 b ps (XL (pg pl) (upW C i (charge (pg pl i) (C i) (at_ (t : Int)) phase y.delta y.rho)) (upW Q i rest) pl.length) sv ts := by
                      rw [← XL_set]; exact h3
                    obtain ⟨A, cp, hsv, hsc, _⟩ := own_view (h4.wh.row i hi6)
                    have hbl : b < w3.heap.size := h4.wh.blk.lt
                    have d0 : w3.cell? ⟨b, i, none⟩ = some (.slice A (ts i).length cp) := (h4.wh.blk.cell i).trans ((whCells_get sv hi6).trans (congrArg some hsv))
                    have d1 : w3.frozen? ⟨b, i, none⟩ = false := h4.wh.blk.frozen i
                    have h5 := h4.below ((Below.refl w3.heap.size w3).alloc (Nat.le_refl _) (.cells #[.int .i64 y.name, .int .i64 y.delta, .int .i64 y.rho] 36))
                    have hst := (HL3.out.q i hin).step hqi
                    have htl2 : (ts i).length ≤ 2000 := by have := HL3.out.n i; omega
                    have HOWN := hide (hsv ▸ h4.wh.row i hi6)
                    have h6 := h5.below ((Below.refl _ _).alloc (Nat.le_refl _) (.cells #[.int .i64 (t : Int)] 3))
                    have HH := hide (And.intro h2' (And.intro h6 (And.intro hsv hst)))
                    have i6 : (i : Int) < 6 := by omega
                    have nb1 : ¬ (b = w3.heap.size) := by omega
                    have nb2 : ¬ (w3.heap.size = b) := by omega
                    rw [show (fL (pg pl) C Q i).id = (i : Int) from rfl]
                    clear h2' h4 h5 h6 hsv hst hsc hqi hp hi hqf h3 HPK
                    go_wp2_with (at_builtin; refine app_law rfl _ _ 33 rfl 3 i0 _ 1 8 Try.underlying33 hi0 hz0 hz1 hz2 rfl (by decide) (.slice A (ts i).length cp) (ts i).length ((ts i).map (Value.int .i64)) rfl ((HOWN.out.alloc _).alloc _) (w3.heap.size + 1) 1 1 [.int .i64 (t : Int)] rfl (Blk.new (by simp)) rfl ?c1 (by decide) ?c3 ?c4 ?_)
                    case c1 => first | rfl | (intro u hu; simp at hu; subst hu; rfl)
                    case c3 => unfold maxLen; omega
                    case c4 => omega
                    intro g cap2 w4 hown2 hch hor hlt2
                    obtain ⟨h2', h6, hsv, hst⟩ := HH.out
                    rw [← hsv] at hch hor
                    have hP := LimSt.push h6 hi6 hown2 hch (hor.imp id (fun e => by rw [e]; simp))
                    have hB4 := h6.wh.blk.chg hch (fun hm => h6.wh.ne hi6 (by simpa using hm) rfl)
                    have g0 : w4.cell? ⟨b, i, none⟩ = some (sv i) := (hB4.cell i).trans (whCells_get sv hi6)
                    have g1 : w4.frozen? ⟨b, i, none⟩ = false := hB4.frozen i
                    have HP := hide hP
                    have H2 := hide h2'
                    have HSTP := hide hst
                    clear h2' h6 hsv hst hch hor hlt2 hown2 hP hB4 d0 d1 HH
                    have HPU := hide (push_more_l i ⟨(i : Int), 1, pg pl i, charge (pg pl i) (C i) (at_ (t : Int)) phase y.delta y.rho, rest⟩ (i : Int) (t : Int) ⟨0, 0, 0⟩ HP.out (by rw [XL_length]; omega) (by rw [XL_length]; exact hin) (by rw [XL_get]; simp [fL, upW]) rfl HSTP.out.2.1 HSTP.out.2.2.1)
                    clear HP
                    go_wp2_with fail
                    refine HPU.out.mono ?_
                    rintro e w7 ⟨rfl, h7⟩
                    have h7' : LimSt W w7 b ps (XL (pg pl) (upW C i (charge (pg pl i) (C i) (at_ (t : Int)) phase y.delta y.rho)) (upW Q i (rest ++ [⟨0, 0, 0⟩])) pl.length) (upW sv i (.slice (some ⟨g, 0, none⟩) ((ts i).length + 1) cap2)) (upW ts i (ts i ++ [(t : Int)])) := by
                      have e1 := XL_set (p := pg pl) (C := upW C i (charge (pg pl i) (C i) (at_ (t : Int)) phase y.delta y.rho)) (Q := upW Q i rest) (n := pl.length) (j := i) (charge (pg pl i) (C i) (at_ (t : Int)) phase y.delta y.rho) (rest ++ [⟨0, 0, 0⟩])
                      have e2 : XL (pg pl) (upW (upW C i (charge (pg pl i) (C i) (at_ (t : Int)) phase y.delta y.rho)) i (charge (pg pl i) (C i) (at_ (t : Int)) phase y.delta y.rho)) (upW (upW Q i rest) i (rest ++ [⟨0, 0, 0⟩])) pl.length = XL (pg pl) (upW C i (charge (pg pl i) (C i) (at_ (t : Int)) phase y.delta y.rho)) (upW Q i (rest ++ [⟨0, 0, 0⟩])) pl.length :=
                        XL_congr fun a ha => by
                          by_cases e : a = i
                          · subst e; simp [upW]
                          · simp [upW, e]
                      rw [← e2, ← e1]
                      exact h7
                    have H7 := hide h7'
                    clear h7 h7' HPU g0 g1
                    go_wp2
                    go_roundw
                    case rel => exact ⟨k + 1, _, _, _, _, by omega, by go_num, H7.out, by have := H2.out; rw [show 13 * t + k + 1 = 13 * t + (k + 1) by omega] at this; exact this⟩
                    case measure => simp [intOf]; omega
                · clear hs h2
                  go_wp2
                  go_roundw
                  case rel => exact ⟨t + 1, C, Q, sv, ts, by omega, by go_num, HS3.out, HL3.out.later (by omega) (by omega)⟩
                  case measure => simp [intOf]; omega
            · have e5 : t = xs.length := by omega
              subst e5
              have HSx := hide hs
              have HLx := hide h2
              clear hs h2
              go_wp2_with fail
              go_loopw [14, 15, 16, 17] (fun iv _ _ _ w4 => ∃ i q : Nat, i ≤ pl.length ∧ iv = .int .i64 i ∧ w4 = wr.drewN q) (fun iv _ _ _ _ => pl.length - (intOf iv).toNat)
              case atStart => exact ⟨0, 0, by omega, rfl, rfl⟩
              case round =>
                obtain ⟨i, q0, hi, rfl, rfl⟩ := hrel
                by_cases hil : i < pl.length
                · obtain ⟨b0, o0, rfl, hb0, hcell0⟩ := HR0.out.at_ (by omega)
                  have hbs := HSx.out.base
                  have hi6 : i < 6 := by omega
                  obtain ⟨P, hP⟩ : ∃ P, pg pl i = P := ⟨_, rfl⟩
                  have hP2 : pl[i] = P := by rw [← hP, pg_get hil]
                  have d2 : wr.cell? ⟨b0, o0 + i * 4 + 2, none⟩ = some (.int .i64 P.l) := (hbs.cell (p := ⟨b0, o0 + i * 4 + 2, none⟩) hb0).trans (by rw [← hP2]; exact hcell0 _ _ (polCells_get pl i 2 hil (by omega)))
                  have d3 : wr.cell? ⟨b0, o0 + i * 4 + 3, none⟩ = some (.int .i64 P.b) := (hbs.cell (p := ⟨b0, o0 + i * 4 + 3, none⟩) hb0).trans (by rw [← hP2]; exact hcell0 _ _ (polCells_get pl i 3 hil (by omega)))
                  obtain ⟨A, cp, hsv, hsc, _, _, hrd⟩ := own_view (HSx.out.wh.row i hi6)
                  have hr0 := hrd.2 wr.heap.size (fun g hg => own_lt (HSx.out.wh.row i hi6) hg)
                  have c0' : wr.cell? ⟨b, i, none⟩ = some (.slice A (ts i).length cp) := (HSx.out.wh.blk.cell i).trans ((whCells_get sv hi6).trans (congrArg some hsv))
                  have hh := HLx.out.h i hil
                  have hrt := HLx.out.r i hil
                  have hnl := HLx.out.n i
                  rw [hP] at hh hrt
                  obtain ⟨tl, htl⟩ : ∃ tl, ts i = tl := ⟨_, rfl⟩
                  rw [htl] at hr0 c0' hh hnl
                  have r2 := right_iff.1 hrt
                  have hnl2 : tl.length ≤ 1000 := by omega
                  have i1 : (i : Int) < pl.length := by omega
                  have i6 : (i : Int) < 6 := by omega
                  have wb := wide_bd P.l
                  have HH := hide hh
                  have HRD := hide hr0
                  clear hcell0 hP hP2 hsv hrd htl hh hrt hr0 hnl hsc
                  go_wp2_with fail
                  with_reducible refine (rWide_calls _ _).mono ?_
                  rintro e w5 ⟨rfl, rfl⟩
                  by_cases hw : 0 < wide P.l
                  · have hl : 0 < P.l := by
                      rcases Int.lt_or_le 0 P.l with h | h
                      · exact h
                      · have : P.l = 0 := by omega
                        rw [this] at hw
                        exact absurd hw (by decide)
                    have HHI := hide (HH.out hl)
                    go_wp2_with fail
                    go_loopw [16, 17] (fun av _ w4 => ∃ a q : Nat, a ≤ tl.length ∧ av = .int .i64 a ∧ w4 = wr.drewN q) (fun av _ _ => tl.length - (intOf av).toNat)
                    case atStart => exact ⟨0, q0, by omega, rfl, rfl⟩
                    case round =>
                      obtain ⟨a, q1, ha, rfl, rfl⟩ := hrel
                      by_cases hal : a < tl.length
                      · have i2 : (a : Int) < tl.length := by omega
                        obtain ⟨g, og, rfl, hgB, hgc⟩ := HRD.out.at_ (by omega)
                        have ca : wr.cell? ⟨g, og + a, none⟩ = some (.int .i64 tl[a]) := hgc a _ (by simp [hal])
                        have ba := HHI.out.le _ (List.getElem_mem hal)
                        have HGC := hide hgc
                        clear hgc
                        go_wp2_with fail
                        go_loopw [17] (fun bv w4 => ∃ c q : Nat, a ≤ c ∧ c ≤ tl.length ∧ bv = .int .i64 c ∧ w4 = wr.drewN q) (fun bv _ => tl.length - (intOf bv).toNat)
                        case atStart => exact ⟨a, q1, by omega, by omega, rfl, rfl⟩
                        case round =>
                          obtain ⟨c, q2, hac, hc, rfl, rfl⟩ := hrel
                          by_cases hcl : c < tl.length
                          · have cc : wr.cell? ⟨g, og + c, none⟩ = some (.int .i64 tl[c]) := HGC.out c _ (by simp [hcl])
                            have bc := HHI.out.le _ (List.getElem_mem hcl)
                            have hok := HHI.out.ok a c hac hcl
                            have hri := HHI.out.rise a c hac hcl
                            have i3 : (c : Int) < tl.length := by omega
                            obtain ⟨ta, hta⟩ : ∃ ta, tl[a] = ta := ⟨_, rfl⟩
                            obtain ⟨tc, htc⟩ : ∃ tc, tl[c] = tc := ⟨_, rfl⟩
                            rw [hta, htc] at hok
                            rw [hta] at ca ba
                            rw [htc] at cc bc
                            have hdiv : (65536 * (tc - ta)).tdiv (wide P.l) = (65536 * (tc - ta)).tdiv (wide P.l) := rfl
                            have hz : (wide P.l == 0) = false := by simp; omega
                            rw [hta, htc] at hri
                            clear hta htc hdiv
                            have hn0 : 0 ≤ 65536 * (tc - ta) := by omega
                            have e1 : IntKind.i64.wrap ((c : Int) - a) = (c : Int) - a := IntWalk.i64_in _ (by omega)
                            have e2 : IntKind.i64.wrap ((c : Int) - a + 1) = (c : Int) - a + 1 := IntWalk.i64_in _ (by omega)
                            have e3 : IntKind.i64.wrap (tc - ta) = tc - ta := IntWalk.i64_in _ (by omega)
                            have e4 : IntKind.i64.wrap (65536 * (tc - ta)) = 65536 * (tc - ta) := IntWalk.i64_in _ (by omega)
                            have e5 : (65536 * (tc - ta)).tdiv (wide P.l) = 65536 * (tc - ta) / wide P.l := Int.tdiv_eq_ediv_of_nonneg hn0
                            have q0' : 0 ≤ 65536 * (tc - ta) / wide P.l := Int.ediv_nonneg hn0 (by omega)
                            have q1' : 65536 * (tc - ta) / wide P.l ≤ 65536 * (tc - ta) := Int.ediv_le_self _ hn0
                            have e6 : IntKind.i64.wrap (65536 * (tc - ta) / wide P.l) = 65536 * (tc - ta) / wide P.l := IntWalk.i64_in _ (by omega)
                            have e7 : IntKind.i64.wrap (65536 * (tc - ta) / wide P.l + P.b) = 65536 * (tc - ta) / wide P.l + P.b := IntWalk.i64_in _ (by omega)
                            have e8 : IntKind.i64.wrap (65536 * (tc - ta) / wide P.l + P.b + 1) = 65536 * (tc - ta) / wide P.l + P.b + 1 := IntWalk.i64_in _ (by omega)
                            have hd : ¬ (65536 * (tc - ta) / wide P.l + P.b + 1 < (c : Int) - a + 1) := by omega
                            clear hok
                            go_wp2_with fail
                            go_quiet (fail)
                            clear e1 e2 e3 e4 e5 e6 e7 e8
                            go_wp2
                            go_roundw
                            case rel => exact ⟨c + 1, _, by omega, by omega, by go_num, rfl⟩
                            case measure => simp [intOf]; omega
                          · have e : c = tl.length := by omega
                            subst e
                            go_wp2
                            go_roundw
                            case rel => exact ⟨a + 1, q2, by omega, by go_num, rfl⟩
                            case measure => simp [intOf]; omega
                      · have e : a = tl.length := by omega
                        subst e
                        go_wp2
                        go_roundw
                        case rel => exact ⟨i + 1, q1, by omega, by go_num, rfl⟩
                        case measure => simp [intOf]; omega
                  · by_cases h0 : 0 < tl.length
                    all_goals
                      have i0 : ((0 : Int) < tl.length) ∨ ¬ ((0 : Int) < tl.length) := by omega
                      go_wp2_with fail
                      go_loopw [16, 17] (fun av _ w4 => av = .int .i64 0 ∧ w4 = wr.drewN q0) (fun _ _ _ => 0)
                      case atStart => exact ⟨rfl, rfl⟩
                      case round =>
                        obtain ⟨rfl, rfl⟩ := hrel
                        go_wp2
                        go_roundw
                        case rel => exact ⟨i + 1, q0, by omega, by go_num, rfl⟩
                        case measure => simp [intOf]; omega
                · have e6 : i = pl.length := by omega
                  subst e6
                  have bI := below_drewN HSx.out.base q0
                  go_wp2_with fail
                  refine (awake12_calls _).mono ?_
                  rintro e wa ⟨rfl, hba⟩
                  go_wp2
                  go_ret
                  exact ⟨rfl, bI.trans (hba.mono bI.size)⟩
    · have hn1 : (60 : Int) < xs.length := by omega
      go_enter Try.func3, Try.ntmps3
      go_wp2_with fail
      have bI := Below.refl W.heap.size W
      refine (awake12_calls _).mono ?_
      rintro e wa ⟨rfl, hba⟩
      go_wp2
      go_ret
      exact ⟨rfl, bI.trans (hba.mono bI.size)⟩
  · have hn : (6 : Int) < pl.length := by omega
    go_enter Try.func3, Try.ntmps3
    go_wp2_with fail
    have bI := Below.refl W.heap.size W
    refine (awake12_calls _).mono ?_
    rintro e wa ⟨rfl, hba⟩
    go_wp2
    go_ret
    exact ⟨rfl, bI.trans (hba.mono bI.size)⟩
end Go.Proofs.Ytjdkafamaoeifaa
