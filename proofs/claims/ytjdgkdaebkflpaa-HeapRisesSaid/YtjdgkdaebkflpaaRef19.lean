/- The walk through the document's Choose: it picks the least one by one. -/
import Derived.Test.YtjdgkdaebkflpaaPlace3
namespace Go.Proofs.Ytjdgkdaebkflpaa
open Go.RowKit Go.Proofs
set_option linter.unusedVariables false

/-- those that are not used yet -/
def unused : List Bool → List Ld → List Ld
  | b :: bs, x :: xs => if b then unused bs xs else x :: unused bs xs
  | _, _ => []
theorem unused_mark : ∀ {us : List Bool} {xs : List Ld} {j : Nat} (h1 : j < us.length) (h2 : j < xs.length), us[j] = false → (unused us xs).Perm (xs[j] :: unused (us.set j true) xs)
  | b :: bs, x :: xs, 0, h1, h2, hu => by
    simp only [List.getElem_cons_zero] at hu
    subst hu
    simp [unused]
  | b :: bs, x :: xs, j + 1, h1, h2, hu => by
    simp only [List.getElem_cons_succ] at hu
    have ih := unused_mark (us := bs) (xs := xs) (j := j) (by simpa using h1) (by simpa using h2) hu
    simp only [unused, List.set_cons_succ, List.getElem_cons_succ]
    cases b
    · exact (ih.cons x).trans (List.Perm.swap _ _ _)
    · exact ih
  | [], _, _, h1, _, _ => absurd h1 (by simp)
  | _ :: _, [], _, _, h2, _ => absurd h2 (by simp)
theorem unused_mem : ∀ {us : List Bool} {xs : List Ld} {y : Ld}, y ∈ unused us xs → ∃ j, ∃ h1 : j < us.length, ∃ h2 : j < xs.length, us[j] = false ∧ xs[j] = y
  | b :: bs, x :: xs, y, h => by
    simp only [unused] at h
    cases b
    · simp only [Bool.false_eq_true, if_false, List.mem_cons] at h
      rcases h with rfl | h
      · exact ⟨0, by simp, by simp, rfl, rfl⟩
      · obtain ⟨j, h1, h2, h3, h4⟩ := unused_mem h
        exact ⟨j + 1, by simpa using h1, by simpa using h2, h3, h4⟩
    · simp only [if_true] at h
      obtain ⟨j, h1, h2, h3, h4⟩ := unused_mem h
      exact ⟨j + 1, by simpa using h1, by simpa using h2, h3, h4⟩
  | [], _, y, h => by simp [unused] at h
  | _ :: _, [], y, h => by simp [unused] at h
theorem unused_all : ∀ (xs : List Ld), unused (List.replicate xs.length false) xs = xs
  | [] => rfl
  | x :: xs => by simp [List.replicate_succ, unused, unused_all xs]
/-- the best one among the first jj that are not used -/
def Best (us : List Bool) (xs : List Ld) (jj : Nat) : Option Nat → Prop
  | none => ∀ i (h : i < us.length), i < jj → us[i] = true
  | some b => ∃ (h1 : b < us.length) (h2 : b < xs.length), b < jj ∧ us[b] = false ∧ ∀ i (h3 : i < us.length) (h4 : i < xs.length), i < jj → us[i] = false → ldLt xs[i] xs[b] = false
def atI : Option Nat → Int | none => -1 | some b => b
section
variable {us : List Bool} {xs : List Ld} {jj b : Nat} {o : Option Nat}
theorem Best.skip (h : Best us xs jj o) (h1 : jj < us.length) (hu : us[jj] = true) : Best us xs (jj + 1) o := by
  cases o with
  | none =>
    intro i hi hij
    by_cases e : i = jj
    · subst e; exact hu
    · exact h i hi (by omega)
  | some b =>
    obtain ⟨g1, g2, g3, g4, g5⟩ := h
    refine ⟨g1, g2, by omega, g4, fun i h3 h4 hij hf => ?_⟩
    by_cases e : i = jj
    · subst e; rw [hu] at hf; cases hf
    · exact g5 i h3 h4 (by omega) hf
theorem Best.first (h : Best us xs jj none) (h1 : jj < us.length) (h2 : jj < xs.length) (hu : us[jj] = false) : Best us xs (jj + 1) (some jj) := by
  refine ⟨h1, h2, by omega, hu, fun i h3 h4 hij hf => ?_⟩
  by_cases e : i = jj
  · subst e; rw [ldLt_no]; omega
  · have := h i h3 (by omega); rw [this] at hf; cases hf
theorem Best.better (h : Best us xs jj (some b)) (h1 : jj < us.length) (h2 : jj < xs.length) (h3 : b < xs.length) (hu : us[jj] = false) (hl : ldLt xs[jj] xs[b] = true) : Best us xs (jj + 1) (some jj) := by
  obtain ⟨g1, g2, g3, g4, g5⟩ := h
  refine ⟨h1, h2, by omega, hu, fun i h3 h4 hij hf => ?_⟩
  by_cases e : i = jj
  · subst e; rw [ldLt_no]; omega
  · have := g5 i h3 h4 (by omega) hf
    rw [ldLt_no] at this ⊢
    rw [ldLt_iff] at hl
    omega
theorem Best.worse (h : Best us xs jj (some b)) (h2 : jj < xs.length) (h3 : b < xs.length) (hl : ldLt xs[jj] xs[b] = false) : Best us xs (jj + 1) (some b) := by
  obtain ⟨g1, g2, g3, g4, g5⟩ := h
  refine ⟨g1, g2, by omega, g4, fun i h3 h4 hij hf => ?_⟩
  by_cases e : i = jj
  · subst e; exact hl
  · exact g5 i h3 h4 (by omega) hf
end
/-- the best one is the next in the sorted list -/
theorem best_next {us : List Bool} {xs : List Ld} {k : Nat} {o : Option Nat} (hl : us.length = xs.length) (hp : (unused us xs).Perm ((sortLd xs).drop k)) (hk : k < xs.length) (hb : Best us xs xs.length o) :
    ∃ b, ∃ h1 : b < us.length, ∃ h2 : b < xs.length, o = some b ∧ us[b] = false ∧ ((sortLd xs)[k]?.map Ld.id = some xs[b].id) ∧ (unused (us.set b true) xs).Perm ((sortLd xs).drop (k + 1)) := by
  have hks : k < (sortLd xs).length := by rw [sortLd_length]; exact hk
  have hd : (sortLd xs).drop k = (sortLd xs)[k] :: (sortLd xs).drop (k + 1) := List.drop_eq_getElem_cons hks
  cases o with
  | none =>
    have hm : (sortLd xs)[k] ∈ unused us xs := hp.symm.subset (by rw [hd]; exact List.mem_cons_self ..)
    obtain ⟨j, h1, h2, h3, h4⟩ := unused_mem hm
    have := hb j h1 h2
    rw [this] at h3
    cases h3
  | some b =>
    obtain ⟨g1, g2, g3, g4, g5⟩ := hb
    have hmk := unused_mark g1 g2 g4
    have hm : (sortLd xs)[k] ∈ unused us xs := hp.symm.subset (by rw [hd]; exact List.mem_cons_self ..)
    obtain ⟨j, h1, h2, h3, h4⟩ := unused_mem hm
    have a1 := g5 j h1 h2 h2 h3
    rw [h4] at a1
    have hx : xs[b] ∈ (sortLd xs).drop k := hp.subset (hmk.symm.subset (List.mem_cons_self ..))
    have hs := sortLd_sorted xs
    rw [← List.take_append_drop k (sortLd xs)] at hs
    have hs2 := (List.pairwise_append.1 hs).2.1
    rw [hd, List.pairwise_cons] at hs2
    have e : (sortLd xs)[k] = xs[b] := by
      rw [hd] at hx
      rcases List.mem_cons.1 hx with e | hx
      · exact e.symm
      · have a2 := hs2.1 _ hx
        simp only [Bool.not_eq_true'] at a2
        rw [ldLt_no] at a1 a2
        exact ld_ext (by omega) (by omega)
    refine ⟨b, g1, g2, rfl, g4, ?_, ?_⟩
    · rw [List.getElem?_eq_getElem hks, e]; rfl
    · have := hmk.symm.trans hp
      rw [hd, e] at this
      exact this.cons_inv

def lenOf : Value → Nat | .slice _ k _ => k | _ => 0
/-- a row of ints of the call's own, its block from 'lo' on -/
def RowInv (lo : Nat) (L : List Int) (v : Value) (wr : World) (k : Nat) : Prop :=
  ∃ A' cap', v = .slice A' k cap' ∧ k ≤ L.length ∧ wr.ownsRow 0 3 1 (.slice A' k cap') k ((L.take k).map (Value.int .i64)) ∧ (∀ g, A'.map Addr.block = some g → lo ≤ g)
theorem Try.infoBool : (Try.prog.info? 4).map (fun i => (i.zero, i.size, i.bytes)) = some (some (.bool false), 1, 1) := by kernel_rfl
set_option maxHeartbeats 8000000 in
set_option maxRecDepth 100000 in
theorem rchoose_calls (A : Option Addr) (n c : Nat) (xs : List Ld) (copies : Int) (w : World) (hr : Reads w w.heap.size 2 A n (ldCells xs)) (hn : xs.length = n) (hnn : n ≤ 1000000) :
    Calls Try.prog 35 #[.slice A n c, .int .i64 copies] w fun e w' => OutInts w w' e (chosen xs copies) := by
  obtain ⟨i0, hi, hz0, hz1, hz2⟩ := info_parts Try.infoInt2
  obtain ⟨ib, hib, hbz0, hbz1, hbz2⟩ := info_parts Try.infoBool
  go_enter Try.func35, Try.ntmps35
  go_wp2_with (refine wpList_make_full _ rfl _ _ _ rfl 0 4 ib (.bool false) 1 Try.underlying98 hib hbz0 hbz1 .i64 .i64 n n n rfl rfl rfl rfl ?b2 ?b3 (Nat.zero_le _) ?_)
  case b2 => rw [hbz2]; omega
  case b3 => unfold maxLen; omega
  intro w1 own1 gr1
  rw [toList_madeCells_one, ← List.map_replicate] at own1
  have B1 : Below w.heap.size w w1 := (Below.refl _ _).grown gr1 (Nat.le_refl _) (fun k hk => by cases hk)
  have lt1 : w.heap.size < w1.heap.size := own_lt own1 rfl
  clear gr1
  obtain ⟨L, hL⟩ : ∃ L, (sortLd xs).map Ld.id = L := ⟨_, rfl⟩
  have hLl : L.length = n := by rw [← hL, List.length_map, sortLd_length, hn]
  have HL := hide hL
  have HLl := hide hLl
  have HN := hide hn
  have HR := hide hr
  clear hL hLl hn hr
  go_wp2
  go_loopw [5, 7, 8] (fun v _ _ wr => ∃ (k : Nat) (us : List Bool), k ≤ n ∧ (k : Int) ≤ max copies 0 ∧ us.length = n ∧ (unused us xs).Perm ((sortLd xs).drop k) ∧ RowInv (w.heap.size + 1) L v wr k ∧ wr.ownsRow 0 4 1 (.slice (some ⟨w.heap.size, 0, none⟩) n n) n (us.map Value.bool) ∧ Below w.heap.size w wr ∧ w.heap.size < wr.heap.size) (fun v _ _ _ => n - lenOf v)
  case atStart => exact ⟨0, List.replicate n false, Nat.zero_le _, by simp; omega, by simp, by rw [← HN.out, unused_all, List.drop_zero]; exact (sortLd_perm xs).symm, ⟨none, 0, rfl, Nat.zero_le _, ⟨rfl, Or.inl ⟨rfl, rfl⟩⟩, fun g hg => by cases hg⟩, own1, B1, lt1⟩
  case round =>
    obtain ⟨k, us, hkn, hkm, hul, hpm, hrow, hu, hb, hlt0⟩ := hrel
    have HROW := hide hrow
    obtain ⟨A', cap', rfl, _, hown, hlo⟩ := hrow
    have HOWN := hide hown
    have HLO := hide hlo
    have HUL := hide hul
    have HPM := hide hpm
    have HU := hide hu
    clear hown hlo hul hpm hu
    by_cases hc : (k : Int) < copies ∧ k < n
    · obtain ⟨hc1, hc2⟩ := hc
      obtain ⟨b0, o0, rfl, hbB, hcell⟩ := HR.out.at_ (by omega)
      have hce : ∀ i (h : i < xs.length), wr.cell? ⟨b0, o0 + i * 2, none⟩ = some (.int .i64 xs[i].id) ∧ wr.cell? ⟨b0, o0 + i * 2 + 1, none⟩ = some (.int .i64 xs[i].n) := fun i h =>
        ⟨(hb.cell (p := ⟨b0, o0 + i * 2, none⟩) hbB).trans (hcell _ _ (ldCells_get xs i 0 h (by omega))), (hb.cell (p := ⟨b0, o0 + i * 2 + 1, none⟩) hbB).trans (hcell _ _ (ldCells_get xs i 1 h (by omega)))⟩
      have HCE := hide hce
      clear hcell hce
      go_wp2
      go_loopw [7, 8] (fun av iv w2 => ∃ (jj : Nat) (o : Option Nat) (q : Nat), jj ≤ n ∧ iv = .int .i64 jj ∧ av = .int .i64 (atI o) ∧ Best us xs jj o ∧ w2 = wr.drewN q) (fun _ iv _ => n - (intOf iv).toNat)
      case atStart => exact ⟨0, none, 0, Nat.zero_le _, rfl, rfl, fun i _ h => absurd h (by omega), rfl⟩
      case round =>
        obtain ⟨jj, o, q, hjn, rfl, rfl, hbest, rfl⟩ := hrel
        by_cases hjl : jj < n
        · have hju : jj < us.length := by have := HUL.out; omega
          have hjx : jj < xs.length := by have := HN.out; omega
          have hcu : wr.cell? ⟨w.heap.size, jj, none⟩ = some (.bool us[jj]) := by rw [HU.out.cellAt jj (by omega)]; simp [hju]
          obtain ⟨j0, j1⟩ := HCE.out jj hjx
          have i1 : (jj : Int) < n := by omega
          have HB := hide hbest
          clear hbest
          cases huj : us[jj] with
          | true =>
            rw [huj] at hcu
            have HUJ := hide huj
            clear huj
            go_wp2
            go_quiet (fail)
            go_wp2
            go_roundw
            case rel => exact ⟨jj + 1, _, _, by omega, by go_num, rfl, HB.out.skip hju HUJ.out, rfl⟩
            case measure => simp [intOf]; omega
          | false =>
            rw [huj] at hcu
            have HUJ := hide huj
            clear huj
            cases o with
            | none =>
              simp only [atI]
              go_wp2
              go_quiet (fail)
              go_wp2
              go_roundw
              case rel => exact ⟨jj + 1, _, _, by omega, by go_num, rfl, HB.out.first hju hjx HUJ.out, rfl⟩
              case measure => simp [intOf]; omega
            | some bb =>
              obtain ⟨g1, g2, g3, g4, g5⟩ := HB.out
              clear g5
              obtain ⟨k0, k1⟩ := HCE.out bb g2
              have i2 : (bb : Int) < n := by omega
              simp only [atI]
              obtain ⟨x, hx⟩ : ∃ x, xs[jj] = x := ⟨_, rfl⟩
              obtain ⟨y, hy⟩ : ∃ y, xs[bb] = y := ⟨_, rfl⟩
              rw [hx] at j0 j1
              rw [hy] at k0 k1
              have HX := hide hx
              have HY := hide hy
              have d0 : decide ((bb : Int) < 0) = false := decide_eq_false (by omega)
              clear hx hy
              by_cases h1 : x.n < y.n
              · have hlt : ldLt xs[jj] xs[bb] = true := by rw [HX.out, HY.out, ldLt_iff]; exact Or.inl h1
                have HLT := hide hlt
                have d1 : decide (x.n < y.n) = true := decide_eq_true h1
                clear hlt h1
                go_wp2
                go_quiet (fail)
                go_wp2
                go_roundw
                case rel => exact ⟨jj + 1, _, _, by omega, by go_num, rfl, HB.out.better hju hjx g2 HUJ.out HLT.out, rfl⟩
                case measure => simp [intOf]; omega
              · have d1 : decide (x.n < y.n) = false := decide_eq_false h1
                by_cases h2 : x.n = y.n
                · have d2 : (x.n == y.n) = true := by simp [h2]
                  by_cases h3 : x.id < y.id
                  · have hlt : ldLt xs[jj] xs[bb] = true := by rw [HX.out, HY.out, ldLt_iff]; exact Or.inr ⟨h2, h3⟩
                    have HLT := hide hlt
                    have d3 : decide (x.id < y.id) = true := decide_eq_true h3
                    clear hlt h1 h2 h3
                    go_wp2
                    go_quiet (fail)
                    go_wp2
                    go_roundw
                    case rel => exact ⟨jj + 1, _, _, by omega, by go_num, rfl, HB.out.better hju hjx g2 HUJ.out HLT.out, rfl⟩
                    case measure => simp [intOf]; omega
                  · have hlt : ldLt xs[jj] xs[bb] = false := by rw [HX.out, HY.out, ldLt_no]; omega
                    have HLT := hide hlt
                    have d3 : decide (x.id < y.id) = false := decide_eq_false h3
                    clear hlt h1 h2 h3
                    go_wp2
                    go_quiet (fail)
                    go_wp2
                    go_roundw
                    case rel => exact ⟨jj + 1, _, _, by omega, by go_num, rfl, HB.out.worse hjx g2 HLT.out, rfl⟩
                    case measure => simp [intOf]; omega
                · have d2 : (x.n == y.n) = false := by simp [h2]
                  have hlt : ldLt xs[jj] xs[bb] = false := by rw [HX.out, HY.out, ldLt_no]; omega
                  have HLT := hide hlt
                  clear hlt h1 h2
                  go_wp2
                  go_quiet (fail)
                  go_wp2
                  go_roundw
                  case rel => exact ⟨jj + 1, _, _, by omega, by go_num, rfl, HB.out.worse hjx g2 HLT.out, rfl⟩
                  case measure => simp [intOf]; omega
        · have hjj : jj = n := by omega
          rw [show n = xs.length from HN.out.symm] at hjj
          rw [hjj] at hbest
          obtain ⟨bb, h1, h2, rfl, hub, hid, hpm'⟩ := best_next (HUL.out.trans HN.out.symm) HPM.out (by have := HN.out; omega) hbest
          simp only [atI]
          have HJJ := hide hjj
          have hbn : bb < n := by have := HN.out; omega
          have hjn2 : ¬ (jj < n) := hjl
          clear hjj hbest
          obtain ⟨wz, hwz⟩ : ∃ wz, wr.drewN q = wz := ⟨_, rfl⟩
          rw [hwz]
          have ownZ : wz.ownsRow 0 3 1 (.slice A' k cap') k ((L.take k).map (Value.int .i64)) := by rw [← hwz]; exact HOWN.out
          have usZ : wz.ownsRow 0 4 1 (.slice (some ⟨w.heap.size, 0, none⟩) n n) n (us.map Value.bool) := by rw [← hwz]; exact HU.out
          have bZ : Below w.heap.size w wz := by rw [← hwz]; exact below_drewN hb _
          have ltZ : w.heap.size < wz.heap.size := by rw [← hwz]; exact hlt0
          have cZ : wz.cell? ⟨b0, o0 + bb * 2, none⟩ = some (.int .i64 xs[bb].id) := by rw [← hwz]; exact (HCE.out bb h2).1
          have uZ : wz.cell? ⟨w.heap.size, bb, none⟩ = some (.bool false) := by rw [usZ.cellAt bb (by omega)]; simp [h1, hub]
          have fZ : wz.frozen? ⟨w.heap.size, bb, none⟩ = false := usZ.frozenAt bb
          have i2 : (bb : Int) < n := by omega
          have hne : ¬ b0 = w.heap.size := by omega
          obtain ⟨x, hx⟩ : ∃ x, xs[bb].id = x := ⟨_, rfl⟩
          rw [hx] at cZ hid
          have hLk : L[k]'(by rw [HLl.out]; exact hc2) = x := by
            have h5 : L[k]? = some x := by rw [← HL.out, List.getElem?_map]; exact hid
            rw [List.getElem?_eq_getElem (by rw [HLl.out]; exact hc2)] at h5
            exact Option.some.inj h5
          have HLK := hide hLk
          have stZ := (usZ.stored bb (.bool true)).1
          rw [← List.map_set] at stZ
          have ownS : (wz.setCell ⟨w.heap.size, bb, none⟩ (.bool true)).ownsRow 0 3 1 (.slice A' k cap') k ((L.take k).map (Value.int .i64)) := ownsRow_setCell_other ownZ (by
            rw [ownBlock_slice]
            intro e
            have := HLO.out _ e
            simp at this
            omega) _
          have OWS := hide ownS
          have STZ := hide stZ
          have bS : Below w.heap.size w (wz.setCell ⟨w.heap.size, bb, none⟩ (.bool true)) := bZ.setCell (Nat.le_refl _) _
          have HBS := hide bS
          have HID := hide hid
          clear hwz ownZ usZ hLk stZ ownS bS hid hx hb hlt0
          go_wp2_with (at_builtin; refine app_law rfl _ _ 51 rfl 3 i0 _ 1 8 Try.underlying51 hi hz0 hz1 hz2 rfl (by decide) (.slice A' k cap') k ((L.take k).map (Value.int .i64)) rfl (OWS.out.alloc _) wz.heap.size 1 1 [.int .i64 x] ?c0 (Blk.new (by simp [World.setCell])) rfl ?c1 (by decide) ?c3 ?c4 ?_)
          case c0 => rfl
          case c1 => intro u hu; simp at hu; subst hu; rfl
          case c3 => unfold maxLen; omega
          case c4 => omega
          intro g cap2 w4 hown2 hch hor hlt2
          rw [ownBlock_slice] at hch hor
          have e1 : (L.take k).map (Value.int .i64) ++ [Value.int .i64 x] = (L.take (k + 1)).map (Value.int .i64) := by
            rw [List.take_succ_eq_append_getElem (by rw [HLl.out]; exact hc2), HLK.out]
            simp
          rw [← List.map_take] at hown2
          rw [e1] at hown2
          have hu4 : w4.ownsRow 0 4 1 (.slice (some ⟨w.heap.size, 0, none⟩) n n) n ((us.set bb true).map Value.bool) := own_chg (STZ.out.alloc _) hch (fun g hg hx => by
            rw [ownBlock_slice] at hg
            have h6 := HLO.out g (by simpa using hx)
            have h7 : w.heap.size = g := by simpa using hg
            omega)
          have hb4 : Below w.heap.size w w4 := Chg.onto (HBS.out.alloc HBS.out.size _) (by have := HBS.out.size; simp; omega) hch (fun x hx => by
            have := HLO.out x (by simpa using hx)
            omega)
          have hlog : w.heap.size + 1 ≤ g := by
            rcases hor with h | h
            · exact HLO.out g h
            · omega
          have HX4 := hide (And.intro hown2 (And.intro hu4 (And.intro hb4 hlog)))
          have hpm'' := hpm'
          clear hown2 hu4 hb4 hlog hch hor e1 hpm'
          go_wp2
          go_roundw
          case rel => exact ⟨k + 1, us.set bb true, by omega, by omega, by rw [List.length_set]; exact HUL.out, hpm'', ⟨some ⟨g, 0, none⟩, cap2, rfl, by rw [HLl.out]; omega, HX4.out.1, fun g' hg' => by cases hg'; exact HX4.out.2.2.2⟩, HX4.out.2.1, HX4.out.2.2.1, by have := HX4.out.2.2.2; omega⟩
          case measure => simp [lenOf]; omega
    · have hch : chosen xs copies = L.take k := by
        unfold chosen
        rw [HL.out]
        by_cases h : n ≤ copies.toNat
        · rw [List.take_of_length_le (by rw [HLl.out]; exact h), List.take_of_length_le (by rw [HLl.out]; omega)]
        · rw [show copies.toNat = k by omega]
      have hkl : (L.take k).length = k := by rw [List.length_take, HLl.out]; omega
      have HCH := hide hch
      have HKL := hide hkl
      clear hch hkl
      have hfin : OutInts w wr (.returned (.slice A' k cap')) (chosen xs copies) := by
        obtain ⟨A2, c2, e2, h5, _⟩ := own_view HOWN.out
        cases e2
        rw [HCH.out]
        exact ⟨A', cap', by rw [HKL.out], by rw [HKL.out]; exact h5, by rw [HKL.out]; exact HOWN.out, fun g hg => by have := HLO.out g hg; omega, hb⟩
      have HFIN := hide hfin
      clear hfin
      by_cases hc1 : (k : Int) < copies
      · have hc2 : ¬ k < n := fun h => hc ⟨hc1, h⟩
        go_wp2
        go_ret
        exact HFIN.out
      · go_wp2
        go_ret
        exact HFIN.out
end Go.Proofs.Ytjdgkdaebkflpaa
