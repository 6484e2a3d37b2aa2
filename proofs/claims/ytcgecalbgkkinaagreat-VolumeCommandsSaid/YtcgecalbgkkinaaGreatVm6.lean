/- The walks through State.Policies and its closure, State.admits. -/
import Derived.Test.YtcgecalbgkkinaaGreatVm5
namespace Go.Proofs.YtcgecalbgkkinaaGreat
open Go.RowKit Go.Proofs Go.Maps
set_option linter.unusedVariables false
set_option linter.unusedSimpArgs false

set_option maxHeartbeats 1000000 in
theorem pol1_calls (w : World) (no : List Nat) (b m1 m2 m3 : Nat) (S : Vst) (V : List VoM) (C : List CkM) (bs bv : Nat) (k s : Int) (h : VM w no b m1 m2 m3 S V C) (hk : i64ok k)
    (h1 : w.cell? ⟨bs, 0, none⟩ = some (.pointer (some ⟨b, 0, none⟩))) (h2 : w.cell? ⟨bv, 0, none⟩ = some (.int .i64 s)) (l1 : bs < w.heap.size) (l2 : bv < w.heap.size) :
    Calls Tryz.prog 72 #[.int .i64 k, .pointer (some ⟨bs, 0, none⟩), .pointer (some ⟨bv, 0, none⟩)] w fun e w' => e = .returned (.bool (hasAt S.cs k s)) ∧ Below w.heap.size w w' := by
  obtain ⟨y, _, lk, hy, hs1, hs2⟩ := h.lookC hk
  have he : y.k.has s = hasAt S.cs k s := by
    unfold hasAt
    rcases hy with ⟨_, e⟩ | ⟨_, e, rfl⟩
    · rw [e]
    · rw [e]; rfl
  have c1 : ∀ w', Below w.heap.size w w' → w'.cell? ⟨bs, 0, none⟩ = some (.pointer (some ⟨b, 0, none⟩)) := fun w' hb => (hb.cell (p := ⟨bs, 0, none⟩) l1).trans h1
  have c2 : ∀ w', Below w.heap.size w w' → w'.cell? ⟨bv, 0, none⟩ = some (.int .i64 s) := fun w' hb => (hb.cell (p := ⟨bv, 0, none⟩) l2).trans h2
  have c3 := h.blk.rule 2 _ rfl
  have r0 := Below.refl w.heap.size w
  have HH := hide (fun w' hb => vhas_calls y s no w' (hs1.below hb) (hs2.below hb))
  obtain ⟨yv, hyv⟩ : ∃ yv, y.val = yv := ⟨_, rfl⟩
  rw [hyv] at HH
  simp only [hyv] at lk
  rw [← he]
  clear h h1 h2 hs1 hs2 hyv hy he
  go_enter Tryz.func72, Tryz.ntmps72
  go_wp2_with fail
  refine region_lexg (fun w' => Below w.heap.size w w') [] 0 [(0, 0), (2, 1), (2, 2), (0, 3), (2, 4), (0, 5), (0, 6), (1, 7), (2, 8)] #[true, true, true, true, true, true, true, true, true] (by kernel_rfl) (by kernel_rfl) (by decide) (by kernel_rfl) (by kernel_rfl) (fun _ _ _ _ _ h => h) (by (first | exact r0.drew | exact r0.drew.trans (by assumption))) (fun hS0 => ?_)
  simp only [List.map_cons, List.map_nil, List.getElem?_toArray, List.getElem?_cons_succ, List.getElem?_cons_zero]
  (apply lexg_take (by rfl); (focus (intro w hw; (try dsimp only at hw); go_simp; (try with_reducible rfl); done)); simp only [Act.put, List.setIfInBounds_toArray, List.set_cons_zero, List.set_cons_succ])
  (apply lexg_pure (by rfl); (focus (intro w; go_simp; (try with_reducible rfl); done)); simp only [Act.put, List.setIfInBounds_toArray, List.set_cons_zero, List.set_cons_succ])
  (apply lexg_pure (by rfl); (focus (intro w; go_simp; (try with_reducible rfl); done)); simp only [Act.put, List.setIfInBounds_toArray, List.set_cons_zero, List.set_cons_succ])
  (apply lexg_take (by rfl); (focus (intro w hw; (try dsimp only at hw); go_simp; (try with_reducible rfl); done)); simp only [Act.put, List.setIfInBounds_toArray, List.set_cons_zero, List.set_cons_succ])
  (apply lexg_pure (by rfl); (focus (intro w; go_simp; (try with_reducible rfl); done)); simp only [Act.put, List.setIfInBounds_toArray, List.set_cons_zero, List.set_cons_succ])
  (apply lexg_take (by rfl); (focus (intro w hw; (try dsimp only at hw); go_simp; (try with_reducible rfl); done)); simp only [Act.put, List.setIfInBounds_toArray, List.set_cons_zero, List.set_cons_succ])
  (apply lexg_take (by rfl); (focus (intro w hw; (try dsimp only at hw); go_simp; (try with_reducible rfl); done)); simp only [Act.put, List.setIfInBounds_toArray, List.set_cons_zero, List.set_cons_succ])
  (refine lexg_eff (by rfl) ?_; go_simp; ((go_at_call 73; refine (HH.out _ r0.drew).mono ?_; rintro e w1 ⟨rfl, hb1⟩)); refine lexg_both (by (first | exact r0.drew | exact r0.drew.trans (by assumption))) (fun hS1 => ?_))
  (apply lexg_pure (by rfl); (focus (intro w; go_simp; (try with_reducible rfl); done)); simp only [Act.put, List.setIfInBounds_toArray, List.set_cons_zero, List.set_cons_succ])
  refine lexg_nil (fun _ => wpAnyG_done (by kernel_rfl) ?_ _)
  go_wp2
  go_ret
  exact ⟨rfl, r0.drew.trans (by assumption)⟩
theorem Rise.map {α β : Type} {f : α → β} {key : β → Int} {L : List α} (h : Rise (fun x => key (f x)) L) : Rise key (L.map f) := List.Pairwise.map f (fun _ _ h => h) h
theorem VM.riseV {w : World} {no : List Nat} {b m1 m2 m3 : Nat} {S : Vst} {V : List VoM} {C : List CkM} (h : VM w no b m1 m2 m3 S V C) : Rise Vo.id S.vs := by rw [← h.eV]; exact Rise.map h.t2.rise
theorem VM.riseC {w : World} {no : List Nat} {b m1 m2 m3 : Nat} {S : Vst} {V : List VoM} {C : List CkM} (h : VM w no b m1 m2 m3 S V C) : Rise Ck.id S.cs := by rw [← h.eC]; exact Rise.map h.t3.rise
theorem VM.okV {w : World} {no : List Nat} {b m1 m2 m3 : Nat} {S : Vst} {V : List VoM} {C : List CkM} (h : VM w no b m1 m2 m3 S V C) : ∀ v ∈ S.vs, i64ok v.id := by
  rw [← h.eV]
  intro v hv
  obtain ⟨x, hx, rfl⟩ := List.mem_map.1 hv
  exact h.t2.ok x hx
theorem VM.row {w : World} {no : List Nat} {b m1 m2 m3 : Nat} {S : Vst} {V : List VoM} {C : List CkM} (h : VM w no b m1 m2 m3 S V C) {k : Nat} (hk : k < S.vs.length) : ∃ y : VoM, y.v = S.vs[k] ∧
    (∀ w', Below w.heap.size w w' → (Instr.lookup 61 (.map (some m2)) (.int .i64 S.vs[k].id) false).run Tryz.prog w' = .ok y.val w') ∧ Sl w no y.A y.c y.v.ch := by
  obtain ⟨y, _, lk, hy, hs⟩ := h.lookV (h.okV _ (List.getElem_mem hk))
  have hf := fd_get h.riseV hk
  refine ⟨y, ?_, lk, hs⟩
  rcases hy with ⟨_, e⟩ | ⟨_, e, _⟩
  · rw [hf] at e
    injection e with e
    exact e.symm
  · rw [hf] at e
    cases e
/-- the policies of the first k volumes -/
def polK (S : Vst) (s : Int) (k : Nat) : List Pol := ((S.vs.take k).filter fun v => v.ch.any fun c => hasAt S.cs c s).map Vo.p
theorem polK_step (S : Vst) (s : Int) (k : Nat) (h : k < S.vs.length) : polK S s (k + 1) = polK S s k ++ (if (S.vs[k].ch.any fun c => hasAt S.cs c s) = true then [S.vs[k].p] else []) := by
  unfold polK
  rw [List.take_succ_eq_append_getElem h, List.filter_append, List.map_append]
  congr 1
  rw [List.filter_cons]
  split <;> rfl
theorem polK_le (S : Vst) (s : Int) (k : Nat) : (polK S s k).length ≤ k := by
  unfold polK
  rw [List.length_map]
  refine Nat.le_trans (List.length_filter_le _ _) ?_
  rw [List.length_take]; omega
theorem polK_all (S : Vst) (s : Int) : polK S s S.vs.length = S.polOf s := by
  unfold polK Vst.polOf
  rw [List.take_length]
theorem polCells_app (a b : List Pol) : polCells (a ++ b) = polCells a ++ polCells b := by simp [polCells]
theorem Tryz.infoPol : (Tryz.prog.info? 36).map (fun i => (i.zero, i.size, i.bytes)) = some (some (.agg #[.int .i64 0, .int .i64 0, .int .i64 0, .int .i64 0]), 4, 32) := by kernel_rfl
set_option maxHeartbeats 4000000 in
theorem policies_calls (w : World) (no : List Nat) (b m1 m2 m3 : Nat) (S : Vst) (V : List VoM) (C : List CkM) (s : Int) (h : VM w no b m1 m2 m3 S V C) (hl : S.vs.length ≤ 1000000) (hch : ∀ v ∈ S.vs, ∀ k ∈ v.ch, i64ok k) :
    Calls Tryz.prog 31 #[.pointer (some ⟨b, 0, none⟩), .int .i64 s] w fun e w' => ∃ A c, e = .returned (.slice A (S.polOf s).length c) ∧ w'.ownsRow 0 36 4 (.slice A (S.polOf s).length c) (S.polOf s).length (polCells (S.polOf s)) ∧
      (∀ g, A.map Addr.block = some g → w.heap.size ≤ g) ∧ Below w.heap.size w w' := by
  obtain ⟨i0, hi, hz0, hz1, hz2⟩ := info_parts Tryz.infoPol
  obtain ⟨w0, hw0⟩ : ∃ w0, (w.alloc (.cells #[.pointer (some ⟨b, 0, none⟩)] 25)).alloc (.cells #[.int .i64 s] 3) = w0 := ⟨_, rfl⟩
  have hb0 : Below w.heap.size w w0 := hw0 ▸ ((Below.refl w.heap.size w).alloc (Nat.le_refl _) _).alloc (by simp) _
  have d1 : Blk w0 w.heap.size 25 [.pointer (some ⟨b, 0, none⟩)] := hw0 ▸ (Blk.new rfl).alloc _
  have d2 : Blk w0 (w.heap.size + 1) 3 [.int .i64 s] := hw0 ▸ Blk.new (by simp)
  have hV := hide (volumes_calls w0 no b m1 m2 m3 S V C (h.below hb0) hl)
  have H0 := hide (h.below hb0)
  have k1 : w0.cell? ⟨w.heap.size, 0, none⟩ = some (.pointer (some ⟨b, 0, none⟩)) := d1.cell 0
  have D := hide (And.intro d1 d2)
  clear h d1 d2
  go_enter Tryz.func31, Tryz.ntmps31
  go_wp2_with fail
  refine hV.out.mono ?_
  rintro e w1 ⟨A, c, rfl, ho, hb1⟩
  have H1 := hide (H0.out.below hb1)
  have D1 := hide (And.intro (D.out.1.below hb1) (D.out.2.below hb1))
  have HB := hide (hb0.trans (hb1.mono hb0.size))
  obtain ⟨A', c', e', _, _, _, _, hrd⟩ := own_view ho.1
  cases e'
  have hr := hide (hrd w1.heap.size (fun g hg => own_lt ho.1 hg))
  clear hw0 hb0 k1 hV H0 D ho hb1 hrd
  go_wp2_with fail
  go_loopw [5, 7, 8, 12] (fun v _ _ i wr => ∃ (k : Nat) (A2 : Option Addr) (c2 : Nat), k ≤ S.vs.length ∧ i = .int .i64 k ∧ v = .slice A2 (polK S s k).length c2 ∧ wr.ownsRow 0 36 4 v (polK S s k).length (polCells (polK S s k)) ∧ (∀ g, A2.map Addr.block = some g → w1.heap.size ≤ g) ∧ Below w1.heap.size w1 wr) (fun _ _ _ i _ => S.vs.length - (intOf i).toNat)
  case atStart => exact ⟨0, none, 0, Nat.zero_le _, rfl, rfl, World.ownsRow_nil _ _ _ _, (fun g hg => by cases hg), Below.refl _ _⟩
  case round =>
    obtain ⟨k, A2, c2, hk, rfl, rfl, hown, hgb, hb⟩ := hrel
    by_cases hlt : k < S.vs.length
    · obtain ⟨y, hyv, lk, hsl⟩ := H1.out.row hlt
      have hvk := hch _ (List.getElem_mem hlt)
      have hstep := polK_step S s k hlt
      have hle := polK_le S s k
      obtain ⟨bA, oA, rfl, hbA, hcell⟩ := hr.out.at_ (by simp; omega)
      have g0 : wr.cell? ⟨bA, oA + k, none⟩ = some (.int .i64 S.vs[k].id) := (hb.cell (p := ⟨bA, oA + k, none⟩) hbA).trans (hcell k _ (by simp [hlt]))
      have l1 := lk wr hb
      have i1 : (k : Int) < S.vs.length := by omega
      have HRE := hide hr.out
      obtain ⟨x, hx⟩ : ∃ x, S.vs[k] = x := ⟨_, rfl⟩
      simp only [hx] at g0 l1 hyv hvk hstep
      obtain ⟨⟨id, bl, ⟨pr, pw, pl, pb⟩, ver, ch⟩, A3, c3⟩ := y
      simp only [] at hyv hsl
      clear lk hcell hr
      have HX := hide hx
      clear hx
      subst hyv
      have k1 : wr.cell? ⟨w.heap.size, 0, none⟩ = some (.pointer (some ⟨b, 0, none⟩)) := (D1.out.1.below hb).cell 0
      have c1 : wr.cell? ⟨b, 1, none⟩ = some (.map (some m2)) := (H1.out.below hb).cell 1
      have HB1 := hide hb
      have HSL := hide hsl
      have HVK := hide hvk
      have HST := hide hstep
      have HOW := hide hown
      have HGB := hide hgb
      clear hb hsl hvk hstep hown hgb
      unfold VoM.val VoM.cells at l1
      simp only [] at l1
      go_wp2_with fail
      have B3 := hide (Blk.new (w := wr) (b := wr.heap.size) (cs := [.int .i64 id, .int .i64 bl, .int .i64 pr, .int .i64 pw, .int .i64 pl, .int .i64 pb, .int .i64 ver, .slice A3 ch.length c3]) (t := 43) rfl)
      have q3 : Below wr.heap.size wr (wr.alloc (.cells #[.int .i64 id, .int .i64 bl, .int .i64 pr, .int .i64 pw, .int .i64 pl, .int .i64 pb, .int .i64 ver, .slice A3 ch.length c3] 43)) := (Below.refl _ _).alloc (Nat.le_refl _) _
      have q4 := HB1.out.trans (q3.mono HB1.out.size)
      obtain ⟨w4, hw4⟩ : ∃ w4, wr.alloc (.cells #[.int .i64 id, .int .i64 bl, .int .i64 pr, .int .i64 pw, .int .i64 pl, .int .i64 pb, .int .i64 ver, .slice A3 ch.length c3] 43) = w4 := ⟨_, rfl⟩
      have B4 : Hid (Blk w4 wr.heap.size 43 [.int .i64 id, .int .i64 bl, .int .i64 pr, .int .i64 pw, .int .i64 pl, .int .i64 pb, .int .i64 ver, .slice A3 ch.length c3]) := hw4 ▸ B3
      rw [hw4] at q3 q4
      rw [hw4]
      have hlB : w.heap.size < w1.heap.size := D1.out.1.lt
      have hlB2 : w.heap.size + 1 < w1.heap.size := D1.out.2.lt
      have hl4 := q4.size
      refine (containsF_calls A3 _ c3 ch 72 #[.pointer (some ⟨w.heap.size, 0, none⟩), .pointer (some ⟨w.heap.size + 1, 0, none⟩)] (fun c => hasAt S.cs c s) w4 (enters_of Tryz.func72 (by kernel_rfl) rfl) rfl (by have := HSL.out.ln; omega) (HSL.out.below q4).rd
        (fun x hx W hW => (pol1_calls W no b m1 m2 m3 S V C w.heap.size (w.heap.size + 1) x s (H1.out.below (q4.trans (hW.mono hl4))) (HVK.out x hx)
          (((D1.out.1.below q4).below hW).cell 0) (((D1.out.2.below q4).below hW).cell 0) (by have := hW.size; omega) (by have := hW.size; omega)).mono fun e w' ⟨he, hb⟩ => ⟨he, hW.trans (hb.mono hW.size)⟩)).mono ?_
      rintro e w5 ⟨rfl, hb5⟩
      have B5 := B4.out.below hb5
      have O5 := own_chg (own_chg HOW.out (Chg.of_below (L := []) q3) (fun _ _ hx => by cases hx)) (Chg.of_below (L := []) hb5) (fun _ _ hx => by cases hx)
      have q5 := q4.trans (hb5.mono hl4)
      have f2 := B5.cell 2
      have f3 := B5.cell 3
      have f4 := B5.cell 4
      have f5 := B5.cell 5
      simp only [List.getElem?_cons_succ, List.getElem?_cons_zero] at f2 f3 f4 f5
      have HQ5 := hide q5
      have HO5 := hide O5
      have HW4 := hide hw4
      clear B5 O5 q5 q3 q4 hb5 hw4 hlB hlB2 hl4 k1 c1 g0 l1
      obtain ⟨r, hr2⟩ : ∃ r, (ch.any fun c => hasAt S.cs c s) = r := ⟨_, rfl⟩
      rw [hr2] at HST ⊢
      have HR2 := hide hr2
      clear hr2
      cases r with
      | true =>
        have HE : Hid (polK S s (k + 1) = polK S s k ++ [⟨pr, pw, pl, pb⟩]) := hide (by rw [HST.out]; simp)
        obtain ⟨L, hL⟩ : ∃ L, polK S s k = L := ⟨_, rfl⟩
        rw [hL] at HO5 HE hle HOW ⊢
        have HLL := hide hL
        clear hL
        have HO6 := hide (own_chg HO5.out (Chg.of_below (L := []) ((Below.refl w5.heap.size w5).alloc (Nat.le_refl _) (.cells #[.int .i64 pr, .int .i64 pw, .int .i64 pl, .int .i64 pb] 36))) (fun _ _ hx => by cases hx))
        go_wp2_with (at_builtin; refine app_law rfl _ _ 77 rfl 36 i0 _ 4 32 Tryz.underlying77 hi hz0 hz1 hz2 rfl (by decide) _ _ _ rfl HO6.out w5.heap.size 1 1 [.int .i64 pr, .int .i64 pw, .int .i64 pl, .int .i64 pb] rfl (Blk.new rfl) rfl ?c1 (by decide) ?c3 ?c4 ?_)
        case c1 => intro u hu; simp at hu; rcases hu with rfl | rfl | rfl | rfl <;> rfl
        case c3 => unfold maxLen; omega
        case c4 => omega
        intro g cap w6 hown6 hch6 hor hg6
        have q6 := HQ5.out.alloc HQ5.out.size (.cells #[.int .i64 pr, .int .i64 pw, .int .i64 pl, .int .i64 pb] 36)
        rw [ownBlock_slice] at hch6 hor
        have R6 := Chg.onto q6 q6.size hch6 (fun x hx => HGB.out x (by simpa using hx))
        have hg : w1.heap.size ≤ g := by
          rcases hor with h | h
          · exact HGB.out g h
          · have := HQ5.out.size; first | omega | (simp at h; omega)
        have HR6 := hide R6
        have HW6 := hide hown6
        clear hown6 hch6 hor q6 R6
        go_wp2
        go_roundw
        case rel => exact ⟨k + 1, some ⟨g, 0, none⟩, cap, by omega, by go_num, by rw [HE.out]; simp, by rw [HE.out, polCells_app, show polCells [(⟨pr, pw, pl, pb⟩ : Pol)] = [.int .i64 pr, .int .i64 pw, .int .i64 pl, .int .i64 pb] from rfl]; simpa using HW6.out, fun x hx => by cases hx; exact hg, HR6.out⟩
        case measure => simp [intOf]; omega
      | false =>
        have HE : Hid (polK S s (k + 1) = polK S s k) := hide (by rw [HST.out]; simp)
        go_wp2
        go_roundw
        case rel => exact ⟨k + 1, A2, c2, by omega, by go_num, by rw [HE.out], by rw [HE.out]; exact HO5.out, HGB.out, HQ5.out⟩
        case measure => simp [intOf]; omega
    · have e : k = S.vs.length := by omega
      subst e
      have HOW := hide hown
      have HGB := hide hgb
      have HB1 := hide hb
      clear hown hgb hb
      rw [polK_all] at HOW ⊢
      go_wp2
      go_ret
      exact ⟨A2, c2, rfl, HOW.out, fun g hg => Nat.le_trans HB.out.size (HGB.out g hg), HB.out.trans (HB1.out.mono HB.out.size)⟩
end Go.Proofs.YtcgecalbgkkinaaGreat
