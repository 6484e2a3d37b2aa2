/- The document of layer 12: Out. -/
import Derived.Test.YtjdkafamaoeifaaDoc2
import Derived.Test.YtjdkafamaoeifaaReg2
namespace Go.Proofs.Ytjdkafamaoeifaa
open Go.RowKit Go.Proofs Go.Maps
set_option linter.unusedVariables false
set_option linter.unusedSimpArgs false

theorem dlCells_append (D E : List Dl) : dlCells (D ++ E) = dlCells D ++ dlCells E := by simp [dlCells]
theorem dlCells_take (D : List Dl) (k : Nat) (hk : k ≤ D.length) : (dlCells D).take (k * 10) = dlCells (D.take k) := by
  have h : dlCells D = dlCells (D.take k) ++ dlCells (D.drop k) := by rw [← dlCells_append, List.take_append_drop]
  rw [h, List.take_append_of_le_length (by rw [dlCells_length, List.length_take]; omega), List.take_of_length_le (by rw [dlCells_length, List.length_take]; omega)]
theorem dlCells_drop (D : List Dl) (k : Nat) (hk : k ≤ D.length) : (dlCells D).drop (k * 10) = dlCells (D.drop k) := by
  have h : dlCells D = dlCells (D.take k) ++ dlCells (D.drop k) := by rw [← dlCells_append, List.take_append_drop]
  have hl : (dlCells (D.take k)).length = k * 10 := by rw [dlCells_length, List.length_take, Nat.min_eq_left hk]
  rw [h, List.drop_append_of_le_length (by omega), ← hl, List.drop_length, List.nil_append]
theorem Doc.reads {w : World} {G : List Nat} {A : Option Addr} {n c : Nat} {D : List Dl} (h : Doc w G (.slice A n c) D) (hn : D.length = n) : Reads w w.heap.size 10 A n (dlCells D) := by
  refine ⟨by rw [dlCells_length, hn], fun h0 => ?_⟩
  obtain ⟨b, o, cc, e, _, _, hb, hcell⟩ := h.row.at_ (by omega)
  injection e with e _ _
  exact ⟨b, o, e, hb, hcell⟩
/-- a slice made new, of some of what was there -/
theorem Doc.fresh {w w' : World} {G : List Nat} {v : Value} {D : List Dl} {A : Option Addr} {n c : Nat} {E : List Dl} (h : Doc w G v D) (hb : Below w.heap.size w w') (hq : Que w' 74 10 (.slice A n c) n (dlCells E)) (hn : E.length = n)
    (hE : ∀ d ∈ E, Qr w G d) (hA : ∀ g, A.map Addr.block = some g → w.heap.size ≤ g) : DocOut w G n E (.slice A n c) w' := by
  refine ⟨A, c, (A.map Addr.block).toList ++ G, rfl, hn, ⟨by rw [hn]; exact hq, fun g hg => ?_, fun x hx => ?_, fun z hz => ?_⟩, fun z hz => ?_, hb⟩
  · rw [ownBlock_slice] at hg
    exact List.mem_append_left _ (by simp [hg])
  · have hr := hE x hx
    exact ⟨(hr.1.below hb).more hb.size, hr.2.1, fun b o e => List.mem_append_right _ (hr.2.2 b o e)⟩
  · rcases List.mem_append.1 hz with hz | hz
    · exact hq.lt (by rw [ownBlock_slice]; simpa using hz)
    · exact Nat.lt_of_lt_of_le (h.lt z hz) hb.size
  · rcases List.mem_append.1 hz with hz | hz
    · exact Or.inr (hA z (by simpa using hz))
    · exact Or.inl hz
set_option maxHeartbeats 4000000 in
set_option maxRecDepth 100000 in
theorem out12_calls {w : World} {G : List Nat} {A : Option Addr} {n c : Nat} {D : List Dl} (i : Nat) (h : Doc w G (.slice A n c) D) (hn : D.length = n) (hnn : n ≤ 1000000) (hi : i < n) :
    Calls Try.prog 28 #[.slice A n c, .int .i64 i] w fun e w' => ∃ v, e = .returned v ∧ DocOut w G (n - 1) (D.eraseIdx i) v w' := by
  obtain ⟨i0, hi0, hz0, hz1, hz2⟩ := info_parts Try.infoFl
  have HDOC := hide h
  subst hn
  obtain ⟨A', c', hv, hc1, hc2⟩ := h.row.form
  injection hv with e1 e2 e3
  subst e1 e3
  obtain ⟨b, o, c2, hv, _, _, hb, hcell⟩ := h.at_ (k := i) hi
  injection hv with e1 _ e3
  subst e1 e3
  have hcn : D.length ≤ c := hc1
  have hR := h.reads rfl
  have HR := hide hR
  have i1 : (i : Int) < D.length := by omega
  clear h hR hcell e2 hc1
  have r0 := Below.refl w.heap.size w
  have i2 : ((i : Int) + 1) ≤ D.length := by omega
  have i3 : (D.length : Int) ≤ c := by omega
  have i4 : (i : Int) ≤ c := by omega
  have i5 : ((i : Int) + 1) ≤ c := by omega
  have hwr : IntKind.i64.wrap ((i : Int) + 1) = (i : Int) + 1 := IntWalk.i64_in _ (by unfold maxLen at hc2; omega)
  go_enter Try.func28, Try.ntmps28
  go_wp2_with fail
  have i6 : (0 : Int) ≤ (i : Int) + 1 := by omega
  have i7 : (i : Int) ≤ (i : Int) + 1 := by omega
  by_cases hcc : c = i + 1
  · have hcut := HR.out.cut (k := i + 1) (cap := c) (by omega) hcn
    rw [if_pos hcc] at hcut
    rw [show D.length - (i + 1) = 0 by omega] at hcut
    have HR2 := hide hcut
    clear hcut
    subst hcc
    refine region_lexg (fun w' => Below w.heap.size w w') [] 0 [(2, 1), (2, 2), (2, 3), (2, 5), (2, 6), (2, 7), (2, 8), (1, 0), (1, 4), (1, 9), (2, 10)] #[true, true, true, true, true, true, true, true, true, true, true] (by kernel_rfl) (by kernel_rfl) (by decide) (by kernel_rfl) (by kernel_rfl) (fun _ _ _ _ _ h => h) (by (first | exact r0.drew | exact r0.drew.alloc (Nat.le_refl _) _ | exact hb3 | exact hb2)) (fun hS0 => ?_)
    simp only [List.map_cons, List.map_nil, List.getElem?_toArray, List.getElem?_cons_succ, List.getElem?_cons_zero]
    (apply lexg_pure (by rfl); (focus (intro w; go_simp; (try with_reducible rfl); done)); simp only [Act.put, List.setIfInBounds_toArray, List.set_cons_zero, List.set_cons_succ])
    (apply lexg_pure (by rfl); (focus (intro w; go_simp; (try with_reducible rfl); done)); simp only [Act.put, List.setIfInBounds_toArray, List.set_cons_zero, List.set_cons_succ])
    (apply lexg_pure (by rfl); (focus (intro w; go_simp; (try with_reducible rfl); done)); simp only [Act.put, List.setIfInBounds_toArray, List.set_cons_zero, List.set_cons_succ])
    (apply lexg_pure (by rfl); (focus (intro w; go_simp; (try with_reducible rfl); done)); simp only [Act.put, List.setIfInBounds_toArray, List.set_cons_zero, List.set_cons_succ])
    (apply lexg_pure (by rfl); (focus (intro w; go_simp; (try with_reducible rfl); done)); simp only [Act.put, List.setIfInBounds_toArray, List.set_cons_zero, List.set_cons_succ])
    (apply lexg_pure (by rfl); (focus (intro w; go_simp; (try with_reducible rfl); done)); simp only [Act.put, List.setIfInBounds_toArray, List.set_cons_zero, List.set_cons_succ])
    (apply lexg_pure (by rfl); (focus (intro w; go_simp; (try with_reducible rfl); done)); simp only [Act.put, List.setIfInBounds_toArray, List.set_cons_zero, List.set_cons_succ])
    (refine lexg_eff (by rfl) ?_; go_simp; refine lexg_both (by (first | exact r0.drew | exact r0.drew.alloc (Nat.le_refl _) _ | exact hb3 | exact hb2)) (fun hS1 => ?_))
    (refine lexg_eff (by rfl) ?_; (refine wp_append_src _ _ _ 62 rfl 74 i0 _ 10 96 Try.underlying62 hi0 hz0 hz1 hz2 rfl (by decide) (.slice (some ⟨w.heap.size, 0, none⟩) 0 0) 0 [] rfl (Que.fresh w.drew _ 10) (some ⟨b, o, none⟩) i _ w.heap.size ((dlCells D).take (i * 10)) rfl (Reads.alloc (Reads.drew (HR.out.take (Nat.le_of_lt hi))) (Nat.le_refl _) _) (fun u hu => dlCells_one D u (List.mem_of_mem_take hu)) (by unfold maxLen; omega) (by omega) ?_; intro A2 cap2 w2 q2 ch2 or2; have hb2 : Below w.heap.size w w2 := Chg.onto (r0.drew.alloc (Nat.le_refl _) _) (by simp) ch2 (fun z hz => by have : z = w.heap.size := (by simpa [Value.ownBlock] using hz); omega)); simp only [Act.put, List.setIfInBounds_toArray, List.set_cons_zero, List.set_cons_succ]; refine lexg_both (by (first | exact r0.drew | exact r0.drew.alloc (Nat.le_refl _) _ | exact hb3 | exact hb2)) (fun hS1 => ?_))
    (refine lexg_eff (by rfl) ?_; (refine wp_append_src _ _ _ 62 rfl 74 i0 _ 10 96 Try.underlying62 hi0 hz0 hz1 hz2 rfl (by decide) (.slice A2 (0 + i) cap2) (0 + i) ([] ++ (dlCells D).take (i * 10)) rfl q2 (some ⟨b, o, none⟩) 0 0 w.heap.size ((dlCells D).drop ((i + 1) * 10)) rfl ((HR2.out).below hb2) (fun u hu => dlCells_one D u (List.mem_of_mem_drop hu)) (by unfold maxLen; omega) (by omega) ?_; intro A3 cap3 w3 q3 ch3 or3; have hg2 : ∀ z, (Value.slice A2 (0 + i) cap2).ownBlock = some z → w.heap.size ≤ z := (fun z hz => by rw [ownBlock_slice] at hz; rcases or2 z hz with h | h; (have : w.heap.size = z := (by simpa [Value.ownBlock] using h)); omega; (have : z = w.heap.size + 1 := (by simpa using h)); omega); have hb3 : Below w.heap.size w w3 := Chg.onto hb2 hb2.size ch3 (fun z hz => hg2 z (by simpa using hz))); simp only [Act.put, List.setIfInBounds_toArray, List.set_cons_zero, List.set_cons_succ]; refine lexg_both (by (first | exact r0.drew | exact r0.drew.alloc (Nat.le_refl _) _ | exact hb3 | exact hb2)) (fun hS1 => ?_))
    (apply lexg_pure (by rfl); (focus (intro w; go_simp; (try with_reducible rfl); done)); simp only [Act.put, List.setIfInBounds_toArray, List.set_cons_zero, List.set_cons_succ])
    refine lexg_nil (fun _ => wpAnyG_done (by kernel_rfl) ?_ _)
    have e : 0 + i + 0 = D.length - 1 := by omega
    rw [e] at q3
    have hcut : [] ++ (dlCells D).take (i * 10) ++ (dlCells D).drop ((i + 1) * 10) = dlCells (D.eraseIdx i) := by
      rw [List.nil_append, dlCells_take D i (by omega), dlCells_drop D (i + 1) (by omega), ← dlCells_append, List.eraseIdx_eq_take_drop_succ]
    rw [hcut] at q3
    have hout := HDOC.out.fresh hb3 q3 (by rw [List.length_eraseIdx, if_pos hi]) (fun d hd => HDOC.out.q d (List.mem_of_mem_eraseIdx hd)) (fun z hz => by
      rcases or3 z hz with h | h
      · exact hg2 z h
      · have := hb2.size; omega)
    go_wp2
    go_ret
    refine ⟨.slice A3 (D.length - 1) cap3, ?_, hout⟩
    show Ending.returned (Value.slice A3 _ cap3) = Ending.returned (Value.slice A3 _ cap3)
    congr 2
    omega
  · have hcut := HR.out.cut (k := i + 1) (cap := c) (by omega) hcn
    rw [if_neg hcc, Option.map_some, add_addr] at hcut
    have HR2 := hide hcut
    clear hcut
    refine region_lexg (fun w' => Below w.heap.size w w') [] 0 [(2, 1), (2, 2), (2, 3), (2, 5), (2, 6), (2, 7), (2, 8), (1, 0), (1, 4), (1, 9), (2, 10)] #[true, true, true, true, true, true, true, true, true, true, true] (by kernel_rfl) (by kernel_rfl) (by decide) (by kernel_rfl) (by kernel_rfl) (fun _ _ _ _ _ h => h) (by (first | exact r0.drew | exact r0.drew.alloc (Nat.le_refl _) _ | exact hb3 | exact hb2)) (fun hS0 => ?_)
    simp only [List.map_cons, List.map_nil, List.getElem?_toArray, List.getElem?_cons_succ, List.getElem?_cons_zero]
    (apply lexg_pure (by rfl); (focus (intro w; go_simp; (try with_reducible rfl); done)); simp only [Act.put, List.setIfInBounds_toArray, List.set_cons_zero, List.set_cons_succ])
    (apply lexg_pure (by rfl); (focus (intro w; go_simp; (try with_reducible rfl); done)); simp only [Act.put, List.setIfInBounds_toArray, List.set_cons_zero, List.set_cons_succ])
    (apply lexg_pure (by rfl); (focus (intro w; go_simp; (try with_reducible rfl); done)); simp only [Act.put, List.setIfInBounds_toArray, List.set_cons_zero, List.set_cons_succ])
    (apply lexg_pure (by rfl); (focus (intro w; go_simp; (try with_reducible rfl); done)); simp only [Act.put, List.setIfInBounds_toArray, List.set_cons_zero, List.set_cons_succ])
    (apply lexg_pure (by rfl); (focus (intro w; go_simp; (try with_reducible rfl); done)); simp only [Act.put, List.setIfInBounds_toArray, List.set_cons_zero, List.set_cons_succ])
    (apply lexg_pure (by rfl); (focus (intro w; go_simp; (try with_reducible rfl); done)); simp only [Act.put, List.setIfInBounds_toArray, List.set_cons_zero, List.set_cons_succ])
    (apply lexg_pure (by rfl); (focus (intro w; go_simp; (try with_reducible rfl); done)); simp only [Act.put, List.setIfInBounds_toArray, List.set_cons_zero, List.set_cons_succ])
    (refine lexg_eff (by rfl) ?_; go_simp; refine lexg_both (by (first | exact r0.drew | exact r0.drew.alloc (Nat.le_refl _) _ | exact hb3 | exact hb2)) (fun hS1 => ?_))
    (refine lexg_eff (by rfl) ?_; (refine wp_append_src _ _ _ 62 rfl 74 i0 _ 10 96 Try.underlying62 hi0 hz0 hz1 hz2 rfl (by decide) (.slice (some ⟨w.heap.size, 0, none⟩) 0 0) 0 [] rfl (Que.fresh w.drew _ 10) (some ⟨b, o, none⟩) i _ w.heap.size ((dlCells D).take (i * 10)) rfl (Reads.alloc (Reads.drew (HR.out.take (Nat.le_of_lt hi))) (Nat.le_refl _) _) (fun u hu => dlCells_one D u (List.mem_of_mem_take hu)) (by unfold maxLen; omega) (by omega) ?_; intro A2 cap2 w2 q2 ch2 or2; have hb2 : Below w.heap.size w w2 := Chg.onto (r0.drew.alloc (Nat.le_refl _) _) (by simp) ch2 (fun z hz => by have : z = w.heap.size := (by simpa [Value.ownBlock] using hz); omega)); simp only [Act.put, List.setIfInBounds_toArray, List.set_cons_zero, List.set_cons_succ]; refine lexg_both (by (first | exact r0.drew | exact r0.drew.alloc (Nat.le_refl _) _ | exact hb3 | exact hb2)) (fun hS1 => ?_))
    (refine lexg_eff (by rfl) ?_; (refine wp_append_src _ _ _ 62 rfl 74 i0 _ 10 96 Try.underlying62 hi0 hz0 hz1 hz2 rfl (by decide) (.slice A2 (0 + i) cap2) (0 + i) ([] ++ (dlCells D).take (i * 10)) rfl q2 (some ⟨b, o + (i + 1) * 10, none⟩) (D.length - (i + 1)) (c - (i + 1)) w.heap.size ((dlCells D).drop ((i + 1) * 10)) rfl ((HR2.out).below hb2) (fun u hu => dlCells_one D u (List.mem_of_mem_drop hu)) (by unfold maxLen; omega) (by omega) ?_; intro A3 cap3 w3 q3 ch3 or3; have hg2 : ∀ z, (Value.slice A2 (0 + i) cap2).ownBlock = some z → w.heap.size ≤ z := (fun z hz => by rw [ownBlock_slice] at hz; rcases or2 z hz with h | h; (have : w.heap.size = z := (by simpa [Value.ownBlock] using h)); omega; (have : z = w.heap.size + 1 := (by simpa using h)); omega); have hb3 : Below w.heap.size w w3 := Chg.onto hb2 hb2.size ch3 (fun z hz => hg2 z (by simpa using hz))); simp only [Act.put, List.setIfInBounds_toArray, List.set_cons_zero, List.set_cons_succ]; refine lexg_both (by (first | exact r0.drew | exact r0.drew.alloc (Nat.le_refl _) _ | exact hb3 | exact hb2)) (fun hS1 => ?_))
    (apply lexg_pure (by rfl); (focus (intro w; go_simp; (try with_reducible rfl); done)); simp only [Act.put, List.setIfInBounds_toArray, List.set_cons_zero, List.set_cons_succ])
    refine lexg_nil (fun _ => wpAnyG_done (by kernel_rfl) ?_ _)
    have e : 0 + i + (D.length - (i + 1)) = D.length - 1 := by omega
    rw [e] at q3
    have hcut : [] ++ (dlCells D).take (i * 10) ++ (dlCells D).drop ((i + 1) * 10) = dlCells (D.eraseIdx i) := by
      rw [List.nil_append, dlCells_take D i (by omega), dlCells_drop D (i + 1) (by omega), ← dlCells_append, List.eraseIdx_eq_take_drop_succ]
    rw [hcut] at q3
    have hout := HDOC.out.fresh hb3 q3 (by rw [List.length_eraseIdx, if_pos hi]) (fun d hd => HDOC.out.q d (List.mem_of_mem_eraseIdx hd)) (fun z hz => by
      rcases or3 z hz with h | h
      · exact hg2 z h
      · have := hb2.size; omega)
    go_wp2
    go_ret
    refine ⟨.slice A3 (D.length - 1) cap3, ?_, hout⟩
    show Ending.returned (Value.slice A3 _ cap3) = Ending.returned (Value.slice A3 _ cap3)
    congr 2
    omega
end Go.Proofs.Ytjdkafamaoeifaa
