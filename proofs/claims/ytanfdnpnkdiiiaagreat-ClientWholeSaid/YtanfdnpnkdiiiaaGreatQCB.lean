/- One text of: Cl6 Cl7 Cl8. -/
import Derived.Deep.CutRange
import Derived.Deep.CutBlock
import Derived.Test.YtanfdnpnkdiiiaaGreatQCl5
import Derived.Test.YtanfdnpnkdiiiaaGreatQCA
namespace Go.Proofs.YtanfdnpnkdiiiaaGreat
open Go.RowKit Go.Proofs Go.Maps
set_option linter.unusedVariables false
set_option linter.unusedSimpArgs false

/-- as CP.work, the client's own block among what turns -/
theorem CP.workc {w w' : World} {F L : List Nat} {c n n' mt : Nat} {so : Option Vw} {X X' : Cl} {U U' : World → List Nat → Value → Prop} {xp cur cur' ans out : Value} {Ft Fc Fa Fo Ft' Fc' : List Nat} (h : CP w F c so n X U xp mt cur ans out Ft Fc Fa Fo)
    (hc : Chg L w w') (hL : ∀ z ∈ L, z = c ∨ z ∈ Ft ∨ z ∈ Fc ∨ w.heap.size ≤ z) (hb : Blk w' c 62 [.int .i64 X'.id, .int .i64 X'.num, xp, .map (some mt), cur', ans, out])
    (hft : ∀ z ∈ Ft', (z ∈ Ft ∨ z ∈ Fc ∨ w.heap.size ≤ z) ∧ z < w'.heap.size) (hfc : ∀ z ∈ Fc', (z ∈ Ft ∨ z ∈ Fc ∨ w.heap.size ≤ z) ∧ z < w'.heap.size) (hnt : Ft'.Nodup) (hnc : Fc'.Nodup) (hx : ∀ z ∈ Ft', z ∉ Fc')
    (ha : X'.ans = X.ans) (ho : X'.out = X.out) (tr : TrM w' Ft' mt n' X'.tr) (cu : U' w' Fc' cur') :
    CP w' (c :: (Ft' ++ Fc' ++ Fa ++ Fo)) c so n' X' U' xp mt cur' ans out Ft' Fc' Fa Fo ∧ ∀ z ∈ c :: (Ft' ++ Fc' ++ Fa ++ Fo), z ∈ F ∨ w.heap.size ≤ z := by
  have hm := h.mem
  have hd := h.dj
  have hlt := h.lt
  have hLF : ∀ z ∈ L, z ∈ F ∨ w.heap.size ≤ z := fun z hz => by
    rcases hL z hz with rfl | h1 | h1 | h1
    · exact Or.inl hm.1
    · exact Or.inl (hm.2.1 z h1)
    · exact Or.inl (hm.2.2.1 z h1)
    · exact Or.inr h1
  have hq : ∀ z, (z ∈ Ft ∨ z ∈ Fc ∨ w.heap.size ≤ z) → z ≠ c ∧ z ∉ Fa ∧ z ∉ Fo := fun z hz => by
    rcases hz with h1 | h1 | h1
    · exact ⟨(hd.1.1 z h1).1, (hd.1.1 z h1).2.2⟩
    · exact ⟨(hd.1.2.1 z h1).1, (hd.1.2.1 z h1).2.2⟩
    · exact ⟨fun e => by have := hlt c hm.1; omega, fun e => by have := hlt z (hm.2.2.2.1 z e); omega, fun e => by have := hlt z (hm.2.2.2.2 z e); omega⟩
  have hsub : ∀ z ∈ c :: (Ft' ++ Fc' ++ Fa ++ Fo), (z ∈ F ∨ w.heap.size ≤ z) ∧ z < w'.heap.size := fun z hz => by
    have hs := hc.size
    simp only [List.mem_cons, List.mem_append] at hz
    rcases hz with rfl | ((hz | hz) | hz) | hz
    · exact ⟨Or.inl hm.1, Nat.lt_of_lt_of_le (hlt _ hm.1) hs⟩
    · refine ⟨?_, (hft z hz).2⟩
      rcases (hft z hz).1 with h1 | h1 | h1
      · exact Or.inl (hm.2.1 z h1)
      · exact Or.inl (hm.2.2.1 z h1)
      · exact Or.inr h1
    · refine ⟨?_, (hfc z hz).2⟩
      rcases (hfc z hz).1 with h1 | h1 | h1
      · exact Or.inl (hm.2.1 z h1)
      · exact Or.inl (hm.2.2.1 z h1)
      · exact Or.inr h1
    · exact ⟨Or.inl (hm.2.2.2.1 z hz), Nat.lt_of_lt_of_le (hlt _ (hm.2.2.2.1 z hz)) hs⟩
    · exact ⟨Or.inl (hm.2.2.2.2 z hz), Nat.lt_of_lt_of_le (hlt _ (hm.2.2.2.2 z hz)) hs⟩
  have hnL : ∀ z, z ∈ Fa ∨ z ∈ Fo → z ∉ L := fun z hz hx => by
    rcases hL z hx with rfl | h0
    · rcases hz with h2 | h2
      · exact hd.2.2.2.2.1 h2
      · exact hd.2.2.2.2.2 h2
    · have h1 := hq z h0
      rcases hz with h2 | h2
      · exact h1.2.1 h2
      · exact h1.2.2 h2
  refine ⟨⟨hb, rfl, ?_, fun z hz => (hsub z hz).2, h.st.grow hc hLF hsub, tr, cu, ?_, ?_⟩, fun z hz => (hsub z hz).1⟩
  · exact nd_of ⟨⟨fun z hz => ⟨(hq z (hft z hz).1).1, hx z hz, (hq z (hft z hz).1).2⟩, fun z hz => ⟨(hq z (hfc z hz).1).1, fun h1 => hx z h1 hz, (hq z (hfc z hz).1).2⟩,
      fun z hz => ⟨(hd.1.2.2.1 z hz).1, fun h1 => (hq z (hft z h1).1).2.1 hz, fun h1 => (hq z (hfc z h1).1).2.1 hz, (hd.1.2.2.1 z hz).2.2.2⟩,
      fun z hz => ⟨(hd.1.2.2.2 z hz).1, fun h1 => (hq z (hft z h1).1).2.2 hz, fun h1 => (hq z (hfc z h1).1).2.2 hz, (hd.1.2.2.2 z hz).2.2.2⟩⟩, hnt, hnc, hd.2.1.2.2.1, hd.2.1.2.2.2⟩
  · rw [ha]; exact h.an.chg hc hLF (fun z hz => (hsub z hz).1) (fun z hz => hnL z (Or.inl hz))
  · rw [ho]; exact h.ou.chg hc hLF (fun z hz => (hsub z hz).1) (fun z hz => hnL z (Or.inr hz))
theorem CM.mono {w : World} {F : List Nat} {c n n' : Nat} {so : Option Vw} {pr : Prim} {X : Cl} (h : CM w F c so pr n X) (hn : n ≤ n') : CM w F c so pr n' X := by
  obtain ⟨xp, mt, cur, ans, out, Ft, Fc, Fa, Fo, h7⟩ := h
  exact ⟨xp, mt, cur, ans, out, Ft, Fc, Fa, Fo, ⟨h7.blk, h7.eF, h7.nd, h7.lt, h7.st, h7.tr.mono hn, h7.cu, h7.an, h7.ou⟩⟩
theorem CO.mono {w w' : World} {F : List Nat} {c n n' : Nat} {so : Option Vw} {pr : Prim} {X : Cl} (h : CO w w' F c so pr n X) (hn : n ≤ n') : CO w w' F c so pr n' X := by
  obtain ⟨F', h1, h2⟩ := h
  exact ⟨F', h1.mono hn, h2⟩
/-- what came before, and did the client nothing but its own -/
theorem CO.back {w w1 w' : World} {F F1 : List Nat} {c n : Nat} {so : Option Vw} {pr : Prim} {X : Cl} (h : CO w1 w' F1 c so pr n X) (hc : Chg F w w1) (hF : ∀ z ∈ F1, z ∈ F ∨ w.heap.size ≤ z) : CO w w' F c so pr n X := by
  obtain ⟨F', h1, h2, h3⟩ := h
  exact ⟨F', h1, hc.trans h2 hF, fun z hz => by
    rcases h3 z hz with h4 | h4
    · exact hF z h4
    · exact Or.inr (Nat.le_trans hc.size h4)⟩
set_option maxHeartbeats 4000000 in
set_option maxRecDepth 100000 in
theorem cnext_calls {w : World} {F : List Nat} {c n bl : Nat} {S : Vw} {pr : Prim} {X : Cl} {k : Wk} (h : CN w F c (some S) n X k) (hs : Seen S.2 bl pr) (h1 : k.from_ + k.many ≤ bl) (h2 : k.done ≤ k.many) (hn : n ≤ 100000) (hnum : X.num ≤ 100000000) (ho : X.out.length ≤ 100000) :
    Calls Tryz.prog 28 #[.pointer (some ⟨c, 0, none⟩)] w fun e w' => e = .returned (.tuple #[]) ∧ CO w w' F c (some S) pr (n + 1) (X.next pr k) := by
  have HE := hide (fun w' (hb : Below w.heap.size w w') => cend_calls pr (h.below hb) 0)
  obtain ⟨av, xp, mt, cur, ans, out, Ft, Fc, Fa, Fo, h⟩ := h
  obtain ⟨cb, rv, B, cB, blen, rfl, rfl, hcb, hle, hlen, hrow⟩ := h.cu
  have hmm := @run_makeMap Tryz.prog
  have rr := Below.refl w.heap.size w
  have hne : c ≠ cb := fun e => (h.dj.1.2.1 cb (by simp)).1 e.symm
  have H := hide h
  have HCU := hide (And.intro hcb (And.intro hle (And.intro hlen hrow)))
  have HSE := hide hs
  have e4 := h.blk.rule 4 _ rfl
  have k3 := hcb.rule 3 _ rfl
  have k6 := hcb.rule 6 _ rfl
  by_cases hd : k.done = k.many
  · have hd' : ((k.done : Int) == (k.many : Int)) = true := by simp [hd]
    have HD := hide hd
    clear h hcb hle hlen hrow hs hd
    go_enter Tryz.func28, Tryz.ntmps28
    go_upto_region 1 with fail
    refine region_lexg (fun w' => Below w.heap.size w w') [8] 0 [(2, 0), (2, 1), (2, 2), (0, 3), (2, 4), (2, 5), (2, 6), (0, 7), (3, 8)] #[true, true, true, true, true, true, true, true, true] (by kernel_rfl) (by kernel_rfl) (by decide) (by kernel_rfl) (by kernel_rfl) (fun _ _ _ _ _ h => h) (by (first | (with_reducible assumption) | exact rr.drew)) (fun hS0 => ?_)
    simp only [List.map_cons, List.map_nil, List.getElem?_toArray, List.getElem?_cons_succ, List.getElem?_cons_zero]
    (apply lexg_pure (by rfl); (focus (intro w; go_simp; (try with_reducible rfl); done)); simp only [Act.put, List.setIfInBounds_toArray, List.set_cons_zero, List.set_cons_succ])
    (apply lexg_pure (by rfl); (focus (intro w; go_simp; (try with_reducible rfl); done)); simp only [Act.put, List.setIfInBounds_toArray, List.set_cons_zero, List.set_cons_succ])
    (apply lexg_pure (by rfl); (focus (intro w; go_simp; (try with_reducible rfl); done)); simp only [Act.put, List.setIfInBounds_toArray, List.set_cons_zero, List.set_cons_succ])
    (apply lexg_take (by rfl); (focus (intro w hw; (try dsimp only at hw); go_simp; (try with_reducible rfl); done)); simp only [Act.put, List.setIfInBounds_toArray, List.set_cons_zero, List.set_cons_succ])
    (apply lexg_pure (by rfl); (focus (intro w; go_simp; (try with_reducible rfl); done)); simp only [Act.put, List.setIfInBounds_toArray, List.set_cons_zero, List.set_cons_succ])
    (apply lexg_pure (by rfl); (focus (intro w; go_simp; (try with_reducible rfl); done)); simp only [Act.put, List.setIfInBounds_toArray, List.set_cons_zero, List.set_cons_succ])
    (apply lexg_pure (by rfl); (focus (intro w; go_simp; (try with_reducible rfl); done)); simp only [Act.put, List.setIfInBounds_toArray, List.set_cons_zero, List.set_cons_succ])
    (apply lexg_take (by rfl); (focus (intro w hw; (try dsimp only at hw); go_simp; (try with_reducible rfl); done)); simp only [Act.put, List.setIfInBounds_toArray, List.set_cons_zero, List.set_cons_succ])
    (refine lexg_effN (by rfl) ?_; go_simp)
    refine lexg_nil (fun _ => wpAnyG_done (by kernel_rfl) ?_ _)
    rename_i hunm
    clear hunm
    have HE2 := hide (HE.out _ rr.drew)
    go_wp2_with fail
    refine HE2.out.mono ?_
    rintro e w' ⟨rfl, hco⟩
    have HCO := hide hco
    clear hco
    go_wp2
    refine bodyPost_ret (results_none rfl _ _ _) rfl ?_
    refine ⟨rfl, ?_⟩
    have h3 : X.next pr k = X.end_ k 0 := by unfold Cl.next; rw [if_pos HD.out]
    rw [h3]
    exact (HCO.out.mono (Nat.le_succ n)).back (Chg.of_below (L := F) rr.drew) (fun z hz => Or.inl hz)
  · have hd' : ((k.done : Int) == (k.many : Int)) = false := by simp; omega
    have HD := hide hd
    have hw1 : IntKind.i64.wrap ((X.num : Int) + 1) = ((X.num + 1 : Nat) : Int) := by rw [IntWalk.i64_in _ (by omega)]; omega
    have e4' := h.blk.cell 4
    have e1' := h.blk.cell 1
    have ef := h.blk.frozen
    have k7' := hcb.cell 7
    have k8' := hcb.cell 8
    have kf := hcb.frozen
    simp only [List.getElem?_cons_succ, List.getElem?_cons_zero] at e4' e1' k7' k8'
    have hl1 := h.blk.lt
    have hl2 := hcb.lt
    have hne2 := hne.symm
    clear h hcb hle hlen hrow hs hd
    go_enter Tryz.func28, Tryz.ntmps28
    go_upto_region 1 with fail
    refine region_lexg (fun w' => Below w.heap.size w w') [8] 0 [(2, 0), (2, 1), (2, 2), (0, 3), (2, 4), (2, 5), (2, 6), (0, 7), (3, 8)] #[true, true, true, true, true, true, true, true, true] (by kernel_rfl) (by kernel_rfl) (by decide) (by kernel_rfl) (by kernel_rfl) (fun _ _ _ _ _ h => h) (by (first | (with_reducible assumption) | exact rr.drew)) (fun hS0 => ?_)
    simp only [List.map_cons, List.map_nil, List.getElem?_toArray, List.getElem?_cons_succ, List.getElem?_cons_zero]
    (apply lexg_pure (by rfl); (focus (intro w; go_simp; (try with_reducible rfl); done)); simp only [Act.put, List.setIfInBounds_toArray, List.set_cons_zero, List.set_cons_succ])
    (apply lexg_pure (by rfl); (focus (intro w; go_simp; (try with_reducible rfl); done)); simp only [Act.put, List.setIfInBounds_toArray, List.set_cons_zero, List.set_cons_succ])
    (apply lexg_pure (by rfl); (focus (intro w; go_simp; (try with_reducible rfl); done)); simp only [Act.put, List.setIfInBounds_toArray, List.set_cons_zero, List.set_cons_succ])
    (apply lexg_take (by rfl); (focus (intro w hw; (try dsimp only at hw); go_simp; (try with_reducible rfl); done)); simp only [Act.put, List.setIfInBounds_toArray, List.set_cons_zero, List.set_cons_succ])
    (apply lexg_pure (by rfl); (focus (intro w; go_simp; (try with_reducible rfl); done)); simp only [Act.put, List.setIfInBounds_toArray, List.set_cons_zero, List.set_cons_succ])
    (apply lexg_pure (by rfl); (focus (intro w; go_simp; (try with_reducible rfl); done)); simp only [Act.put, List.setIfInBounds_toArray, List.set_cons_zero, List.set_cons_succ])
    (apply lexg_pure (by rfl); (focus (intro w; go_simp; (try with_reducible rfl); done)); simp only [Act.put, List.setIfInBounds_toArray, List.set_cons_zero, List.set_cons_succ])
    (apply lexg_take (by rfl); (focus (intro w hw; (try dsimp only at hw); go_simp; (try with_reducible rfl); done)); simp only [Act.put, List.setIfInBounds_toArray, List.set_cons_zero, List.set_cons_succ])
    (refine lexg_effN (by rfl) ?_; go_simp)
    refine lexg_nil (fun _ => wpAnyG_done (by kernel_rfl) ?_ _)
    rename_i hunm
    clear hunm e4 k3 k6
    go_wp2_with fail
    obtain ⟨ma, hma⟩ : ∃ ma, w.heap.size = ma := ⟨_, rfl⟩
    have HMA := hide hma
    obtain ⟨wS, hwS⟩ : ∃ wS, ((((w.setCell ⟨c, 1, none⟩ (.int .i64 ((X.num + 1 : Nat) : Int))).setCell ⟨cb, 7, none⟩ (.int .i64 0)).setCell ⟨cb, 8, none⟩ (.map (some ma))).alloc (.map #[] 0)).drew = wS := ⟨_, rfl⟩
    have hmaF : ∀ z ∈ F, z ≠ ma := fun z hz => by have := H.out.lt z hz; omega
    have hcA : Chg [c, cb] w wS := hwS ▸ (((((Chg.refl _ _).setCell (Or.inl (by simp)) _).setCell (Or.inl (by simp)) _).setCell (Or.inl (by simp)) _).alloc _).drew
    have hsz : wS.heap.size = w.heap.size + 1 := by rw [← hwS]; simp
    have hcbF : cb ∈ cb :: rv.ownBlock.toList := by simp
    have hbc : Blk wS c 62 [.int .i64 X.id, .int .i64 ((X.num + 1 : Nat) : Int), xp, .map (some mt), .pointer (some ⟨cb, 0, none⟩), ans, out] := by
      rw [← hwS]
      exact ((((H.out.blk.set 1 (.int .i64 ((X.num + 1 : Nat) : Int))).oth hne _).oth hne _).alloc _).drewT
    have hbb : Blk wS cb 82 [.int .i64 k.kind, .int .i64 4, .int .i64 k.from_, .int .i64 k.many, .slice B blen cB, rv, .int .i64 k.done, .int .i64 0, .map (some ma)] := by
      rw [← hwS]
      exact ((((HCU.out.1.oth hne2 _).set 7 (.int .i64 0)).set 8 (.map (some ma))).alloc _).drewT
    have hgm : GM wS ma 0 (fun _ => none) := by
      rw [← hwS, ← hma]
      have h3 := GM.made (((w.setCell ⟨c, 1, none⟩ (.int .i64 ((X.num + 1 : Nat) : Int))).setCell ⟨cb, 7, none⟩ (.int .i64 0)).setCell ⟨cb, 8, none⟩ (.map (some w.heap.size)))
      rw [show (((w.setCell ⟨c, 1, none⟩ (.int .i64 ((X.num + 1 : Nat) : Int))).setCell ⟨cb, 7, none⟩ (.int .i64 0)).setCell ⟨cb, 8, none⟩ (.map (some w.heap.size))).heap.size = w.heap.size from by simp] at h3
      exact h3.keep rfl
    have hmm2 := H.out.mem
    have hdd := H.out.dj
    have hfcs : ∀ z ∈ ma :: cb :: rv.ownBlock.toList, (z ∈ Ft ∨ z ∈ cb :: rv.ownBlock.toList ∨ w.heap.size ≤ z) ∧ z < wS.heap.size := fun z hz => by
      rcases List.mem_cons.1 hz with rfl | hz
      · exact ⟨Or.inr (Or.inr (by omega)), by omega⟩
      · exact ⟨Or.inr (Or.inl hz), by have := H.out.lt z (hmm2.2.2.1 z hz); omega⟩
    have hw := H.out.workc (n' := n) (Ft' := Ft) (Fc' := ma :: cb :: rv.ownBlock.toList) (cur' := .pointer (some ⟨cb, 0, none⟩)) (X' := { X with num := X.num + 1, cur := some { k with since := 0, asked := false } }) (U' := fun w Fc v => CurM w pr Fc v (some { k with since := 0, asked := false })) hcA
      (fun z hz => by
        simp only [List.mem_cons, List.not_mem_nil, or_false] at hz
        rcases hz with rfl | rfl
        · exact Or.inl rfl
        · exact Or.inr (Or.inr (Or.inl hcbF)))
      hbc (fun z hz => ⟨Or.inl hz, by have := H.out.lt z (hmm2.2.1 z hz); omega⟩) hfcs hdd.2.1.1
      (List.nodup_cons.2 ⟨fun hx => hmaF ma (hmm2.2.2.1 ma hx) rfl, hdd.2.1.2.1⟩)
      (fun z hz hx => by
        rcases List.mem_cons.1 hx with rfl | hx
        · exact hmaF z (hmm2.2.1 z hz) rfl
        · exact (hdd.1.1 z hz).2.1 hx) rfl rfl
      (H.out.tr.chg hcA (fun z hz hx => by
        simp only [List.mem_cons, List.not_mem_nil, or_false] at hx
        rcases hx with rfl | rfl
        · exact (hdd.1.1 z hz).1 rfl
        · exact (hdd.1.1 z hz).2.1 hcbF))
      (by
        refine ⟨ma, _, rfl, ⟨cb, rv, B, cB, blen, rfl, rfl, hbb, HCU.out.2.1, HCU.out.2.2.1, ?_⟩, ?_⟩
        · refine own_chg HCU.out.2.2.2 hcA (fun g hg hx => ?_)
          simp only [List.mem_cons, List.not_mem_nil, or_false] at hx
          rcases hx with rfl | rfl
          · exact (hdd.1.2.1 g (by simp [hg])).1 rfl
          · have := List.nodup_cons.1 hdd.2.1.2.1
            exact this.1 (by simp [hg])
        · unfold Asked
          simp only [Bool.false_eq_true, if_false]
          exact hgm)
    have HSN := hide (csend_calls (w := wS) (k := { k with since := 0, asked := false }) ⟨_, _, _, _, _, _, _, _, _, hw.1⟩ rfl HSE.out h1 (by have := HD.out; simp only []; omega) hn (by simp only []; omega) ho)
    have HW := hide (And.intro hcA (And.intro hw.2 hmm2))
    have hwS2 := HMA.out
    rw [show ((X.num : Int) + 1) = ((X.num + 1 : Nat) : Int) from by omega, hwS2, hwS]
    clear hw hcA hbc hbb hgm hfcs hmm2 hdd
    refine HSN.out.mono ?_
    rintro e w' ⟨rfl, hco⟩
    have HCO := hide hco
    clear hco
    go_wp2
    go_end0
    refine ⟨rfl, ?_⟩
    have h3 : X.next pr k = ({ X with num := X.num + 1 } : Cl).send pr { k with since := 0, asked := false } := by unfold Cl.next; rw [if_neg HD.out]
    rw [h3]
    refine (show CO wS w' _ c (some S) pr (n + 1) _ from HCO.out).back (HW.out.1.mono (fun z hz => Or.inl ?_)) HW.out.2.1
    simp only [List.mem_cons, List.not_mem_nil, or_false] at hz
    rcases hz with rfl | rfl
    · exact HW.out.2.2.1
    · exact HW.out.2.2.2.2.1 _ (by simp)
end Go.Proofs.YtanfdnpnkdiiiaaGreat

namespace Go.Proofs.YtanfdnpnkdiiiaaGreat
open Go.RowKit Go.Proofs Go.Maps
set_option linter.unusedVariables false
set_option linter.unusedSimpArgs false

set_option maxRecDepth 100000 in
theorem Tryz.infoPiece : (Tryz.prog.info? 123).map (fun i => (i.zero, i.size, i.bytes)) = some (some (.agg #[.int .i64 0, .int .i64 0, .int .i64 0, .int .i64 0]), 4, 32) := by kernel_rfl
set_option maxHeartbeats 4000000 in
set_option maxRecDepth 100000 in
theorem csplit_calls (bl fr many : Nat) (w : World) (h1 : bl ≤ 512) (h2 : 1 ≤ many) (h3 : fr + many ≤ bl) : Calls Tryz.prog 26 #[.int .i64 bl, .int .i64 fr, .int .i64 many] w fun e w' => (∃ v, e = .returned (.tuple #[v, .int .i64 0])) ∧ Below w.heap.size w w' := by
  obtain ⟨i0, hi, hz0, hz1, hz2⟩ := info_parts Tryz.infoPiece
  have n1 : ¬ (bl : Int) < 0 := by omega
  have n2 : ¬ (512 : Int) < bl := by omega
  have n3 : ¬ (fr : Int) < 0 := by omega
  have n4 : ¬ (many : Int) < 1 := by omega
  have n5 : ¬ (bl : Int) < fr := by omega
  have n6 : IntKind.i64.wrap ((bl : Int) - fr) = (bl : Int) - fr := IntWalk.i64_in _ (by omega)
  have n7 : ¬ (bl : Int) - fr < many := by omega
  go_enter Tryz.func26, Tryz.ntmps26
  go_wp2
  go_step3
  go_upto_if 38 with fail
  go_cut [8] from 13 to 38 (fun _ wx => wx = w)
  case first =>
    go_wp2
    go_meet
    rfl
  case rest =>
  rw [hcut]
  clear hcut
  clear n1 n2 n3 n4 n5 n6 n7
  go_wp2
  go_step3
  go_wp2
  go_loopw [8, 9, 10, 11, 12, 39, 40, 41, 42, 43, 44, 45, 46, 47, 48, 49, 50, 51, 52, 53, 54, 55, 56, 57, 58, 59, 60, 61, 62, 63, 64, 65] (fun out off _ _ _ _ _ _ _ _ _ _ _ _ _ _ _ _ _ _ _ _ _ _ _ _ _ _ _ _ _ _ wr => ∃ (k len : Nat) (cs : List Value), k ≤ many ∧ off = .int .i64 k ∧ len ≤ k ∧ wr.ownsRow 0 123 4 out len cs ∧ (∀ g, out.ownBlock = some g → w.heap.size ≤ g) ∧ Below w.heap.size w wr) (fun out off _ _ _ _ _ _ _ _ _ _ _ _ _ _ _ _ _ _ _ _ _ _ _ _ _ _ _ _ _ _ _ => many - (intOf off).toNat)
  case atStart => exact ⟨0, 0, [], Nat.zero_le _, rfl, Nat.le_refl _, World.ownsRow_nil _ _ _ _, by simp [Value.ownBlock], Below.refl _ _⟩
  case round =>
    obtain ⟨k, len, cs, hk, rfl, hlen, hown, hg, hb⟩ := hrel
    obtain ⟨r, hr⟩ : ∃ r, (fr + k) % 8 = r := ⟨_, rfl⟩
    obtain ⟨q, hq⟩ : ∃ q, (fr + k) / 8 = q := ⟨_, rfl⟩
    have hW := where_calls (fr + k) wr (by omega)
    rw [hr, hq] at hW
    have HWH := hide hW
    have ha : IntKind.i64.wrap ((fr : Int) + k) = ((fr + k : Nat) : Int) := by rw [IntWalk.i64_in _ (by omega)]; omega
    have hb1 : IntKind.i64.wrap (8 - (r : Int)) = 8 - (r : Int) := IntWalk.i64_in _ (by omega)
    have hb2 : IntKind.i64.wrap ((many : Int) - k) = (many : Int) - k := IntWalk.i64_in _ (by omega)
    have HO := hide (And.intro hown (And.intro hg hb))
    clear hW hown hg hb hq
    obtain ⟨A, cp, rfl, g1, g2, g3, g4, g5⟩ := own_view HO.out.1
    clear g5
    by_cases hkm : k = many
    · have hm : min (8 - (r : Int)) ((many : Int) - k) = 0 := by omega
      have HK := hide hkm
      clear hkm
      go_wp2_with fail
      rw [show ((fr : Int) + k) = ((fr + k : Nat) : Int) from by omega]
      refine HWH.out.mono ?_
      rintro e w5 ⟨rfl, rfl⟩
      go_wp2
      rw [Exit.noGoto_ret]
      refine bodyPost_ret (v := .tuple #[.slice A len cp, .int .i64 0]) (by simp [results, Tryz.results26, go_sem, *]) rfl ?_
      exact ⟨⟨_, rfl⟩, HO.out.2.2⟩
    · obtain ⟨m, hm⟩ : ∃ m : Nat, min (8 - (r : Int)) ((many : Int) - k) = m := ⟨(min (8 - (r : Int)) ((many : Int) - k)).toNat, by omega⟩
      have hm1 : ¬ (m : Int) < 1 := by omega
      have hm2 : IntKind.i64.wrap ((k : Int) + m) = ((k + m : Nat) : Int) := by rw [IntWalk.i64_in _ (by omega)]; omega
      have hm3 : 1 ≤ m ∧ k + m ≤ many := by omega
      have HM3 := hide hm3
      clear hkm hm3
      go_wp2_with fail
      rw [show ((fr : Int) + k) = ((fr + k : Nat) : Int) from by omega]
      refine HWH.out.mono ?_
      rintro e w5 ⟨rfl, rfl⟩
      go_wp2_with (at_builtin; refine app_law rfl _ _ 76 rfl 123 i0 _ 4 32 Tryz.underlying76 hi hz0 hz1 hz2 rfl (by decide) (.slice A len cp) len cs rfl (HO.out.1.alloc _) wr.heap.size 1 1 [.int .i64 q, .int .i64 r, .int .i64 m, .int .i64 k] rfl (Blk.new rfl) rfl ?c1 (by decide) ?c3 ?c4 ?_)
      case c1 => intro u hu; simp at hu; rcases hu with rfl | rfl | rfl | rfl <;> rfl
      case c3 => unfold maxLen; omega
      case c4 => omega
      intro g cap2 w4 hown2 hch hor hlt2
      have hbw : Below w.heap.size w w4 := by
        refine Chg.onto ((HO.out.2.2).alloc HO.out.2.2.size _) ?_ hch (fun x hx => ?_)
        · have := HO.out.2.2.size; simp; omega
        · exact HO.out.2.1 x (by rw [ownBlock_slice]; simpa using hx)
      have H4 := hide (And.intro hown2 (And.intro hor hbw))
      clear hown2 hch hor hlt2 hbw
      go_wp2
      go_roundw
      case rel => exact ⟨k + m, len + 1, _, HM3.out.2, by go_num, by have := HM3.out; omega, H4.out.1, fun g' hg' => by
        have e : g = g' := by simpa [Value.ownBlock] using hg'
        rw [← e]
        rcases H4.out.2.1 with h5 | h5
        · exact HO.out.2.1 g (by rw [ownBlock_slice]; simpa using h5)
        · rw [h5]; have := HO.out.2.2.size; simp; omega, H4.out.2.2⟩
      case measure => have := HM3.out; simp [intOf]; omega
end Go.Proofs.YtanfdnpnkdiiiaaGreat

namespace Go.Proofs.YtanfdnpnkdiiiaaGreat
open Go.RowKit Go.Proofs Go.Maps
set_option linter.unusedVariables false
set_option linter.unusedSimpArgs false

section
variable {w : World} {F : List Nat} {c n bl : Nat} {S : Vw} {pr : Prim} {X : Cl}
set_option maxHeartbeats 4000000 in
set_option maxRecDepth 100000 in
/-- without a view there is no volume -/
theorem cbegin_none (h : CM w F c none pr n X) (hcur : X.cur = none) (hans : X.ans = none) (fr many : Nat) (hm : 1 ≤ many) : Calls Tryz.prog 10 #[.pointer (some ⟨c, 0, none⟩), .int .i64 3, .int .i64 4, .int .i64 fr, .int .i64 many, .slice none 0 0] w fun e w' => e = .returned (.int .i64 7) ∧ w = w' := by
  have HBU := hide (cbusy_calls h)
  rw [hcur, hans] at HBU
  simp only [Option.isSome_none, Bool.or_self] at HBU
  obtain ⟨xp, mt, cur, ans, out, Ft, Fc, Fa, Fo, h⟩ := h
  have hst : xp = .pointer none := h.st
  subst hst
  have e2 := h.blk.cell 2
  simp only [List.getElem?_cons_succ, List.getElem?_cons_zero] at e2
  clear h
  go_enter Tryz.func10, Tryz.ntmps10
  go_wp2_with fail
  refine HBU.out.mono ?_
  rintro e w1 ⟨rfl, rfl⟩
  go_wp2
  go_ret
  exact ⟨rfl, rfl⟩
set_option maxHeartbeats 8000000 in
set_option maxRecDepth 100000 in
theorem cbegin_calls (h : CM w F c (some S) pr n X) (hcur : X.cur = none) (hans : X.ans = none) (hs : Seen S.2 bl pr) (kind fr many : Nat) (hk1 : 1 ≤ kind) (hk3 : kind ≤ 3) (hm : 1 ≤ many) (hfm : fr + many ≤ bl) {A : Option Addr} {cap : Nat} {L : List Nat} (hr : Rb w [] A cap L) (hL : kind = 1 → L.length = many * 16) (hL2 : L.length ≤ 100000)
    (hn : n ≤ 100000) (hnum : X.num ≤ 100000000) (ho : X.out.length ≤ 100000) :
    Calls Tryz.prog 10 #[.pointer (some ⟨c, 0, none⟩), .int .i64 kind, .int .i64 4, .int .i64 fr, .int .i64 many, .slice A L.length cap] w fun e w' => e = .returned (.int .i64 0) ∧ CO w w' F c (some S) pr (n + 1) (X.begin pr kind fr many) := by
  have HBU := hide (cbusy_calls h)
  rw [hcur, hans] at HBU
  simp only [Option.isSome_none, Bool.or_self] at HBU
  obtain ⟨xp, mt, cur, ans, out, Ft, Fc, Fa, Fo, h⟩ := h
  have hst : ∃ xb, xp = .pointer (some ⟨xb, 0, none⟩) ∧ VF F w xb S.2 ∧ xb = S.1 := ⟨S.1, h.st.1, h.st.2, rfl⟩
  obtain ⟨xb, rfl, ⟨no, m1, m2, m3, V, C, hvm, hvF⟩, hxb⟩ := hst
  clear hxb
  obtain ⟨v, hv, hvbl, hvlen, hvch⟩ := hs.v
  have hVV := vol_some hvm hv
  rw [hvbl] at hVV
  have HV := hide hVV
  clear hVV hvbl
  have rr := Below.refl w.heap.size w
  have e2 := h.blk.rule 2 _ rfl
  have i1 : ¬ (kind : Int) < 1 := by omega
  have i2 : ¬ (3 : Int) < kind := by omega
  have i3 : ¬ (many : Int) < 0 := by omega
  have q1 : ((kind : Int) == 1) = decide (kind = 1) := by by_cases hk : kind = 1 <;> simp [hk]; omega
  have H := hide h
  have HSE := hide hs
  have HR := hide hr
  have hlc := h.blk.lt
  clear h hvm hvF hv hvlen hvch hs hr
  by_cases hk : kind = 1
  · have q2 : Int.tmod (L.length : Int) 16 = 0 := by rw [hL hk]; rw [Int.tmod_eq_emod_of_nonneg (by omega)]; omega
    have q3 : Int.tdiv (L.length : Int) 16 = many := by rw [hL hk]; rw [Int.tdiv_eq_ediv_of_nonneg (by omega)]; omega
    have q0 : ((kind : Int) == 1) = true := by simp [hk]
    have hw0 : IntKind.i64.wrap 0 = 0 := IntWalk.i64_in _ (by omega)
    have hwm : IntKind.i64.wrap (many : Int) = many := IntWalk.i64_in _ (by have := HSE.out.bl; omega)
    have HK := hide hk
    have HL1 := hide hL
    clear hk hL q1
    have q1 := q0
    go_enter Tryz.func10, Tryz.ntmps10
    go_wp2_with fail
    refine HBU.out.mono ?_
    rintro e w1 ⟨rfl, rfl⟩
    go_upto_if 45 with fail
    clear i1 i2 i3 q1
    (try clear q2 q3)
    go_wp2_with fail
    refine (HV.out w rr).mono ?_
    rintro e w1 ⟨A1, c1, rfl, hm1, hb1⟩
    obtain ⟨w2, hw2⟩ : ∃ w2, w1.alloc (.cells #[.int .i64 v.id, .int .i64 bl, .int .i64 v.p.r, .int .i64 v.p.w, .int .i64 v.p.l, .int .i64 v.p.b, .int .i64 v.ver, .slice A1 v.ch.length c1] 73) = w2 := ⟨_, rfl⟩
    obtain ⟨vb, hvb⟩ : ∃ vb, w1.heap.size = vb := ⟨_, rfl⟩
    have hb2 : Below w.heap.size w w2 := hw2 ▸ belowL hb1 _
    have hvB : Blk w2 vb 73 [.int .i64 v.id, .int .i64 bl, .int .i64 v.p.r, .int .i64 v.p.w, .int .i64 v.p.l, .int .i64 v.p.b, .int .i64 v.ver, .slice A1 v.ch.length c1] := by rw [← hw2, ← hvb]; exact Blk.new rfl
    have y1 := hvB.cell 1
    simp only [List.getElem?_cons_succ, List.getElem?_cons_zero] at y1
    have HSP := hide (csplit_calls bl fr many w2 (by have := HSE.out.bl; omega) hm hfm)
    have HB2 := hide hb2
    have HWW := hide (And.intro hw2 hvb)
    clear hw2 hvb hb2 hvB hm1 hb1 e2
    go_upto_region 8 with fail
    rw [HWW.out.2, HWW.out.1]
    go_wp2_with fail
    refine HSP.out.mono ?_
    rintro e w3 ⟨⟨vs, rfl⟩, hb3⟩
    have HB3 := hide (belowA hb3 HB2.out)
    clear hb3 y1
    have HCL := hide (cloneB_calls A cap L w3 (by omega) (HR.out.below HB3.out).rd)
    go_wp2_with fail
    refine HCL.out.mono ?_
    rintro e w4 ⟨B', c', rfl, hob, hb4⟩
    have HB4 := hide (belowA hb4 HB3.out)
    obtain ⟨_, _, eB, hle', _, _, _, _⟩ := own_view hob.1
    cases eB
    have HLE := hide hle'
    have e4 := (H.out.blk.below HB4.out).cell 4
    have ef := (H.out.blk.below HB4.out).frozen
    simp only [List.getElem?_cons_succ, List.getElem?_cons_zero] at e4
    have hlc4 := (H.out.blk.below HB4.out).lt
    clear hob hb4 hle'
    go_wp2_with fail
    obtain ⟨cb, hcb⟩ : ∃ cb, w4.heap.size = cb := ⟨_, rfl⟩
    obtain ⟨wB, hwB⟩ : ∃ wB, (w4.setCell ⟨c, 4, none⟩ (.pointer (some ⟨cb, 0, none⟩))).alloc (.cells #[.int .i64 kind, .int .i64 4, .int .i64 fr, .int .i64 many, .slice B' L.length c', .slice none 0 0, .int .i64 0, .int .i64 0, .map none] 82) = wB := ⟨_, rfl⟩
    have hcA : Chg [c] w wB := hwB ▸ ((Chg.of_below (L := [c]) HB4.out).setCell (Or.inl (by simp)) _).alloc _
    have hsz : wB.heap.size = w4.heap.size + 1 := by rw [← hwB]; simp
    have hbb : Blk wB cb 82 [.int .i64 kind, .int .i64 4, .int .i64 fr, .int .i64 many, .slice B' L.length c', .slice none 0 0, .int .i64 0, .int .i64 0, .map none] := by
      rw [← hwB]
      exact Blk.new (by rw [← hcb]; simp)
    have hw := H.out.workc (n' := n) (Ft' := Ft) (Fc' := [cb]) (cur' := .pointer (some ⟨cb, 0, none⟩)) (X' := X) (U' := fun w Fc v => CurB w Fc v ⟨kind, fr, many, [], 0, 0, false⟩ (.map none)) hcA
      (fun z hz => Or.inl (List.mem_singleton.1 hz)) (by rw [← hwB]; exact ((H.out.blk.below HB4.out).set 4 _).alloc _)
      (fun z hz => ⟨Or.inl hz, Nat.lt_of_lt_of_le (H.out.lt z (H.out.mem.2.1 z hz)) hcA.size⟩)
      (fun z hz => by rw [List.mem_singleton.1 hz, ← hcb]; exact ⟨Or.inr (Or.inr HB4.out.size), by omega⟩) H.out.dj.2.1.1 (by simp)
      (fun z hz hx => by rw [List.mem_singleton.1 hx] at hz; have h3 := H.out.lt _ (H.out.mem.2.1 _ hz); have h4 := HB4.out.size; omega) rfl rfl
      (H.out.tr.chg hcA (fun z hz hx => (H.out.dj.1.1 z hz).1 (List.mem_singleton.1 hx)))
      ⟨cb, .slice none 0 0, B', c', L.length, rfl, by simp [Value.ownBlock], hbb, HLE.out, fun h3 => HL1.out h3, World.ownsRow_nil _ _ _ _⟩
    have HNX := hide (cnext_calls (w := wB) ⟨_, _, _, _, _, _, _, _, _, _, hw.1⟩ HSE.out hfm (Nat.zero_le _) hn hnum ho)
    have HWB := hide (And.intro hcA hw.2)
    rw [hcb, hwB]
    clear hw hcA hbb hsz
    refine HNX.out.mono ?_
    rintro e w' ⟨rfl, hco⟩
    have HCO := hide hco
    clear hco
    go_wp2
    go_ret
    refine ⟨rfl, HCO.out.back (HWB.out.1.mono (fun z hz => Or.inl (by rw [List.mem_singleton.1 hz]; exact H.out.mem.1))) HWB.out.2⟩
  · have q0 : ((kind : Int) == 1) = false := by simp; omega
    have HK := hide hk
    have HL1 := hide hL
    clear hk hL q1
    have q1 := q0
    go_enter Tryz.func10, Tryz.ntmps10
    go_wp2_with fail
    refine HBU.out.mono ?_
    rintro e w1 ⟨rfl, rfl⟩
    go_upto_if 45 with fail
    clear i1 i2 i3 q1
    (try clear q2 q3)
    go_wp2_with fail
    refine (HV.out w rr).mono ?_
    rintro e w1 ⟨A1, c1, rfl, hm1, hb1⟩
    obtain ⟨w2, hw2⟩ : ∃ w2, w1.alloc (.cells #[.int .i64 v.id, .int .i64 bl, .int .i64 v.p.r, .int .i64 v.p.w, .int .i64 v.p.l, .int .i64 v.p.b, .int .i64 v.ver, .slice A1 v.ch.length c1] 73) = w2 := ⟨_, rfl⟩
    obtain ⟨vb, hvb⟩ : ∃ vb, w1.heap.size = vb := ⟨_, rfl⟩
    have hb2 : Below w.heap.size w w2 := hw2 ▸ belowL hb1 _
    have hvB : Blk w2 vb 73 [.int .i64 v.id, .int .i64 bl, .int .i64 v.p.r, .int .i64 v.p.w, .int .i64 v.p.l, .int .i64 v.p.b, .int .i64 v.ver, .slice A1 v.ch.length c1] := by rw [← hw2, ← hvb]; exact Blk.new rfl
    have y1 := hvB.cell 1
    simp only [List.getElem?_cons_succ, List.getElem?_cons_zero] at y1
    have HSP := hide (csplit_calls bl fr many w2 (by have := HSE.out.bl; omega) hm hfm)
    have HB2 := hide hb2
    have HWW := hide (And.intro hw2 hvb)
    clear hw2 hvb hb2 hvB hm1 hb1 e2
    go_upto_region 8 with fail
    rw [HWW.out.2, HWW.out.1]
    go_wp2_with fail
    refine HSP.out.mono ?_
    rintro e w3 ⟨⟨vs, rfl⟩, hb3⟩
    have HB3 := hide (belowA hb3 HB2.out)
    clear hb3 y1
    have HCL := hide (cloneB_calls A cap L w3 (by omega) (HR.out.below HB3.out).rd)
    go_wp2_with fail
    refine HCL.out.mono ?_
    rintro e w4 ⟨B', c', rfl, hob, hb4⟩
    have HB4 := hide (belowA hb4 HB3.out)
    obtain ⟨_, _, eB, hle', _, _, _, _⟩ := own_view hob.1
    cases eB
    have HLE := hide hle'
    have e4 := (H.out.blk.below HB4.out).cell 4
    have ef := (H.out.blk.below HB4.out).frozen
    simp only [List.getElem?_cons_succ, List.getElem?_cons_zero] at e4
    have hlc4 := (H.out.blk.below HB4.out).lt
    clear hob hb4 hle'
    go_wp2_with fail
    obtain ⟨cb, hcb⟩ : ∃ cb, w4.heap.size = cb := ⟨_, rfl⟩
    obtain ⟨wB, hwB⟩ : ∃ wB, (w4.setCell ⟨c, 4, none⟩ (.pointer (some ⟨cb, 0, none⟩))).alloc (.cells #[.int .i64 kind, .int .i64 4, .int .i64 fr, .int .i64 many, .slice B' L.length c', .slice none 0 0, .int .i64 0, .int .i64 0, .map none] 82) = wB := ⟨_, rfl⟩
    have hcA : Chg [c] w wB := hwB ▸ ((Chg.of_below (L := [c]) HB4.out).setCell (Or.inl (by simp)) _).alloc _
    have hsz : wB.heap.size = w4.heap.size + 1 := by rw [← hwB]; simp
    have hbb : Blk wB cb 82 [.int .i64 kind, .int .i64 4, .int .i64 fr, .int .i64 many, .slice B' L.length c', .slice none 0 0, .int .i64 0, .int .i64 0, .map none] := by
      rw [← hwB]
      exact Blk.new (by rw [← hcb]; simp)
    have hw := H.out.workc (n' := n) (Ft' := Ft) (Fc' := [cb]) (cur' := .pointer (some ⟨cb, 0, none⟩)) (X' := X) (U' := fun w Fc v => CurB w Fc v ⟨kind, fr, many, [], 0, 0, false⟩ (.map none)) hcA
      (fun z hz => Or.inl (List.mem_singleton.1 hz)) (by rw [← hwB]; exact ((H.out.blk.below HB4.out).set 4 _).alloc _)
      (fun z hz => ⟨Or.inl hz, Nat.lt_of_lt_of_le (H.out.lt z (H.out.mem.2.1 z hz)) hcA.size⟩)
      (fun z hz => by rw [List.mem_singleton.1 hz, ← hcb]; exact ⟨Or.inr (Or.inr HB4.out.size), by omega⟩) H.out.dj.2.1.1 (by simp)
      (fun z hz hx => by rw [List.mem_singleton.1 hx] at hz; have h3 := H.out.lt _ (H.out.mem.2.1 _ hz); have h4 := HB4.out.size; omega) rfl rfl
      (H.out.tr.chg hcA (fun z hz hx => (H.out.dj.1.1 z hz).1 (List.mem_singleton.1 hx)))
      ⟨cb, .slice none 0 0, B', c', L.length, rfl, by simp [Value.ownBlock], hbb, HLE.out, fun h3 => HL1.out h3, World.ownsRow_nil _ _ _ _⟩
    have HNX := hide (cnext_calls (w := wB) ⟨_, _, _, _, _, _, _, _, _, _, hw.1⟩ HSE.out hfm (Nat.zero_le _) hn hnum ho)
    have HWB := hide (And.intro hcA hw.2)
    rw [hcb, hwB]
    clear hw hcA hbb hsz
    refine HNX.out.mono ?_
    rintro e w' ⟨rfl, hco⟩
    have HCO := hide hco
    clear hco
    go_wp2
    go_ret
    refine ⟨rfl, HCO.out.back (HWB.out.1.mono (fun z hz => Or.inl (by rw [List.mem_singleton.1 hz]; exact H.out.mem.1))) HWB.out.2⟩
end
end Go.Proofs.YtanfdnpnkdiiiaaGreat
