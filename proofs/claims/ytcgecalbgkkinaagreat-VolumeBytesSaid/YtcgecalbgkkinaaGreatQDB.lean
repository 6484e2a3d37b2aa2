/- One text of: Ds5 Ds6 Ds7. -/
import Derived.Deep.CutRange
import Derived.Test.YtcgecalbgkkinaaGreatQDA
import Derived.Test.YtcgecalbgkkinaaGreatQApp
namespace Go.Proofs.YtcgecalbgkkinaaGreat
open Go.ChangeShapes Go.WideShapes Go.ChangeAt Go.RowKit Go.Joins Go.Deep Go.Maps
set_option linter.unusedVariables false
set_option linter.unusedSimpArgs false
theorem zA36 {α : Type} (l : List α) (i : Nat) (a : α) : l.toArray.setIfInBounds i a = (l.set i a).toArray := by simp
theorem zB36 {α : Type} (x a : α) (l : List α) : (x :: l).set 0 a = a :: l := rfl
theorem zC36 {α : Type} (x a : α) (l : List α) (n : Nat) : (x :: l).set (n + 1) a = x :: l.set n a := rfl

/-- what 'append([]T{}, s...)' gives: a new row, or, of nothing, the empty slice itself -/
structure App0 (w w' : World) (e : TypeId) (size : Nat) (a : Addr) (A : Option Addr) (m cap : Nat) (news : List Value) : Prop where
  own : 0 < m → w'.ownsRow 0 e size (.slice A m cap) m news ∧ ∃ g, A = some ⟨g, 0, none⟩ ∧ w.heap.size ≤ g
  len : news.length = m * size
  none : m = 0 → A = some a ∧ cap = 0
theorem App0.below {w w' w'' : World} {e : TypeId} {size : Nat} {a : Addr} {A : Option Addr} {m cap : Nat} {news : List Value} (h : App0 w w' e size a A m cap news) (hb : Below w'.heap.size w' w'') : App0 w w'' e size a A m cap news :=
  ⟨fun hm => ⟨own_chg (h.own hm).1 (Chg.of_below (L := []) hb) (fun _ _ hx => by cases hx), (h.own hm).2⟩, h.len, h.none⟩
theorem App0.rd {w w' : World} {e : TypeId} {size : Nat} {a : Addr} {A : Option Addr} {m cap : Nat} {news : List Value} (h : App0 w w' e size a A m cap news) : Reads w' w'.heap.size size A m news := by
  rcases Nat.eq_zero_or_pos m with h0 | h0
  · exact ⟨h.len, fun hn => by omega⟩
  · obtain ⟨A2, c2, e2, _, _, _, _, h5⟩ := own_view (h.own h0).1
    cases e2
    exact h5 _ (fun g hg => own_lt (h.own h0).1 hg)
theorem App0.chg {w w' w'' : World} {e : TypeId} {size : Nat} {a : Addr} {A : Option Addr} {m cap : Nat} {news : List Value} {no : List Nat} (h : App0 w w' e size a A m cap news) (hc : Chg no w' w'') (hn : ∀ x ∈ no, x < w.heap.size) : App0 w w'' e size a A m cap news :=
  ⟨fun hm => by
    obtain ⟨h1, g, rfl, hg⟩ := h.own hm
    exact ⟨own_chg h1 hc (fun z hz hx => by
      rw [owS] at hz
      have e : g = z := by simpa using hz
      have := hn z hx
      omega), g, rfl, hg⟩, h.len, h.none⟩
theorem App0.back {w w0 w' : World} {e : TypeId} {size : Nat} {a : Addr} {A : Option Addr} {m cap : Nat} {news : List Value} (h : App0 w0 w' e size a A m cap news) (hb : w.heap.size ≤ w0.heap.size) : App0 w w' e size a A m cap news :=
  ⟨fun hm => by
    obtain ⟨h1, g, e, hg⟩ := h.own hm
    exact ⟨h1, g, e, Nat.le_trans hb hg⟩, h.len, h.none⟩
section
variable {P : Program} (w : World)
theorem run_app0 (t ty e : TypeId) (i : TypeInfo) (z : Value) (size bytes : Nat) (ht : P.underlying t = some (.slice e)) (hi : P.info? e = some i) (hz : i.zero = some z)
    (hsize : i.size = size) (hby : i.bytes = bytes) (hzs : z.cells.size = size) (a : Addr) (hspot : a.spot = none)
    (A : Option Addr) (m c B : Nat) (news : List Value) (hR : Reads w B size A m news) (h1 : ∀ u ∈ news, u.oneCell' = true)
    (h63 : m ≤ maxLen) (hbytes : m * bytes ≤ 140737488355328) :
    ∃ A' cap w', (Builtin.append_ #[t, t] ty #[.slice (some a) 0 0, .slice A m c]).run P w = .ok (.slice A' m cap) w' ∧ App0 w w' e size a A' m cap news ∧ Below w.heap.size w w' := by
  by_cases hm : 0 < m
  · obtain ⟨b, o, rfl, _, hc⟩ := hR.at_ hm
    have hs : Src P i.size t (.slice (some ⟨b, o, none⟩) m c) m news w := Src.ofSlice w ht ⟨b, o, none⟩ m c news (by rw [hsize]; exact hR.1) (fun j u hu => by rw [add_addr]; exact hc j u hu) h1
    have h := run_append_grow_src (P := P) w t t ty e i z ht hi hz (some a) 0 0 [] (run_firstCells_some w.drew i.size 0 a 0 0 [] (by simp) (by simp)) (.slice (some ⟨b, o, none⟩) m c) m news hs (by omega) (by unfold maxLen at h63; omega)
      (growslice_fits (by omega) (by rw [hby, Nat.zero_add]; exact hbytes))
    rw [Nat.zero_add] at h
    refine ⟨_, _, _, h, ⟨fun _ => ⟨⟨hR.1, .inr ⟨w.heap.size, grownCap w m 0 e, _, rfl, Nat.zero_le _, heap_alloc_new w.drew _, grownCap_ge w m 0 e, grownCap_le_maxLen w m 0 e h63, ?_, ?_⟩⟩, w.heap.size, rfl, Nat.le_refl _⟩, hR.1, fun h0 => by omega⟩, (Below.refl _ w).drew.alloc (Nat.le_refl _) _⟩
    · have h2 := grownCap_ge w m 0 e
      rw [Array.size_append, size_zeroCells, hzs]
      simp only [List.nil_append, List.size_toArray, hR.1]
      rw [← Nat.add_mul]
      congr 1
      omega
    · simp only [List.nil_append]
      rw [Array.toList_append, List.take_append_of_le_length (by simp [hR.1])]
      exact List.take_of_length_le (by simp [hR.1])
  · have hm0 : m = 0 := by omega
    subst hm0
    have hn : news = [] := List.eq_nil_of_length_eq_zero (by simpa using hR.1)
    subst hn
    have hs : Src P i.size t (.slice A 0 c) 0 [] w := by
      cases A with
      | none => exact Src.ofNil w ht c
      | some a => exact Src.ofSlice w ht a 0 c [] (by simp) (by simp) (by simp)
    exact ⟨some a, 0, w, run_append_nothing w t t ty e i ht hi (some a) 0 0 (Nat.le_refl _) _ hs, ⟨fun h => by omega, by simp, fun _ => ⟨rfl, rfl⟩⟩, Below.refl _ _⟩
theorem wp_app0 {o : Oper} {ac : Act} {K : Act → World → Prop} {Q : Exit → Act → World → Prop} (s x : Operand) (t : TypeId)
    (ho : o.op = .call { callee := .builtin .append, args := #[s, x], argTypes := #[t, t] })
    (e : TypeId) (i : TypeInfo) (z : Value) (size bytes : Nat) (ht : P.underlying t = some (.slice e)) (hi : P.info? e = some i) (hz : i.zero = some z)
    (hsize : i.size = size) (hby : i.bytes = bytes) (hzs : z.cells.size = size) (a : Addr) (hspot : a.spot = none)
    (hs : ac.eval s = .slice (some a) 0 0) (A : Option Addr) (m c B : Nat) (news : List Value) (hx : ac.eval x = .slice A m c) (hR : Reads w B size A m news) (h1 : ∀ u ∈ news, u.oneCell' = true)
    (h63 : m ≤ maxLen) (hbytes : m * bytes ≤ 140737488355328)
    (h : ∀ A' cap w', App0 w w' e size a A' m cap news → Below w.heap.size w w' → K (ac.put o.dst (.slice A' m cap)) w') : o.wp P ac w K Q := by
  obtain ⟨A', cap, w', hr, h2, h3⟩ := run_app0 (P := P) w t o.type e i z size bytes ht hi hz hsize hby hzs a hspot A m c B news hR h1 h63 hbytes
  unfold Oper.wp execOp
  simp only [ho, resolve, invoke, builtin, Sem.run_bind, Sem.run_pure, Result.andThen_ok, List.map_toArray, List.map_cons, List.map_nil, hs, hx, hr]
  exact h A' cap w' h2 h3
end
theorem bwP {a b c : World} (k : Below b.heap.size b c) (h : Below a.heap.size a b) : Below a.heap.size a c := h.trans (k.mono h.size)
theorem bwA {a b : World} (h : Below a.heap.size a b) (o : Obj) : Below a.heap.size a (b.alloc o) := h.alloc h.size o
theorem Tryz.infoVo : (Tryz.prog.info? 43).map (fun i => (i.zero, i.size, i.bytes)) = some (some (.agg #[.int .i64 0, .int .i64 0, .int .i64 0, .int .i64 0, .int .i64 0, .int .i64 0, .int .i64 0, .slice none 0 0]), 8, 80) := by kernel_rfl
theorem flatC_one {α : Type} {f : α → List Value} (hf : ∀ x, ∀ u ∈ f x, u.oneCell' = true) : ∀ (L : List α), ∀ u ∈ flatC f L, u.oneCell' = true
  | [], u, h => by cases h
  | x :: t, u, h => by
    unfold flatC at h
    rcases List.mem_append.1 h with h | h
    · exact hf x u h
    · exact flatC_one hf t u h
theorem picks_len (S : Vst) : S.picks.length = 16 := by simp [Vst.picks]
theorem picks_one (S : Vst) : ∀ u ∈ S.picks, u.oneCell' = true := by
  intro u hu
  obtain ⟨i, _, rfl⟩ := List.mem_map.1 hu
  rfl
set_option maxHeartbeats 8000000 in
set_option maxRecDepth 100000 in
theorem dclone_calls (w : World) (no : List Nat) (x : DV) (S : Vst) (nx : Int) (h : DM w no x S) (hl : x.V.length ≤ 1000) (hlc : x.C.length ≤ 1000000) :
    Calls Tryz.prog 21 #[x.val nx] w fun e w' => ∃ A1 c1 A2 c2 A3 c3 a1 a2 a3, e = .returned ((⟨A1, c1, x.V, A2, c2, x.C, A3, c3⟩ : DV).val nx) ∧ App0 w w' 3 1 a1 A1 16 c1 S.picks ∧ App0 w w' 43 8 a2 A2 x.V.length c2 (flatC VoM.cells x.V) ∧
      App0 w w' 47 5 a3 A3 x.C.length c3 (flatC CkM.cells x.C) ∧ Below w.heap.size w w' := by
  obtain ⟨i1, hi1, hy0, hy1, hy2⟩ := info_parts Tryz.infoI3
  obtain ⟨i2, hi2, hv0, hv1, hv2⟩ := info_parts Tryz.infoVo
  obtain ⟨i3, hi3, hc0, hc1, hc2⟩ := info_parts Tryz.infoCk
  obtain ⟨Ap, cp, V, Av, cv, C, Ac, cc⟩ := x
  unfold DV.val DV.cells
  simp only [] at hl hlc ⊢
  obtain ⟨w0, hw0⟩ : ∃ w0, (w.alloc (.cells #[.slice Ap 16 cp, .slice Av V.length cv, .slice Ac C.length cc, .int .i64 nx] 31)).alloc (.cells #[.slice none 0 0, .slice none 0 0, .slice none 0 0, .int .i64 0] 31) = w0 := ⟨_, rfl⟩
  have d0 : Blk w0 w.heap.size 31 [.slice Ap 16 cp, .slice Av V.length cv, .slice Ac C.length cc, .int .i64 nx] := hw0 ▸ (Blk.new rfl).alloc _
  have d1 : Blk w0 (w.heap.size + 1) 31 [.slice none 0 0, .slice none 0 0, .slice none 0 0, .int .i64 0] := hw0 ▸ Blk.new (by simp)
  have hb0 : Below w.heap.size w w0 := hw0 ▸ ((Below.refl _ _).alloc (Nat.le_refl _) _).alloc (by simp) _
  have H := hide (h.below hb0)
  have HB0 := hide hb0
  have HW := hide hw0
  have HD1 := hide d1
  have r0 := Below.refl w0.heap.size w0
  have x0 := d0.rule 0 _ rfl
  have x1 := d0.rule 1 _ rfl
  have x2 := d0.rule 2 _ rfl
  have x3 := d0.rule 3 _ rfl
  have y0 := d1.rule 0 _ rfl
  have y1 := d1.rule 1 _ rfl
  have y2 := d1.rule 2 _ rfl
  have y3 := d1.rule 3 _ rfl
  have yf : ∀ w', Below w0.heap.size w0 w' → ∀ i, w'.frozen? ⟨w.heap.size + 1, i, none⟩ = false := fun w' hb => (d1.below hb).frozen
  clear h d0 d1 hb0 hw0
  go_enter Tryz.func21, Tryz.ntmps21
  go_wp2_with fail
  rw [HW.out]
  refine lxR (fun w' => Below w0.heap.size w0 w') [15] 8 [(2, 1), (0, 2), (2, 5), (0, 6), (2, 9), (0, 10), (2, 12), (0, 13)] #[false, true, true, false, false, true, true, false, false, true, true, false, true, true, false, false] (by kernel_rfl) (by kernel_rfl) (by decide) (by kernel_rfl) (by kernel_rfl) (fun _ _ _ _ _ h => h) (by (first | assumption | exact r0.drew | exact bwA (by assumption) _ | exact (bwA r0 _).drew | exact (bwA (bwA r0 _) _).drew | exact (bwA (bwA (bwA r0 _) _) _).drew)) (fun hS0 => ?_)
  simp only [List.map_cons, List.map_nil, List.getElem?_toArray, List.getElem?_cons_succ, List.getElem?_cons_zero]
  (apply lxP (by rfl); (focus (intro w; go_simp; (try with_reducible rfl); done)); simp only [Act.put, zA36, zB36, zC36]); (apply lxT (by rfl); (focus (intro w hw; (try dsimp only at hw); go_simp; (try with_reducible rfl); done)); simp only [Act.put, zA36, zB36, zC36]); (apply lxP (by rfl); (focus (intro w; go_simp; (try with_reducible rfl); done)); simp only [Act.put, zA36, zB36, zC36]); (apply lxT (by rfl); (focus (intro w hw; (try dsimp only at hw); go_simp; (try with_reducible rfl); done)); simp only [Act.put, zA36, zB36, zC36]); (apply lxP (by rfl); (focus (intro w; go_simp; (try with_reducible rfl); done)); simp only [Act.put, zA36, zB36, zC36]); (apply lxT (by rfl); (focus (intro w hw; (try dsimp only at hw); go_simp; (try with_reducible rfl); done)); simp only [Act.put, zA36, zB36, zC36]); (apply lxP (by rfl); (focus (intro w; go_simp; (try with_reducible rfl); done)); simp only [Act.put, zA36, zB36, zC36]); (apply lxT (by rfl); (focus (intro w hw; (try dsimp only at hw); go_simp; (try with_reducible rfl); done)); simp only [Act.put, zA36, zB36, zC36])
  refine lxN (fun hS2 => ?_)
  refine lexg_fork3 (i := 0) (j := 4)  (k := 8) (by kernel_rfl) (by kernel_rfl : _ = #[true, true, true, false, false, true, true, false, false, true, true, false, true, true, false, false]) (by kernel_rfl : _ = #[false, true, true, false, true, true, true, false, false, true, true, false, true, true, false, false]) (by kernel_rfl : _ = #[false, true, true, false, false, true, true, false, true, true, true, false, true, true, false, false]) ?_ ?_ ?_
  focus
    apply lxA (by simp only [List.getElem?_toArray, List.getElem?_cons_succ, List.getElem?_cons_zero]; rfl) (by rfl)
    go_simp
    refine lxB (by (first | assumption | exact r0.drew | exact bwA (by assumption) _ | exact (bwA r0 _).drew | exact (bwA (bwA r0 _) _).drew | exact (bwA (bwA (bwA r0 _) _) _).drew)) (fun hS1 => ?_)
    refine lxM 7 [] #[true, true, true, false, false, true, true, false, false, true, true, false, true, true, false, false] (by kernel_rfl) (by decide) (by kernel_rfl) (by kernel_rfl) (fun _ _ _ _ _ h => h) (fun _ => by assumption) ?_
    simp only [List.map_nil]
    refine lxN (fun hS2 => ?_)
    refine lexg_fork3 (i := 3) (j := 4)  (k := 8) (by kernel_rfl) (by kernel_rfl : _ = #[true, true, true, true, false, true, true, false, false, true, true, false, true, true, false, false]) (by kernel_rfl : _ = #[true, true, true, false, true, true, true, false, false, true, true, false, true, true, false, false]) (by kernel_rfl : _ = #[true, true, true, false, false, true, true, false, true, true, true, false, true, true, false, false]) ?_ ?_ ?_
    focus
      apply lxA (by simp only [List.getElem?_toArray, List.getElem?_cons_succ, List.getElem?_cons_zero]; rfl) (by rfl)
      (refine wp_app0 _ _ _ 27 rfl 3 i1 _ 1 8 Tryz.underlying27 hi1 hy0 hy1 hy2 rfl _ rfl rfl Ap 16 cp w0.heap.size S.picks rfl (H.out.pk.below (show Below w0.heap.size w0 _ from by assumption)) (picks_one S) (by unfold maxLen; omega) (by omega) ?_; intro A1 c1 w5 ha1 hb5; have hb5q : Below w0.heap.size w0 w5 := bwP hb5 (by assumption); have HA1 := hide ha1; clear ha1 hb5)
      simp only [Act.put, zA36, zB36, zC36]
      refine lxB (by (first | assumption | exact r0.drew | exact bwA (by assumption) _ | exact (bwA r0 _).drew | exact (bwA (bwA r0 _) _).drew | exact (bwA (bwA (bwA r0 _) _) _).drew)) (fun hS1 => ?_)
      refine lxM 6 [] #[true, true, true, true, false, true, true, false, false, true, true, false, true, true, false, false] (by kernel_rfl) (by decide) (by kernel_rfl) (by kernel_rfl) (fun _ _ _ _ _ h => h) (fun _ => by assumption) ?_
      simp only [List.map_nil]
      refine lxN (fun hS2 => ?_)
      refine lexg_fork2 (i := 4) (j := 8) (by kernel_rfl) (by kernel_rfl : _ = #[true, true, true, true, true, true, true, false, false, true, true, false, true, true, false, false]) (by kernel_rfl : _ = #[true, true, true, true, false, true, true, false, true, true, true, false, true, true, false, false]) ?_ ?_
      focus
        apply lxA (by simp only [List.getElem?_toArray, List.getElem?_cons_succ, List.getElem?_cons_zero]; rfl) (by rfl)
        go_simp
        refine lxB (by (first | assumption | exact r0.drew | exact bwA (by assumption) _ | exact (bwA r0 _).drew | exact (bwA (bwA r0 _) _).drew | exact (bwA (bwA (bwA r0 _) _) _).drew)) (fun hS1 => ?_)
        refine lxM 5 [] #[true, true, true, true, true, true, true, false, false, true, true, false, true, true, false, false] (by kernel_rfl) (by decide) (by kernel_rfl) (by kernel_rfl) (fun _ _ _ _ _ h => h) (fun _ => by assumption) ?_
        simp only [List.map_nil]
        refine lxN (fun hS2 => ?_)
        refine lexg_fork2 (i := 7) (j := 8) (by kernel_rfl) (by kernel_rfl : _ = #[true, true, true, true, true, true, true, true, false, true, true, false, true, true, false, false]) (by kernel_rfl : _ = #[true, true, true, true, true, true, true, false, true, true, true, false, true, true, false, false]) ?_ ?_
        focus
          apply lxA (by simp only [List.getElem?_toArray, List.getElem?_cons_succ, List.getElem?_cons_zero]; rfl) (by rfl)
          (refine wp_app0 _ _ _ 28 rfl 43 i2 _ 8 80 Tryz.underlying28 hi2 hv0 hv1 hv2 rfl _ rfl rfl Av V.length cv w0.heap.size (flatC VoM.cells V) rfl (H.out.vo.below (show Below w0.heap.size w0 _ from by assumption)) (flatC_one voCells_one V) (by unfold maxLen; omega) (by omega) ?_; intro A2 c2 w6 ha2 hb6; have hb6q : Below w0.heap.size w0 w6 := bwP hb6 (by assumption); have hb56 : Below w5.heap.size w5 w6 := (by first | exact bwP hb6 (Below.refl _ _) | exact bwP hb6 (bwA (Below.refl _ _) _) | exact bwP hb6 (bwA (bwA (Below.refl _ _) _) _)); have HA2 := hide (And.intro ha2 hb56); clear ha2 hb6 hb56)
          simp only [Act.put, zA36, zB36, zC36]
          refine lxB (by (first | assumption | exact r0.drew | exact bwA (by assumption) _ | exact (bwA r0 _).drew | exact (bwA (bwA r0 _) _).drew | exact (bwA (bwA (bwA r0 _) _) _).drew)) (fun hS1 => ?_)
          refine lxM 0 [(1, 8), (1, 11), (2, 14), (3, 15)] #[true, true, true, true, true, true, true, true, true, true, true, true, true, true, true, true] (by kernel_rfl) (by decide) (by kernel_rfl) (by kernel_rfl) (fun _ _ _ _ _ h => h) (fun _ => by assumption) ?_
          simp only [List.map_cons, List.map_nil, List.getElem?_toArray, List.getElem?_cons_succ, List.getElem?_cons_zero]
          (refine lxE (by rfl) ?_; go_simp; refine lxB (by (first | assumption | exact r0.drew | exact bwA (by assumption) _ | exact (bwA r0 _).drew | exact (bwA (bwA r0 _) _).drew | exact (bwA (bwA (bwA r0 _) _) _).drew)) (fun hS1 => ?_)); (refine lxE (by rfl) ?_; (refine wp_app0 _ _ _ 29 rfl 47 i3 _ 5 72 Tryz.underlying29 hi3 hc0 hc1 hc2 rfl _ rfl rfl Ac C.length cc w0.heap.size (flatC CkM.cells C) rfl (H.out.ck.below (show Below w0.heap.size w0 _ from by assumption)) (flatC_one ckCells_one C) (by unfold maxLen; omega) (by omega) ?_; intro A3 c3 w7 ha3 hb7; have hb7q : Below w0.heap.size w0 w7 := bwP hb7 (by assumption); have hb67 : Below w6.heap.size w6 w7 := (by first | exact bwP hb7 (Below.refl _ _) | exact bwP hb7 (bwA (Below.refl _ _) _) | exact bwP hb7 (bwA (bwA (Below.refl _ _) _) _)); have HA3 := hide (And.intro ha3 hb67); clear ha3 hb7 hb67); simp only [Act.put, zA36, zB36, zC36]; refine lxB (by (first | assumption | exact r0.drew | exact bwA (by assumption) _ | exact (bwA r0 _).drew | exact (bwA (bwA r0 _) _).drew | exact (bwA (bwA (bwA r0 _) _) _).drew)) (fun hS1 => ?_)); (apply lxP (by rfl); (focus (intro w; go_simp; (try with_reducible rfl); done)); simp only [Act.put, zA36, zB36, zC36]); (refine lxF (by rfl) ?_; go_simp)
          refine lxN (fun _ => wqD (by kernel_rfl) ?_ _)
        rotate_left
        focus
          apply lxA (by simp only [List.getElem?_toArray, List.getElem?_cons_succ, List.getElem?_cons_zero]; rfl) (by rfl)
          go_simp
          refine lxB (by (first | assumption | exact r0.drew | exact bwA (by assumption) _ | exact (bwA r0 _).drew | exact (bwA (bwA r0 _) _).drew | exact (bwA (bwA (bwA r0 _) _) _).drew)) (fun hS1 => ?_)
          refine lxM 0 [(1, 7), (1, 11), (2, 14), (3, 15)] #[true, true, true, true, true, true, true, true, true, true, true, true, true, true, true, true] (by kernel_rfl) (by decide) (by kernel_rfl) (by kernel_rfl) (fun _ _ _ _ _ h => h) (fun _ => by assumption) ?_
          simp only [List.map_cons, List.map_nil, List.getElem?_toArray, List.getElem?_cons_succ, List.getElem?_cons_zero]
          (refine lxE (by rfl) ?_; (refine wp_app0 _ _ _ 28 rfl 43 i2 _ 8 80 Tryz.underlying28 hi2 hv0 hv1 hv2 rfl _ rfl rfl Av V.length cv w0.heap.size (flatC VoM.cells V) rfl (H.out.vo.below (show Below w0.heap.size w0 _ from by assumption)) (flatC_one voCells_one V) (by unfold maxLen; omega) (by omega) ?_; intro A2 c2 w6 ha2 hb6; have hb6q : Below w0.heap.size w0 w6 := bwP hb6 (by assumption); have hb56 : Below w5.heap.size w5 w6 := (by first | exact bwP hb6 (Below.refl _ _) | exact bwP hb6 (bwA (Below.refl _ _) _) | exact bwP hb6 (bwA (bwA (Below.refl _ _) _) _)); have HA2 := hide (And.intro ha2 hb56); clear ha2 hb6 hb56); simp only [Act.put, zA36, zB36, zC36]; refine lxB (by (first | assumption | exact r0.drew | exact bwA (by assumption) _ | exact (bwA r0 _).drew | exact (bwA (bwA r0 _) _).drew | exact (bwA (bwA (bwA r0 _) _) _).drew)) (fun hS1 => ?_)); (refine lxE (by rfl) ?_; (refine wp_app0 _ _ _ 29 rfl 47 i3 _ 5 72 Tryz.underlying29 hi3 hc0 hc1 hc2 rfl _ rfl rfl Ac C.length cc w0.heap.size (flatC CkM.cells C) rfl (H.out.ck.below (show Below w0.heap.size w0 _ from by assumption)) (flatC_one ckCells_one C) (by unfold maxLen; omega) (by omega) ?_; intro A3 c3 w7 ha3 hb7; have hb7q : Below w0.heap.size w0 w7 := bwP hb7 (by assumption); have hb67 : Below w6.heap.size w6 w7 := (by first | exact bwP hb7 (Below.refl _ _) | exact bwP hb7 (bwA (Below.refl _ _) _) | exact bwP hb7 (bwA (bwA (Below.refl _ _) _) _)); have HA3 := hide (And.intro ha3 hb67); clear ha3 hb7 hb67); simp only [Act.put, zA36, zB36, zC36]; refine lxB (by (first | assumption | exact r0.drew | exact bwA (by assumption) _ | exact (bwA r0 _).drew | exact (bwA (bwA r0 _) _).drew | exact (bwA (bwA (bwA r0 _) _) _).drew)) (fun hS1 => ?_)); (apply lxP (by rfl); (focus (intro w; go_simp; (try with_reducible rfl); done)); simp only [Act.put, zA36, zB36, zC36]); (refine lxF (by rfl) ?_; go_simp)
          refine lxN (fun _ => wqD (by kernel_rfl) ?_ _)
        rotate_left
      rotate_left 2
      focus
        apply lxA (by simp only [List.getElem?_toArray, List.getElem?_cons_succ, List.getElem?_cons_zero]; rfl) (by rfl)
        go_simp
        refine lxB (by (first | assumption | exact r0.drew | exact bwA (by assumption) _ | exact (bwA r0 _).drew | exact (bwA (bwA r0 _) _).drew | exact (bwA (bwA (bwA r0 _) _) _).drew)) (fun hS1 => ?_)
        refine lxM 0 [(1, 4), (1, 7), (1, 11), (2, 14), (3, 15)] #[true, true, true, true, true, true, true, true, true, true, true, true, true, true, true, true] (by kernel_rfl) (by decide) (by kernel_rfl) (by kernel_rfl) (fun _ _ _ _ _ h => h) (fun _ => by assumption) ?_
        simp only [List.map_cons, List.map_nil, List.getElem?_toArray, List.getElem?_cons_succ, List.getElem?_cons_zero]
        (refine lxE (by rfl) ?_; go_simp; refine lxB (by (first | assumption | exact r0.drew | exact bwA (by assumption) _ | exact (bwA r0 _).drew | exact (bwA (bwA r0 _) _).drew | exact (bwA (bwA (bwA r0 _) _) _).drew)) (fun hS1 => ?_)); (refine lxE (by rfl) ?_; (refine wp_app0 _ _ _ 28 rfl 43 i2 _ 8 80 Tryz.underlying28 hi2 hv0 hv1 hv2 rfl _ rfl rfl Av V.length cv w0.heap.size (flatC VoM.cells V) rfl (H.out.vo.below (show Below w0.heap.size w0 _ from by assumption)) (flatC_one voCells_one V) (by unfold maxLen; omega) (by omega) ?_; intro A2 c2 w6 ha2 hb6; have hb6q : Below w0.heap.size w0 w6 := bwP hb6 (by assumption); have hb56 : Below w5.heap.size w5 w6 := (by first | exact bwP hb6 (Below.refl _ _) | exact bwP hb6 (bwA (Below.refl _ _) _) | exact bwP hb6 (bwA (bwA (Below.refl _ _) _) _)); have HA2 := hide (And.intro ha2 hb56); clear ha2 hb6 hb56); simp only [Act.put, zA36, zB36, zC36]; refine lxB (by (first | assumption | exact r0.drew | exact bwA (by assumption) _ | exact (bwA r0 _).drew | exact (bwA (bwA r0 _) _).drew | exact (bwA (bwA (bwA r0 _) _) _).drew)) (fun hS1 => ?_)); (refine lxE (by rfl) ?_; (refine wp_app0 _ _ _ 29 rfl 47 i3 _ 5 72 Tryz.underlying29 hi3 hc0 hc1 hc2 rfl _ rfl rfl Ac C.length cc w0.heap.size (flatC CkM.cells C) rfl (H.out.ck.below (show Below w0.heap.size w0 _ from by assumption)) (flatC_one ckCells_one C) (by unfold maxLen; omega) (by omega) ?_; intro A3 c3 w7 ha3 hb7; have hb7q : Below w0.heap.size w0 w7 := bwP hb7 (by assumption); have hb67 : Below w6.heap.size w6 w7 := (by first | exact bwP hb7 (Below.refl _ _) | exact bwP hb7 (bwA (Below.refl _ _) _) | exact bwP hb7 (bwA (bwA (Below.refl _ _) _) _)); have HA3 := hide (And.intro ha3 hb67); clear ha3 hb7 hb67); simp only [Act.put, zA36, zB36, zC36]; refine lxB (by (first | assumption | exact r0.drew | exact bwA (by assumption) _ | exact (bwA r0 _).drew | exact (bwA (bwA r0 _) _).drew | exact (bwA (bwA (bwA r0 _) _) _).drew)) (fun hS1 => ?_)); (apply lxP (by rfl); (focus (intro w; go_simp; (try with_reducible rfl); done)); simp only [Act.put, zA36, zB36, zC36]); (refine lxF (by rfl) ?_; go_simp)
        refine lxN (fun _ => wqD (by kernel_rfl) ?_ _)
      rotate_left
    rotate_left 3
    focus
      apply lxA (by simp only [List.getElem?_toArray, List.getElem?_cons_succ, List.getElem?_cons_zero]; rfl) (by rfl)
      go_simp
      refine lxB (by (first | assumption | exact r0.drew | exact bwA (by assumption) _ | exact (bwA r0 _).drew | exact (bwA (bwA r0 _) _).drew | exact (bwA (bwA (bwA r0 _) _) _).drew)) (fun hS1 => ?_)
      refine lxM 6 [] #[true, true, true, false, true, true, true, false, false, true, true, false, true, true, false, false] (by kernel_rfl) (by decide) (by kernel_rfl) (by kernel_rfl) (fun _ _ _ _ _ h => h) (fun _ => by assumption) ?_
      simp only [List.map_nil]
      refine lxN (fun hS2 => ?_)
      refine lexg_fork2 (i := 3) (j := 8) (by kernel_rfl) (by kernel_rfl : _ = #[true, true, true, true, true, true, true, false, false, true, true, false, true, true, false, false]) (by kernel_rfl : _ = #[true, true, true, false, true, true, true, false, true, true, true, false, true, true, false, false]) ?_ ?_
      focus
        apply lxA (by simp only [List.getElem?_toArray, List.getElem?_cons_succ, List.getElem?_cons_zero]; rfl) (by rfl)
        (refine wp_app0 _ _ _ 27 rfl 3 i1 _ 1 8 Tryz.underlying27 hi1 hy0 hy1 hy2 rfl _ rfl rfl Ap 16 cp w0.heap.size S.picks rfl (H.out.pk.below (show Below w0.heap.size w0 _ from by assumption)) (picks_one S) (by unfold maxLen; omega) (by omega) ?_; intro A1 c1 w5 ha1 hb5; have hb5q : Below w0.heap.size w0 w5 := bwP hb5 (by assumption); have HA1 := hide ha1; clear ha1 hb5)
        simp only [Act.put, zA36, zB36, zC36]
        refine lxB (by (first | assumption | exact r0.drew | exact bwA (by assumption) _ | exact (bwA r0 _).drew | exact (bwA (bwA r0 _) _).drew | exact (bwA (bwA (bwA r0 _) _) _).drew)) (fun hS1 => ?_)
        refine lxM 5 [] #[true, true, true, true, true, true, true, false, false, true, true, false, true, true, false, false] (by kernel_rfl) (by decide) (by kernel_rfl) (by kernel_rfl) (fun _ _ _ _ _ h => h) (fun _ => by assumption) ?_
        simp only [List.map_nil]
        refine lxN (fun hS2 => ?_)
        refine lexg_fork2 (i := 7) (j := 8) (by kernel_rfl) (by kernel_rfl : _ = #[true, true, true, true, true, true, true, true, false, true, true, false, true, true, false, false]) (by kernel_rfl : _ = #[true, true, true, true, true, true, true, false, true, true, true, false, true, true, false, false]) ?_ ?_
        focus
          apply lxA (by simp only [List.getElem?_toArray, List.getElem?_cons_succ, List.getElem?_cons_zero]; rfl) (by rfl)
          (refine wp_app0 _ _ _ 28 rfl 43 i2 _ 8 80 Tryz.underlying28 hi2 hv0 hv1 hv2 rfl _ rfl rfl Av V.length cv w0.heap.size (flatC VoM.cells V) rfl (H.out.vo.below (show Below w0.heap.size w0 _ from by assumption)) (flatC_one voCells_one V) (by unfold maxLen; omega) (by omega) ?_; intro A2 c2 w6 ha2 hb6; have hb6q : Below w0.heap.size w0 w6 := bwP hb6 (by assumption); have hb56 : Below w5.heap.size w5 w6 := (by first | exact bwP hb6 (Below.refl _ _) | exact bwP hb6 (bwA (Below.refl _ _) _) | exact bwP hb6 (bwA (bwA (Below.refl _ _) _) _)); have HA2 := hide (And.intro ha2 hb56); clear ha2 hb6 hb56)
          simp only [Act.put, zA36, zB36, zC36]
          refine lxB (by (first | assumption | exact r0.drew | exact bwA (by assumption) _ | exact (bwA r0 _).drew | exact (bwA (bwA r0 _) _).drew | exact (bwA (bwA (bwA r0 _) _) _).drew)) (fun hS1 => ?_)
          refine lxM 0 [(1, 8), (1, 11), (2, 14), (3, 15)] #[true, true, true, true, true, true, true, true, true, true, true, true, true, true, true, true] (by kernel_rfl) (by decide) (by kernel_rfl) (by kernel_rfl) (fun _ _ _ _ _ h => h) (fun _ => by assumption) ?_
          simp only [List.map_cons, List.map_nil, List.getElem?_toArray, List.getElem?_cons_succ, List.getElem?_cons_zero]
          (refine lxE (by rfl) ?_; go_simp; refine lxB (by (first | assumption | exact r0.drew | exact bwA (by assumption) _ | exact (bwA r0 _).drew | exact (bwA (bwA r0 _) _).drew | exact (bwA (bwA (bwA r0 _) _) _).drew)) (fun hS1 => ?_)); (refine lxE (by rfl) ?_; (refine wp_app0 _ _ _ 29 rfl 47 i3 _ 5 72 Tryz.underlying29 hi3 hc0 hc1 hc2 rfl _ rfl rfl Ac C.length cc w0.heap.size (flatC CkM.cells C) rfl (H.out.ck.below (show Below w0.heap.size w0 _ from by assumption)) (flatC_one ckCells_one C) (by unfold maxLen; omega) (by omega) ?_; intro A3 c3 w7 ha3 hb7; have hb7q : Below w0.heap.size w0 w7 := bwP hb7 (by assumption); have hb67 : Below w6.heap.size w6 w7 := (by first | exact bwP hb7 (Below.refl _ _) | exact bwP hb7 (bwA (Below.refl _ _) _) | exact bwP hb7 (bwA (bwA (Below.refl _ _) _) _)); have HA3 := hide (And.intro ha3 hb67); clear ha3 hb7 hb67); simp only [Act.put, zA36, zB36, zC36]; refine lxB (by (first | assumption | exact r0.drew | exact bwA (by assumption) _ | exact (bwA r0 _).drew | exact (bwA (bwA r0 _) _).drew | exact (bwA (bwA (bwA r0 _) _) _).drew)) (fun hS1 => ?_)); (apply lxP (by rfl); (focus (intro w; go_simp; (try with_reducible rfl); done)); simp only [Act.put, zA36, zB36, zC36]); (refine lxF (by rfl) ?_; go_simp)
          refine lxN (fun _ => wqD (by kernel_rfl) ?_ _)
        rotate_left
        focus
          apply lxA (by simp only [List.getElem?_toArray, List.getElem?_cons_succ, List.getElem?_cons_zero]; rfl) (by rfl)
          go_simp
          refine lxB (by (first | assumption | exact r0.drew | exact bwA (by assumption) _ | exact (bwA r0 _).drew | exact (bwA (bwA r0 _) _).drew | exact (bwA (bwA (bwA r0 _) _) _).drew)) (fun hS1 => ?_)
          refine lxM 0 [(1, 7), (1, 11), (2, 14), (3, 15)] #[true, true, true, true, true, true, true, true, true, true, true, true, true, true, true, true] (by kernel_rfl) (by decide) (by kernel_rfl) (by kernel_rfl) (fun _ _ _ _ _ h => h) (fun _ => by assumption) ?_
          simp only [List.map_cons, List.map_nil, List.getElem?_toArray, List.getElem?_cons_succ, List.getElem?_cons_zero]
          (refine lxE (by rfl) ?_; (refine wp_app0 _ _ _ 28 rfl 43 i2 _ 8 80 Tryz.underlying28 hi2 hv0 hv1 hv2 rfl _ rfl rfl Av V.length cv w0.heap.size (flatC VoM.cells V) rfl (H.out.vo.below (show Below w0.heap.size w0 _ from by assumption)) (flatC_one voCells_one V) (by unfold maxLen; omega) (by omega) ?_; intro A2 c2 w6 ha2 hb6; have hb6q : Below w0.heap.size w0 w6 := bwP hb6 (by assumption); have hb56 : Below w5.heap.size w5 w6 := (by first | exact bwP hb6 (Below.refl _ _) | exact bwP hb6 (bwA (Below.refl _ _) _) | exact bwP hb6 (bwA (bwA (Below.refl _ _) _) _)); have HA2 := hide (And.intro ha2 hb56); clear ha2 hb6 hb56); simp only [Act.put, zA36, zB36, zC36]; refine lxB (by (first | assumption | exact r0.drew | exact bwA (by assumption) _ | exact (bwA r0 _).drew | exact (bwA (bwA r0 _) _).drew | exact (bwA (bwA (bwA r0 _) _) _).drew)) (fun hS1 => ?_)); (refine lxE (by rfl) ?_; (refine wp_app0 _ _ _ 29 rfl 47 i3 _ 5 72 Tryz.underlying29 hi3 hc0 hc1 hc2 rfl _ rfl rfl Ac C.length cc w0.heap.size (flatC CkM.cells C) rfl (H.out.ck.below (show Below w0.heap.size w0 _ from by assumption)) (flatC_one ckCells_one C) (by unfold maxLen; omega) (by omega) ?_; intro A3 c3 w7 ha3 hb7; have hb7q : Below w0.heap.size w0 w7 := bwP hb7 (by assumption); have hb67 : Below w6.heap.size w6 w7 := (by first | exact bwP hb7 (Below.refl _ _) | exact bwP hb7 (bwA (Below.refl _ _) _) | exact bwP hb7 (bwA (bwA (Below.refl _ _) _) _)); have HA3 := hide (And.intro ha3 hb67); clear ha3 hb7 hb67); simp only [Act.put, zA36, zB36, zC36]; refine lxB (by (first | assumption | exact r0.drew | exact bwA (by assumption) _ | exact (bwA r0 _).drew | exact (bwA (bwA r0 _) _).drew | exact (bwA (bwA (bwA r0 _) _) _).drew)) (fun hS1 => ?_)); (apply lxP (by rfl); (focus (intro w; go_simp; (try with_reducible rfl); done)); simp only [Act.put, zA36, zB36, zC36]); (refine lxF (by rfl) ?_; go_simp)
          refine lxN (fun _ => wqD (by kernel_rfl) ?_ _)
        rotate_left
      rotate_left 2
      focus
        apply lxA (by simp only [List.getElem?_toArray, List.getElem?_cons_succ, List.getElem?_cons_zero]; rfl) (by rfl)
        go_simp
        refine lxB (by (first | assumption | exact r0.drew | exact bwA (by assumption) _ | exact (bwA r0 _).drew | exact (bwA (bwA r0 _) _).drew | exact (bwA (bwA (bwA r0 _) _) _).drew)) (fun hS1 => ?_)
        refine lxM 0 [(1, 3), (1, 7), (1, 11), (2, 14), (3, 15)] #[true, true, true, true, true, true, true, true, true, true, true, true, true, true, true, true] (by kernel_rfl) (by decide) (by kernel_rfl) (by kernel_rfl) (fun _ _ _ _ _ h => h) (fun _ => by assumption) ?_
        simp only [List.map_cons, List.map_nil, List.getElem?_toArray, List.getElem?_cons_succ, List.getElem?_cons_zero]
        (refine lxE (by rfl) ?_; (refine wp_app0 _ _ _ 27 rfl 3 i1 _ 1 8 Tryz.underlying27 hi1 hy0 hy1 hy2 rfl _ rfl rfl Ap 16 cp w0.heap.size S.picks rfl (H.out.pk.below (show Below w0.heap.size w0 _ from by assumption)) (picks_one S) (by unfold maxLen; omega) (by omega) ?_; intro A1 c1 w5 ha1 hb5; have hb5q : Below w0.heap.size w0 w5 := bwP hb5 (by assumption); have HA1 := hide ha1; clear ha1 hb5); simp only [Act.put, zA36, zB36, zC36]; refine lxB (by (first | assumption | exact r0.drew | exact bwA (by assumption) _ | exact (bwA r0 _).drew | exact (bwA (bwA r0 _) _).drew | exact (bwA (bwA (bwA r0 _) _) _).drew)) (fun hS1 => ?_)); (refine lxE (by rfl) ?_; (refine wp_app0 _ _ _ 28 rfl 43 i2 _ 8 80 Tryz.underlying28 hi2 hv0 hv1 hv2 rfl _ rfl rfl Av V.length cv w0.heap.size (flatC VoM.cells V) rfl (H.out.vo.below (show Below w0.heap.size w0 _ from by assumption)) (flatC_one voCells_one V) (by unfold maxLen; omega) (by omega) ?_; intro A2 c2 w6 ha2 hb6; have hb6q : Below w0.heap.size w0 w6 := bwP hb6 (by assumption); have hb56 : Below w5.heap.size w5 w6 := (by first | exact bwP hb6 (Below.refl _ _) | exact bwP hb6 (bwA (Below.refl _ _) _) | exact bwP hb6 (bwA (bwA (Below.refl _ _) _) _)); have HA2 := hide (And.intro ha2 hb56); clear ha2 hb6 hb56); simp only [Act.put, zA36, zB36, zC36]; refine lxB (by (first | assumption | exact r0.drew | exact bwA (by assumption) _ | exact (bwA r0 _).drew | exact (bwA (bwA r0 _) _).drew | exact (bwA (bwA (bwA r0 _) _) _).drew)) (fun hS1 => ?_)); (refine lxE (by rfl) ?_; (refine wp_app0 _ _ _ 29 rfl 47 i3 _ 5 72 Tryz.underlying29 hi3 hc0 hc1 hc2 rfl _ rfl rfl Ac C.length cc w0.heap.size (flatC CkM.cells C) rfl (H.out.ck.below (show Below w0.heap.size w0 _ from by assumption)) (flatC_one ckCells_one C) (by unfold maxLen; omega) (by omega) ?_; intro A3 c3 w7 ha3 hb7; have hb7q : Below w0.heap.size w0 w7 := bwP hb7 (by assumption); have hb67 : Below w6.heap.size w6 w7 := (by first | exact bwP hb7 (Below.refl _ _) | exact bwP hb7 (bwA (Below.refl _ _) _) | exact bwP hb7 (bwA (bwA (Below.refl _ _) _) _)); have HA3 := hide (And.intro ha3 hb67); clear ha3 hb7 hb67); simp only [Act.put, zA36, zB36, zC36]; refine lxB (by (first | assumption | exact r0.drew | exact bwA (by assumption) _ | exact (bwA r0 _).drew | exact (bwA (bwA r0 _) _).drew | exact (bwA (bwA (bwA r0 _) _) _).drew)) (fun hS1 => ?_)); (apply lxP (by rfl); (focus (intro w; go_simp; (try with_reducible rfl); done)); simp only [Act.put, zA36, zB36, zC36]); (refine lxF (by rfl) ?_; go_simp)
        refine lxN (fun _ => wqD (by kernel_rfl) ?_ _)
      rotate_left
    rotate_left 3
    focus
      apply lxA (by simp only [List.getElem?_toArray, List.getElem?_cons_succ, List.getElem?_cons_zero]; rfl) (by rfl)
      go_simp
      refine lxB (by (first | assumption | exact r0.drew | exact bwA (by assumption) _ | exact (bwA r0 _).drew | exact (bwA (bwA r0 _) _).drew | exact (bwA (bwA (bwA r0 _) _) _).drew)) (fun hS1 => ?_)
      refine lxM 6 [] #[true, true, true, false, false, true, true, false, true, true, true, false, true, true, false, false] (by kernel_rfl) (by decide) (by kernel_rfl) (by kernel_rfl) (fun _ _ _ _ _ h => h) (fun _ => by assumption) ?_
      simp only [List.map_nil]
      refine lxN (fun hS2 => ?_)
      refine lexg_fork2 (i := 3) (j := 4) (by kernel_rfl) (by kernel_rfl : _ = #[true, true, true, true, false, true, true, false, true, true, true, false, true, true, false, false]) (by kernel_rfl : _ = #[true, true, true, false, true, true, true, false, true, true, true, false, true, true, false, false]) ?_ ?_
      focus
        apply lxA (by simp only [List.getElem?_toArray, List.getElem?_cons_succ, List.getElem?_cons_zero]; rfl) (by rfl)
        (refine wp_app0 _ _ _ 27 rfl 3 i1 _ 1 8 Tryz.underlying27 hi1 hy0 hy1 hy2 rfl _ rfl rfl Ap 16 cp w0.heap.size S.picks rfl (H.out.pk.below (show Below w0.heap.size w0 _ from by assumption)) (picks_one S) (by unfold maxLen; omega) (by omega) ?_; intro A1 c1 w5 ha1 hb5; have hb5q : Below w0.heap.size w0 w5 := bwP hb5 (by assumption); have HA1 := hide ha1; clear ha1 hb5)
        simp only [Act.put, zA36, zB36, zC36]
        refine lxB (by (first | assumption | exact r0.drew | exact bwA (by assumption) _ | exact (bwA r0 _).drew | exact (bwA (bwA r0 _) _).drew | exact (bwA (bwA (bwA r0 _) _) _).drew)) (fun hS1 => ?_)
        refine lxM 0 [(1, 4), (1, 7), (1, 11), (2, 14), (3, 15)] #[true, true, true, true, true, true, true, true, true, true, true, true, true, true, true, true] (by kernel_rfl) (by decide) (by kernel_rfl) (by kernel_rfl) (fun _ _ _ _ _ h => h) (fun _ => by assumption) ?_
        simp only [List.map_cons, List.map_nil, List.getElem?_toArray, List.getElem?_cons_succ, List.getElem?_cons_zero]
        (refine lxE (by rfl) ?_; go_simp; refine lxB (by (first | assumption | exact r0.drew | exact bwA (by assumption) _ | exact (bwA r0 _).drew | exact (bwA (bwA r0 _) _).drew | exact (bwA (bwA (bwA r0 _) _) _).drew)) (fun hS1 => ?_)); (refine lxE (by rfl) ?_; (refine wp_app0 _ _ _ 28 rfl 43 i2 _ 8 80 Tryz.underlying28 hi2 hv0 hv1 hv2 rfl _ rfl rfl Av V.length cv w0.heap.size (flatC VoM.cells V) rfl (H.out.vo.below (show Below w0.heap.size w0 _ from by assumption)) (flatC_one voCells_one V) (by unfold maxLen; omega) (by omega) ?_; intro A2 c2 w6 ha2 hb6; have hb6q : Below w0.heap.size w0 w6 := bwP hb6 (by assumption); have hb56 : Below w5.heap.size w5 w6 := (by first | exact bwP hb6 (Below.refl _ _) | exact bwP hb6 (bwA (Below.refl _ _) _) | exact bwP hb6 (bwA (bwA (Below.refl _ _) _) _)); have HA2 := hide (And.intro ha2 hb56); clear ha2 hb6 hb56); simp only [Act.put, zA36, zB36, zC36]; refine lxB (by (first | assumption | exact r0.drew | exact bwA (by assumption) _ | exact (bwA r0 _).drew | exact (bwA (bwA r0 _) _).drew | exact (bwA (bwA (bwA r0 _) _) _).drew)) (fun hS1 => ?_)); (refine lxE (by rfl) ?_; (refine wp_app0 _ _ _ 29 rfl 47 i3 _ 5 72 Tryz.underlying29 hi3 hc0 hc1 hc2 rfl _ rfl rfl Ac C.length cc w0.heap.size (flatC CkM.cells C) rfl (H.out.ck.below (show Below w0.heap.size w0 _ from by assumption)) (flatC_one ckCells_one C) (by unfold maxLen; omega) (by omega) ?_; intro A3 c3 w7 ha3 hb7; have hb7q : Below w0.heap.size w0 w7 := bwP hb7 (by assumption); have hb67 : Below w6.heap.size w6 w7 := (by first | exact bwP hb7 (Below.refl _ _) | exact bwP hb7 (bwA (Below.refl _ _) _) | exact bwP hb7 (bwA (bwA (Below.refl _ _) _) _)); have HA3 := hide (And.intro ha3 hb67); clear ha3 hb7 hb67); simp only [Act.put, zA36, zB36, zC36]; refine lxB (by (first | assumption | exact r0.drew | exact bwA (by assumption) _ | exact (bwA r0 _).drew | exact (bwA (bwA r0 _) _).drew | exact (bwA (bwA (bwA r0 _) _) _).drew)) (fun hS1 => ?_)); (apply lxP (by rfl); (focus (intro w; go_simp; (try with_reducible rfl); done)); simp only [Act.put, zA36, zB36, zC36]); (refine lxF (by rfl) ?_; go_simp)
        refine lxN (fun _ => wqD (by kernel_rfl) ?_ _)
      rotate_left
      focus
        apply lxA (by simp only [List.getElem?_toArray, List.getElem?_cons_succ, List.getElem?_cons_zero]; rfl) (by rfl)
        go_simp
        refine lxB (by (first | assumption | exact r0.drew | exact bwA (by assumption) _ | exact (bwA r0 _).drew | exact (bwA (bwA r0 _) _).drew | exact (bwA (bwA (bwA r0 _) _) _).drew)) (fun hS1 => ?_)
        refine lxM 0 [(1, 3), (1, 7), (1, 11), (2, 14), (3, 15)] #[true, true, true, true, true, true, true, true, true, true, true, true, true, true, true, true] (by kernel_rfl) (by decide) (by kernel_rfl) (by kernel_rfl) (fun _ _ _ _ _ h => h) (fun _ => by assumption) ?_
        simp only [List.map_cons, List.map_nil, List.getElem?_toArray, List.getElem?_cons_succ, List.getElem?_cons_zero]
        (refine lxE (by rfl) ?_; (refine wp_app0 _ _ _ 27 rfl 3 i1 _ 1 8 Tryz.underlying27 hi1 hy0 hy1 hy2 rfl _ rfl rfl Ap 16 cp w0.heap.size S.picks rfl (H.out.pk.below (show Below w0.heap.size w0 _ from by assumption)) (picks_one S) (by unfold maxLen; omega) (by omega) ?_; intro A1 c1 w5 ha1 hb5; have hb5q : Below w0.heap.size w0 w5 := bwP hb5 (by assumption); have HA1 := hide ha1; clear ha1 hb5); simp only [Act.put, zA36, zB36, zC36]; refine lxB (by (first | assumption | exact r0.drew | exact bwA (by assumption) _ | exact (bwA r0 _).drew | exact (bwA (bwA r0 _) _).drew | exact (bwA (bwA (bwA r0 _) _) _).drew)) (fun hS1 => ?_)); (refine lxE (by rfl) ?_; (refine wp_app0 _ _ _ 28 rfl 43 i2 _ 8 80 Tryz.underlying28 hi2 hv0 hv1 hv2 rfl _ rfl rfl Av V.length cv w0.heap.size (flatC VoM.cells V) rfl (H.out.vo.below (show Below w0.heap.size w0 _ from by assumption)) (flatC_one voCells_one V) (by unfold maxLen; omega) (by omega) ?_; intro A2 c2 w6 ha2 hb6; have hb6q : Below w0.heap.size w0 w6 := bwP hb6 (by assumption); have hb56 : Below w5.heap.size w5 w6 := (by first | exact bwP hb6 (Below.refl _ _) | exact bwP hb6 (bwA (Below.refl _ _) _) | exact bwP hb6 (bwA (bwA (Below.refl _ _) _) _)); have HA2 := hide (And.intro ha2 hb56); clear ha2 hb6 hb56); simp only [Act.put, zA36, zB36, zC36]; refine lxB (by (first | assumption | exact r0.drew | exact bwA (by assumption) _ | exact (bwA r0 _).drew | exact (bwA (bwA r0 _) _).drew | exact (bwA (bwA (bwA r0 _) _) _).drew)) (fun hS1 => ?_)); (refine lxE (by rfl) ?_; (refine wp_app0 _ _ _ 29 rfl 47 i3 _ 5 72 Tryz.underlying29 hi3 hc0 hc1 hc2 rfl _ rfl rfl Ac C.length cc w0.heap.size (flatC CkM.cells C) rfl (H.out.ck.below (show Below w0.heap.size w0 _ from by assumption)) (flatC_one ckCells_one C) (by unfold maxLen; omega) (by omega) ?_; intro A3 c3 w7 ha3 hb7; have hb7q : Below w0.heap.size w0 w7 := bwP hb7 (by assumption); have hb67 : Below w6.heap.size w6 w7 := (by first | exact bwP hb7 (Below.refl _ _) | exact bwP hb7 (bwA (Below.refl _ _) _) | exact bwP hb7 (bwA (bwA (Below.refl _ _) _) _)); have HA3 := hide (And.intro ha3 hb67); clear ha3 hb7 hb67); simp only [Act.put, zA36, zB36, zC36]; refine lxB (by (first | assumption | exact r0.drew | exact bwA (by assumption) _ | exact (bwA r0 _).drew | exact (bwA (bwA r0 _) _).drew | exact (bwA (bwA (bwA r0 _) _) _).drew)) (fun hS1 => ?_)); (apply lxP (by rfl); (focus (intro w; go_simp; (try with_reducible rfl); done)); simp only [Act.put, zA36, zB36, zC36]); (refine lxF (by rfl) ?_; go_simp)
        refine lxN (fun _ => wqD (by kernel_rfl) ?_ _)
      rotate_left
    rotate_left 2
  rotate_left 8
  focus
    apply lxA (by simp only [List.getElem?_toArray, List.getElem?_cons_succ, List.getElem?_cons_zero]; rfl) (by rfl)
    go_simp
    refine lxB (by (first | assumption | exact r0.drew | exact bwA (by assumption) _ | exact (bwA r0 _).drew | exact (bwA (bwA r0 _) _).drew | exact (bwA (bwA (bwA r0 _) _) _).drew)) (fun hS1 => ?_)
    refine lxM 7 [] #[false, true, true, false, true, true, true, false, false, true, true, false, true, true, false, false] (by kernel_rfl) (by decide) (by kernel_rfl) (by kernel_rfl) (fun _ _ _ _ _ h => h) (fun _ => by assumption) ?_
    simp only [List.map_nil]
    refine lxN (fun hS2 => ?_)
    refine lexg_fork2 (i := 0) (j := 8) (by kernel_rfl) (by kernel_rfl : _ = #[true, true, true, false, true, true, true, false, false, true, true, false, true, true, false, false]) (by kernel_rfl : _ = #[false, true, true, false, true, true, true, false, true, true, true, false, true, true, false, false]) ?_ ?_
    focus
      apply lxA (by simp only [List.getElem?_toArray, List.getElem?_cons_succ, List.getElem?_cons_zero]; rfl) (by rfl)
      go_simp
      refine lxB (by (first | assumption | exact r0.drew | exact bwA (by assumption) _ | exact (bwA r0 _).drew | exact (bwA (bwA r0 _) _).drew | exact (bwA (bwA (bwA r0 _) _) _).drew)) (fun hS1 => ?_)
      refine lxM 6 [] #[true, true, true, false, true, true, true, false, false, true, true, false, true, true, false, false] (by kernel_rfl) (by decide) (by kernel_rfl) (by kernel_rfl) (fun _ _ _ _ _ h => h) (fun _ => by assumption) ?_
      simp only [List.map_nil]
      refine lxN (fun hS2 => ?_)
      refine lexg_fork2 (i := 3) (j := 8) (by kernel_rfl) (by kernel_rfl : _ = #[true, true, true, true, true, true, true, false, false, true, true, false, true, true, false, false]) (by kernel_rfl : _ = #[true, true, true, false, true, true, true, false, true, true, true, false, true, true, false, false]) ?_ ?_
      focus
        apply lxA (by simp only [List.getElem?_toArray, List.getElem?_cons_succ, List.getElem?_cons_zero]; rfl) (by rfl)
        (refine wp_app0 _ _ _ 27 rfl 3 i1 _ 1 8 Tryz.underlying27 hi1 hy0 hy1 hy2 rfl _ rfl rfl Ap 16 cp w0.heap.size S.picks rfl (H.out.pk.below (show Below w0.heap.size w0 _ from by assumption)) (picks_one S) (by unfold maxLen; omega) (by omega) ?_; intro A1 c1 w5 ha1 hb5; have hb5q : Below w0.heap.size w0 w5 := bwP hb5 (by assumption); have HA1 := hide ha1; clear ha1 hb5)
        simp only [Act.put, zA36, zB36, zC36]
        refine lxB (by (first | assumption | exact r0.drew | exact bwA (by assumption) _ | exact (bwA r0 _).drew | exact (bwA (bwA r0 _) _).drew | exact (bwA (bwA (bwA r0 _) _) _).drew)) (fun hS1 => ?_)
        refine lxM 5 [] #[true, true, true, true, true, true, true, false, false, true, true, false, true, true, false, false] (by kernel_rfl) (by decide) (by kernel_rfl) (by kernel_rfl) (fun _ _ _ _ _ h => h) (fun _ => by assumption) ?_
        simp only [List.map_nil]
        refine lxN (fun hS2 => ?_)
        refine lexg_fork2 (i := 7) (j := 8) (by kernel_rfl) (by kernel_rfl : _ = #[true, true, true, true, true, true, true, true, false, true, true, false, true, true, false, false]) (by kernel_rfl : _ = #[true, true, true, true, true, true, true, false, true, true, true, false, true, true, false, false]) ?_ ?_
        focus
          apply lxA (by simp only [List.getElem?_toArray, List.getElem?_cons_succ, List.getElem?_cons_zero]; rfl) (by rfl)
          (refine wp_app0 _ _ _ 28 rfl 43 i2 _ 8 80 Tryz.underlying28 hi2 hv0 hv1 hv2 rfl _ rfl rfl Av V.length cv w0.heap.size (flatC VoM.cells V) rfl (H.out.vo.below (show Below w0.heap.size w0 _ from by assumption)) (flatC_one voCells_one V) (by unfold maxLen; omega) (by omega) ?_; intro A2 c2 w6 ha2 hb6; have hb6q : Below w0.heap.size w0 w6 := bwP hb6 (by assumption); have hb56 : Below w5.heap.size w5 w6 := (by first | exact bwP hb6 (Below.refl _ _) | exact bwP hb6 (bwA (Below.refl _ _) _) | exact bwP hb6 (bwA (bwA (Below.refl _ _) _) _)); have HA2 := hide (And.intro ha2 hb56); clear ha2 hb6 hb56)
          simp only [Act.put, zA36, zB36, zC36]
          refine lxB (by (first | assumption | exact r0.drew | exact bwA (by assumption) _ | exact (bwA r0 _).drew | exact (bwA (bwA r0 _) _).drew | exact (bwA (bwA (bwA r0 _) _) _).drew)) (fun hS1 => ?_)
          refine lxM 0 [(1, 8), (1, 11), (2, 14), (3, 15)] #[true, true, true, true, true, true, true, true, true, true, true, true, true, true, true, true] (by kernel_rfl) (by decide) (by kernel_rfl) (by kernel_rfl) (fun _ _ _ _ _ h => h) (fun _ => by assumption) ?_
          simp only [List.map_cons, List.map_nil, List.getElem?_toArray, List.getElem?_cons_succ, List.getElem?_cons_zero]
          (refine lxE (by rfl) ?_; go_simp; refine lxB (by (first | assumption | exact r0.drew | exact bwA (by assumption) _ | exact (bwA r0 _).drew | exact (bwA (bwA r0 _) _).drew | exact (bwA (bwA (bwA r0 _) _) _).drew)) (fun hS1 => ?_)); (refine lxE (by rfl) ?_; (refine wp_app0 _ _ _ 29 rfl 47 i3 _ 5 72 Tryz.underlying29 hi3 hc0 hc1 hc2 rfl _ rfl rfl Ac C.length cc w0.heap.size (flatC CkM.cells C) rfl (H.out.ck.below (show Below w0.heap.size w0 _ from by assumption)) (flatC_one ckCells_one C) (by unfold maxLen; omega) (by omega) ?_; intro A3 c3 w7 ha3 hb7; have hb7q : Below w0.heap.size w0 w7 := bwP hb7 (by assumption); have hb67 : Below w6.heap.size w6 w7 := (by first | exact bwP hb7 (Below.refl _ _) | exact bwP hb7 (bwA (Below.refl _ _) _) | exact bwP hb7 (bwA (bwA (Below.refl _ _) _) _)); have HA3 := hide (And.intro ha3 hb67); clear ha3 hb7 hb67); simp only [Act.put, zA36, zB36, zC36]; refine lxB (by (first | assumption | exact r0.drew | exact bwA (by assumption) _ | exact (bwA r0 _).drew | exact (bwA (bwA r0 _) _).drew | exact (bwA (bwA (bwA r0 _) _) _).drew)) (fun hS1 => ?_)); (apply lxP (by rfl); (focus (intro w; go_simp; (try with_reducible rfl); done)); simp only [Act.put, zA36, zB36, zC36]); (refine lxF (by rfl) ?_; go_simp)
          refine lxN (fun _ => wqD (by kernel_rfl) ?_ _)
        rotate_left
        focus
          apply lxA (by simp only [List.getElem?_toArray, List.getElem?_cons_succ, List.getElem?_cons_zero]; rfl) (by rfl)
          go_simp
          refine lxB (by (first | assumption | exact r0.drew | exact bwA (by assumption) _ | exact (bwA r0 _).drew | exact (bwA (bwA r0 _) _).drew | exact (bwA (bwA (bwA r0 _) _) _).drew)) (fun hS1 => ?_)
          refine lxM 0 [(1, 7), (1, 11), (2, 14), (3, 15)] #[true, true, true, true, true, true, true, true, true, true, true, true, true, true, true, true] (by kernel_rfl) (by decide) (by kernel_rfl) (by kernel_rfl) (fun _ _ _ _ _ h => h) (fun _ => by assumption) ?_
          simp only [List.map_cons, List.map_nil, List.getElem?_toArray, List.getElem?_cons_succ, List.getElem?_cons_zero]
          (refine lxE (by rfl) ?_; (refine wp_app0 _ _ _ 28 rfl 43 i2 _ 8 80 Tryz.underlying28 hi2 hv0 hv1 hv2 rfl _ rfl rfl Av V.length cv w0.heap.size (flatC VoM.cells V) rfl (H.out.vo.below (show Below w0.heap.size w0 _ from by assumption)) (flatC_one voCells_one V) (by unfold maxLen; omega) (by omega) ?_; intro A2 c2 w6 ha2 hb6; have hb6q : Below w0.heap.size w0 w6 := bwP hb6 (by assumption); have hb56 : Below w5.heap.size w5 w6 := (by first | exact bwP hb6 (Below.refl _ _) | exact bwP hb6 (bwA (Below.refl _ _) _) | exact bwP hb6 (bwA (bwA (Below.refl _ _) _) _)); have HA2 := hide (And.intro ha2 hb56); clear ha2 hb6 hb56); simp only [Act.put, zA36, zB36, zC36]; refine lxB (by (first | assumption | exact r0.drew | exact bwA (by assumption) _ | exact (bwA r0 _).drew | exact (bwA (bwA r0 _) _).drew | exact (bwA (bwA (bwA r0 _) _) _).drew)) (fun hS1 => ?_)); (refine lxE (by rfl) ?_; (refine wp_app0 _ _ _ 29 rfl 47 i3 _ 5 72 Tryz.underlying29 hi3 hc0 hc1 hc2 rfl _ rfl rfl Ac C.length cc w0.heap.size (flatC CkM.cells C) rfl (H.out.ck.below (show Below w0.heap.size w0 _ from by assumption)) (flatC_one ckCells_one C) (by unfold maxLen; omega) (by omega) ?_; intro A3 c3 w7 ha3 hb7; have hb7q : Below w0.heap.size w0 w7 := bwP hb7 (by assumption); have hb67 : Below w6.heap.size w6 w7 := (by first | exact bwP hb7 (Below.refl _ _) | exact bwP hb7 (bwA (Below.refl _ _) _) | exact bwP hb7 (bwA (bwA (Below.refl _ _) _) _)); have HA3 := hide (And.intro ha3 hb67); clear ha3 hb7 hb67); simp only [Act.put, zA36, zB36, zC36]; refine lxB (by (first | assumption | exact r0.drew | exact bwA (by assumption) _ | exact (bwA r0 _).drew | exact (bwA (bwA r0 _) _).drew | exact (bwA (bwA (bwA r0 _) _) _).drew)) (fun hS1 => ?_)); (apply lxP (by rfl); (focus (intro w; go_simp; (try with_reducible rfl); done)); simp only [Act.put, zA36, zB36, zC36]); (refine lxF (by rfl) ?_; go_simp)
          refine lxN (fun _ => wqD (by kernel_rfl) ?_ _)
        rotate_left
      rotate_left 2
      focus
        apply lxA (by simp only [List.getElem?_toArray, List.getElem?_cons_succ, List.getElem?_cons_zero]; rfl) (by rfl)
        go_simp
        refine lxB (by (first | assumption | exact r0.drew | exact bwA (by assumption) _ | exact (bwA r0 _).drew | exact (bwA (bwA r0 _) _).drew | exact (bwA (bwA (bwA r0 _) _) _).drew)) (fun hS1 => ?_)
        refine lxM 0 [(1, 3), (1, 7), (1, 11), (2, 14), (3, 15)] #[true, true, true, true, true, true, true, true, true, true, true, true, true, true, true, true] (by kernel_rfl) (by decide) (by kernel_rfl) (by kernel_rfl) (fun _ _ _ _ _ h => h) (fun _ => by assumption) ?_
        simp only [List.map_cons, List.map_nil, List.getElem?_toArray, List.getElem?_cons_succ, List.getElem?_cons_zero]
        (refine lxE (by rfl) ?_; (refine wp_app0 _ _ _ 27 rfl 3 i1 _ 1 8 Tryz.underlying27 hi1 hy0 hy1 hy2 rfl _ rfl rfl Ap 16 cp w0.heap.size S.picks rfl (H.out.pk.below (show Below w0.heap.size w0 _ from by assumption)) (picks_one S) (by unfold maxLen; omega) (by omega) ?_; intro A1 c1 w5 ha1 hb5; have hb5q : Below w0.heap.size w0 w5 := bwP hb5 (by assumption); have HA1 := hide ha1; clear ha1 hb5); simp only [Act.put, zA36, zB36, zC36]; refine lxB (by (first | assumption | exact r0.drew | exact bwA (by assumption) _ | exact (bwA r0 _).drew | exact (bwA (bwA r0 _) _).drew | exact (bwA (bwA (bwA r0 _) _) _).drew)) (fun hS1 => ?_)); (refine lxE (by rfl) ?_; (refine wp_app0 _ _ _ 28 rfl 43 i2 _ 8 80 Tryz.underlying28 hi2 hv0 hv1 hv2 rfl _ rfl rfl Av V.length cv w0.heap.size (flatC VoM.cells V) rfl (H.out.vo.below (show Below w0.heap.size w0 _ from by assumption)) (flatC_one voCells_one V) (by unfold maxLen; omega) (by omega) ?_; intro A2 c2 w6 ha2 hb6; have hb6q : Below w0.heap.size w0 w6 := bwP hb6 (by assumption); have hb56 : Below w5.heap.size w5 w6 := (by first | exact bwP hb6 (Below.refl _ _) | exact bwP hb6 (bwA (Below.refl _ _) _) | exact bwP hb6 (bwA (bwA (Below.refl _ _) _) _)); have HA2 := hide (And.intro ha2 hb56); clear ha2 hb6 hb56); simp only [Act.put, zA36, zB36, zC36]; refine lxB (by (first | assumption | exact r0.drew | exact bwA (by assumption) _ | exact (bwA r0 _).drew | exact (bwA (bwA r0 _) _).drew | exact (bwA (bwA (bwA r0 _) _) _).drew)) (fun hS1 => ?_)); (refine lxE (by rfl) ?_; (refine wp_app0 _ _ _ 29 rfl 47 i3 _ 5 72 Tryz.underlying29 hi3 hc0 hc1 hc2 rfl _ rfl rfl Ac C.length cc w0.heap.size (flatC CkM.cells C) rfl (H.out.ck.below (show Below w0.heap.size w0 _ from by assumption)) (flatC_one ckCells_one C) (by unfold maxLen; omega) (by omega) ?_; intro A3 c3 w7 ha3 hb7; have hb7q : Below w0.heap.size w0 w7 := bwP hb7 (by assumption); have hb67 : Below w6.heap.size w6 w7 := (by first | exact bwP hb7 (Below.refl _ _) | exact bwP hb7 (bwA (Below.refl _ _) _) | exact bwP hb7 (bwA (bwA (Below.refl _ _) _) _)); have HA3 := hide (And.intro ha3 hb67); clear ha3 hb7 hb67); simp only [Act.put, zA36, zB36, zC36]; refine lxB (by (first | assumption | exact r0.drew | exact bwA (by assumption) _ | exact (bwA r0 _).drew | exact (bwA (bwA r0 _) _).drew | exact (bwA (bwA (bwA r0 _) _) _).drew)) (fun hS1 => ?_)); (apply lxP (by rfl); (focus (intro w; go_simp; (try with_reducible rfl); done)); simp only [Act.put, zA36, zB36, zC36]); (refine lxF (by rfl) ?_; go_simp)
        refine lxN (fun _ => wqD (by kernel_rfl) ?_ _)
      rotate_left
    rotate_left 3
    focus
      apply lxA (by simp only [List.getElem?_toArray, List.getElem?_cons_succ, List.getElem?_cons_zero]; rfl) (by rfl)
      go_simp
      refine lxB (by (first | assumption | exact r0.drew | exact bwA (by assumption) _ | exact (bwA r0 _).drew | exact (bwA (bwA r0 _) _).drew | exact (bwA (bwA (bwA r0 _) _) _).drew)) (fun hS1 => ?_)
      refine lxM 0 [(1, 0), (1, 3), (1, 7), (1, 11), (2, 14), (3, 15)] #[true, true, true, true, true, true, true, true, true, true, true, true, true, true, true, true] (by kernel_rfl) (by decide) (by kernel_rfl) (by kernel_rfl) (fun _ _ _ _ _ h => h) (fun _ => by assumption) ?_
      simp only [List.map_cons, List.map_nil, List.getElem?_toArray, List.getElem?_cons_succ, List.getElem?_cons_zero]
      (refine lxE (by rfl) ?_; go_simp; refine lxB (by (first | assumption | exact r0.drew | exact bwA (by assumption) _ | exact (bwA r0 _).drew | exact (bwA (bwA r0 _) _).drew | exact (bwA (bwA (bwA r0 _) _) _).drew)) (fun hS1 => ?_)); (refine lxE (by rfl) ?_; (refine wp_app0 _ _ _ 27 rfl 3 i1 _ 1 8 Tryz.underlying27 hi1 hy0 hy1 hy2 rfl _ rfl rfl Ap 16 cp w0.heap.size S.picks rfl (H.out.pk.below (show Below w0.heap.size w0 _ from by assumption)) (picks_one S) (by unfold maxLen; omega) (by omega) ?_; intro A1 c1 w5 ha1 hb5; have hb5q : Below w0.heap.size w0 w5 := bwP hb5 (by assumption); have HA1 := hide ha1; clear ha1 hb5); simp only [Act.put, zA36, zB36, zC36]; refine lxB (by (first | assumption | exact r0.drew | exact bwA (by assumption) _ | exact (bwA r0 _).drew | exact (bwA (bwA r0 _) _).drew | exact (bwA (bwA (bwA r0 _) _) _).drew)) (fun hS1 => ?_)); (refine lxE (by rfl) ?_; (refine wp_app0 _ _ _ 28 rfl 43 i2 _ 8 80 Tryz.underlying28 hi2 hv0 hv1 hv2 rfl _ rfl rfl Av V.length cv w0.heap.size (flatC VoM.cells V) rfl (H.out.vo.below (show Below w0.heap.size w0 _ from by assumption)) (flatC_one voCells_one V) (by unfold maxLen; omega) (by omega) ?_; intro A2 c2 w6 ha2 hb6; have hb6q : Below w0.heap.size w0 w6 := bwP hb6 (by assumption); have hb56 : Below w5.heap.size w5 w6 := (by first | exact bwP hb6 (Below.refl _ _) | exact bwP hb6 (bwA (Below.refl _ _) _) | exact bwP hb6 (bwA (bwA (Below.refl _ _) _) _)); have HA2 := hide (And.intro ha2 hb56); clear ha2 hb6 hb56); simp only [Act.put, zA36, zB36, zC36]; refine lxB (by (first | assumption | exact r0.drew | exact bwA (by assumption) _ | exact (bwA r0 _).drew | exact (bwA (bwA r0 _) _).drew | exact (bwA (bwA (bwA r0 _) _) _).drew)) (fun hS1 => ?_))
      (refine lxE (by rfl) ?_; (refine wp_app0 _ _ _ 29 rfl 47 i3 _ 5 72 Tryz.underlying29 hi3 hc0 hc1 hc2 rfl _ rfl rfl Ac C.length cc w0.heap.size (flatC CkM.cells C) rfl (H.out.ck.below (show Below w0.heap.size w0 _ from by assumption)) (flatC_one ckCells_one C) (by unfold maxLen; omega) (by omega) ?_; intro A3 c3 w7 ha3 hb7; have hb7q : Below w0.heap.size w0 w7 := bwP hb7 (by assumption); have hb67 : Below w6.heap.size w6 w7 := (by first | exact bwP hb7 (Below.refl _ _) | exact bwP hb7 (bwA (Below.refl _ _) _) | exact bwP hb7 (bwA (bwA (Below.refl _ _) _) _)); have HA3 := hide (And.intro ha3 hb67); clear ha3 hb7 hb67); simp only [Act.put, zA36, zB36, zC36]; refine lxB (by (first | assumption | exact r0.drew | exact bwA (by assumption) _ | exact (bwA r0 _).drew | exact (bwA (bwA r0 _) _).drew | exact (bwA (bwA (bwA r0 _) _) _).drew)) (fun hS1 => ?_)); (apply lxP (by rfl); (focus (intro w; go_simp; (try with_reducible rfl); done)); simp only [Act.put, zA36, zB36, zC36]); (refine lxF (by rfl) ?_; go_simp)
      refine lxN (fun _ => wqD (by kernel_rfl) ?_ _)
    rotate_left
  rotate_left 4
  focus
    apply lxA (by simp only [List.getElem?_toArray, List.getElem?_cons_succ, List.getElem?_cons_zero]; rfl) (by rfl)
    go_simp
    refine lxB (by (first | assumption | exact r0.drew | exact bwA (by assumption) _ | exact (bwA r0 _).drew | exact (bwA (bwA r0 _) _).drew | exact (bwA (bwA (bwA r0 _) _) _).drew)) (fun hS1 => ?_)
    refine lxM 7 [] #[false, true, true, false, false, true, true, false, true, true, true, false, true, true, false, false] (by kernel_rfl) (by decide) (by kernel_rfl) (by kernel_rfl) (fun _ _ _ _ _ h => h) (fun _ => by assumption) ?_
    simp only [List.map_nil]
    refine lxN (fun hS2 => ?_)
    refine lexg_fork2 (i := 0) (j := 4) (by kernel_rfl) (by kernel_rfl : _ = #[true, true, true, false, false, true, true, false, true, true, true, false, true, true, false, false]) (by kernel_rfl : _ = #[false, true, true, false, true, true, true, false, true, true, true, false, true, true, false, false]) ?_ ?_
    focus
      apply lxA (by simp only [List.getElem?_toArray, List.getElem?_cons_succ, List.getElem?_cons_zero]; rfl) (by rfl)
      go_simp
      refine lxB (by (first | assumption | exact r0.drew | exact bwA (by assumption) _ | exact (bwA r0 _).drew | exact (bwA (bwA r0 _) _).drew | exact (bwA (bwA (bwA r0 _) _) _).drew)) (fun hS1 => ?_)
      refine lxM 6 [] #[true, true, true, false, false, true, true, false, true, true, true, false, true, true, false, false] (by kernel_rfl) (by decide) (by kernel_rfl) (by kernel_rfl) (fun _ _ _ _ _ h => h) (fun _ => by assumption) ?_
      simp only [List.map_nil]
      refine lxN (fun hS2 => ?_)
      refine lexg_fork2 (i := 3) (j := 4) (by kernel_rfl) (by kernel_rfl : _ = #[true, true, true, true, false, true, true, false, true, true, true, false, true, true, false, false]) (by kernel_rfl : _ = #[true, true, true, false, true, true, true, false, true, true, true, false, true, true, false, false]) ?_ ?_
      focus
        apply lxA (by simp only [List.getElem?_toArray, List.getElem?_cons_succ, List.getElem?_cons_zero]; rfl) (by rfl)
        (refine wp_app0 _ _ _ 27 rfl 3 i1 _ 1 8 Tryz.underlying27 hi1 hy0 hy1 hy2 rfl _ rfl rfl Ap 16 cp w0.heap.size S.picks rfl (H.out.pk.below (show Below w0.heap.size w0 _ from by assumption)) (picks_one S) (by unfold maxLen; omega) (by omega) ?_; intro A1 c1 w5 ha1 hb5; have hb5q : Below w0.heap.size w0 w5 := bwP hb5 (by assumption); have HA1 := hide ha1; clear ha1 hb5)
        simp only [Act.put, zA36, zB36, zC36]
        refine lxB (by (first | assumption | exact r0.drew | exact bwA (by assumption) _ | exact (bwA r0 _).drew | exact (bwA (bwA r0 _) _).drew | exact (bwA (bwA (bwA r0 _) _) _).drew)) (fun hS1 => ?_)
        refine lxM 0 [(1, 4), (1, 7), (1, 11), (2, 14), (3, 15)] #[true, true, true, true, true, true, true, true, true, true, true, true, true, true, true, true] (by kernel_rfl) (by decide) (by kernel_rfl) (by kernel_rfl) (fun _ _ _ _ _ h => h) (fun _ => by assumption) ?_
        simp only [List.map_cons, List.map_nil, List.getElem?_toArray, List.getElem?_cons_succ, List.getElem?_cons_zero]
        (refine lxE (by rfl) ?_; go_simp; refine lxB (by (first | assumption | exact r0.drew | exact bwA (by assumption) _ | exact (bwA r0 _).drew | exact (bwA (bwA r0 _) _).drew | exact (bwA (bwA (bwA r0 _) _) _).drew)) (fun hS1 => ?_)); (refine lxE (by rfl) ?_; (refine wp_app0 _ _ _ 28 rfl 43 i2 _ 8 80 Tryz.underlying28 hi2 hv0 hv1 hv2 rfl _ rfl rfl Av V.length cv w0.heap.size (flatC VoM.cells V) rfl (H.out.vo.below (show Below w0.heap.size w0 _ from by assumption)) (flatC_one voCells_one V) (by unfold maxLen; omega) (by omega) ?_; intro A2 c2 w6 ha2 hb6; have hb6q : Below w0.heap.size w0 w6 := bwP hb6 (by assumption); have hb56 : Below w5.heap.size w5 w6 := (by first | exact bwP hb6 (Below.refl _ _) | exact bwP hb6 (bwA (Below.refl _ _) _) | exact bwP hb6 (bwA (bwA (Below.refl _ _) _) _)); have HA2 := hide (And.intro ha2 hb56); clear ha2 hb6 hb56); simp only [Act.put, zA36, zB36, zC36]; refine lxB (by (first | assumption | exact r0.drew | exact bwA (by assumption) _ | exact (bwA r0 _).drew | exact (bwA (bwA r0 _) _).drew | exact (bwA (bwA (bwA r0 _) _) _).drew)) (fun hS1 => ?_)); (refine lxE (by rfl) ?_; (refine wp_app0 _ _ _ 29 rfl 47 i3 _ 5 72 Tryz.underlying29 hi3 hc0 hc1 hc2 rfl _ rfl rfl Ac C.length cc w0.heap.size (flatC CkM.cells C) rfl (H.out.ck.below (show Below w0.heap.size w0 _ from by assumption)) (flatC_one ckCells_one C) (by unfold maxLen; omega) (by omega) ?_; intro A3 c3 w7 ha3 hb7; have hb7q : Below w0.heap.size w0 w7 := bwP hb7 (by assumption); have hb67 : Below w6.heap.size w6 w7 := (by first | exact bwP hb7 (Below.refl _ _) | exact bwP hb7 (bwA (Below.refl _ _) _) | exact bwP hb7 (bwA (bwA (Below.refl _ _) _) _)); have HA3 := hide (And.intro ha3 hb67); clear ha3 hb7 hb67); simp only [Act.put, zA36, zB36, zC36]; refine lxB (by (first | assumption | exact r0.drew | exact bwA (by assumption) _ | exact (bwA r0 _).drew | exact (bwA (bwA r0 _) _).drew | exact (bwA (bwA (bwA r0 _) _) _).drew)) (fun hS1 => ?_)); (apply lxP (by rfl); (focus (intro w; go_simp; (try with_reducible rfl); done)); simp only [Act.put, zA36, zB36, zC36]); (refine lxF (by rfl) ?_; go_simp)
        refine lxN (fun _ => wqD (by kernel_rfl) ?_ _)
      rotate_left
      focus
        apply lxA (by simp only [List.getElem?_toArray, List.getElem?_cons_succ, List.getElem?_cons_zero]; rfl) (by rfl)
        go_simp
        refine lxB (by (first | assumption | exact r0.drew | exact bwA (by assumption) _ | exact (bwA r0 _).drew | exact (bwA (bwA r0 _) _).drew | exact (bwA (bwA (bwA r0 _) _) _).drew)) (fun hS1 => ?_)
        refine lxM 0 [(1, 3), (1, 7), (1, 11), (2, 14), (3, 15)] #[true, true, true, true, true, true, true, true, true, true, true, true, true, true, true, true] (by kernel_rfl) (by decide) (by kernel_rfl) (by kernel_rfl) (fun _ _ _ _ _ h => h) (fun _ => by assumption) ?_
        simp only [List.map_cons, List.map_nil, List.getElem?_toArray, List.getElem?_cons_succ, List.getElem?_cons_zero]
        (refine lxE (by rfl) ?_; (refine wp_app0 _ _ _ 27 rfl 3 i1 _ 1 8 Tryz.underlying27 hi1 hy0 hy1 hy2 rfl _ rfl rfl Ap 16 cp w0.heap.size S.picks rfl (H.out.pk.below (show Below w0.heap.size w0 _ from by assumption)) (picks_one S) (by unfold maxLen; omega) (by omega) ?_; intro A1 c1 w5 ha1 hb5; have hb5q : Below w0.heap.size w0 w5 := bwP hb5 (by assumption); have HA1 := hide ha1; clear ha1 hb5); simp only [Act.put, zA36, zB36, zC36]; refine lxB (by (first | assumption | exact r0.drew | exact bwA (by assumption) _ | exact (bwA r0 _).drew | exact (bwA (bwA r0 _) _).drew | exact (bwA (bwA (bwA r0 _) _) _).drew)) (fun hS1 => ?_)); (refine lxE (by rfl) ?_; (refine wp_app0 _ _ _ 28 rfl 43 i2 _ 8 80 Tryz.underlying28 hi2 hv0 hv1 hv2 rfl _ rfl rfl Av V.length cv w0.heap.size (flatC VoM.cells V) rfl (H.out.vo.below (show Below w0.heap.size w0 _ from by assumption)) (flatC_one voCells_one V) (by unfold maxLen; omega) (by omega) ?_; intro A2 c2 w6 ha2 hb6; have hb6q : Below w0.heap.size w0 w6 := bwP hb6 (by assumption); have hb56 : Below w5.heap.size w5 w6 := (by first | exact bwP hb6 (Below.refl _ _) | exact bwP hb6 (bwA (Below.refl _ _) _) | exact bwP hb6 (bwA (bwA (Below.refl _ _) _) _)); have HA2 := hide (And.intro ha2 hb56); clear ha2 hb6 hb56); simp only [Act.put, zA36, zB36, zC36]; refine lxB (by (first | assumption | exact r0.drew | exact bwA (by assumption) _ | exact (bwA r0 _).drew | exact (bwA (bwA r0 _) _).drew | exact (bwA (bwA (bwA r0 _) _) _).drew)) (fun hS1 => ?_)); (refine lxE (by rfl) ?_; (refine wp_app0 _ _ _ 29 rfl 47 i3 _ 5 72 Tryz.underlying29 hi3 hc0 hc1 hc2 rfl _ rfl rfl Ac C.length cc w0.heap.size (flatC CkM.cells C) rfl (H.out.ck.below (show Below w0.heap.size w0 _ from by assumption)) (flatC_one ckCells_one C) (by unfold maxLen; omega) (by omega) ?_; intro A3 c3 w7 ha3 hb7; have hb7q : Below w0.heap.size w0 w7 := bwP hb7 (by assumption); have hb67 : Below w6.heap.size w6 w7 := (by first | exact bwP hb7 (Below.refl _ _) | exact bwP hb7 (bwA (Below.refl _ _) _) | exact bwP hb7 (bwA (bwA (Below.refl _ _) _) _)); have HA3 := hide (And.intro ha3 hb67); clear ha3 hb7 hb67); simp only [Act.put, zA36, zB36, zC36]; refine lxB (by (first | assumption | exact r0.drew | exact bwA (by assumption) _ | exact (bwA r0 _).drew | exact (bwA (bwA r0 _) _).drew | exact (bwA (bwA (bwA r0 _) _) _).drew)) (fun hS1 => ?_)); (apply lxP (by rfl); (focus (intro w; go_simp; (try with_reducible rfl); done)); simp only [Act.put, zA36, zB36, zC36]); (refine lxF (by rfl) ?_; go_simp)
        refine lxN (fun _ => wqD (by kernel_rfl) ?_ _)
      rotate_left
    rotate_left 2
    focus
      apply lxA (by simp only [List.getElem?_toArray, List.getElem?_cons_succ, List.getElem?_cons_zero]; rfl) (by rfl)
      go_simp
      refine lxB (by (first | assumption | exact r0.drew | exact bwA (by assumption) _ | exact (bwA r0 _).drew | exact (bwA (bwA r0 _) _).drew | exact (bwA (bwA (bwA r0 _) _) _).drew)) (fun hS1 => ?_)
      refine lxM 0 [(1, 0), (1, 3), (1, 7), (1, 11), (2, 14), (3, 15)] #[true, true, true, true, true, true, true, true, true, true, true, true, true, true, true, true] (by kernel_rfl) (by decide) (by kernel_rfl) (by kernel_rfl) (fun _ _ _ _ _ h => h) (fun _ => by assumption) ?_
      simp only [List.map_cons, List.map_nil, List.getElem?_toArray, List.getElem?_cons_succ, List.getElem?_cons_zero]
      (refine lxE (by rfl) ?_; go_simp; refine lxB (by (first | assumption | exact r0.drew | exact bwA (by assumption) _ | exact (bwA r0 _).drew | exact (bwA (bwA r0 _) _).drew | exact (bwA (bwA (bwA r0 _) _) _).drew)) (fun hS1 => ?_)); (refine lxE (by rfl) ?_; (refine wp_app0 _ _ _ 27 rfl 3 i1 _ 1 8 Tryz.underlying27 hi1 hy0 hy1 hy2 rfl _ rfl rfl Ap 16 cp w0.heap.size S.picks rfl (H.out.pk.below (show Below w0.heap.size w0 _ from by assumption)) (picks_one S) (by unfold maxLen; omega) (by omega) ?_; intro A1 c1 w5 ha1 hb5; have hb5q : Below w0.heap.size w0 w5 := bwP hb5 (by assumption); have HA1 := hide ha1; clear ha1 hb5); simp only [Act.put, zA36, zB36, zC36]; refine lxB (by (first | assumption | exact r0.drew | exact bwA (by assumption) _ | exact (bwA r0 _).drew | exact (bwA (bwA r0 _) _).drew | exact (bwA (bwA (bwA r0 _) _) _).drew)) (fun hS1 => ?_)); (refine lxE (by rfl) ?_; (refine wp_app0 _ _ _ 28 rfl 43 i2 _ 8 80 Tryz.underlying28 hi2 hv0 hv1 hv2 rfl _ rfl rfl Av V.length cv w0.heap.size (flatC VoM.cells V) rfl (H.out.vo.below (show Below w0.heap.size w0 _ from by assumption)) (flatC_one voCells_one V) (by unfold maxLen; omega) (by omega) ?_; intro A2 c2 w6 ha2 hb6; have hb6q : Below w0.heap.size w0 w6 := bwP hb6 (by assumption); have hb56 : Below w5.heap.size w5 w6 := (by first | exact bwP hb6 (Below.refl _ _) | exact bwP hb6 (bwA (Below.refl _ _) _) | exact bwP hb6 (bwA (bwA (Below.refl _ _) _) _)); have HA2 := hide (And.intro ha2 hb56); clear ha2 hb6 hb56); simp only [Act.put, zA36, zB36, zC36]; refine lxB (by (first | assumption | exact r0.drew | exact bwA (by assumption) _ | exact (bwA r0 _).drew | exact (bwA (bwA r0 _) _).drew | exact (bwA (bwA (bwA r0 _) _) _).drew)) (fun hS1 => ?_))
      (refine lxE (by rfl) ?_; (refine wp_app0 _ _ _ 29 rfl 47 i3 _ 5 72 Tryz.underlying29 hi3 hc0 hc1 hc2 rfl _ rfl rfl Ac C.length cc w0.heap.size (flatC CkM.cells C) rfl (H.out.ck.below (show Below w0.heap.size w0 _ from by assumption)) (flatC_one ckCells_one C) (by unfold maxLen; omega) (by omega) ?_; intro A3 c3 w7 ha3 hb7; have hb7q : Below w0.heap.size w0 w7 := bwP hb7 (by assumption); have hb67 : Below w6.heap.size w6 w7 := (by first | exact bwP hb7 (Below.refl _ _) | exact bwP hb7 (bwA (Below.refl _ _) _) | exact bwP hb7 (bwA (bwA (Below.refl _ _) _) _)); have HA3 := hide (And.intro ha3 hb67); clear ha3 hb7 hb67); simp only [Act.put, zA36, zB36, zC36]; refine lxB (by (first | assumption | exact r0.drew | exact bwA (by assumption) _ | exact (bwA r0 _).drew | exact (bwA (bwA r0 _) _).drew | exact (bwA (bwA (bwA r0 _) _) _).drew)) (fun hS1 => ?_)); (apply lxP (by rfl); (focus (intro w; go_simp; (try with_reducible rfl); done)); simp only [Act.put, zA36, zB36, zC36]); (refine lxF (by rfl) ?_; go_simp)
      refine lxN (fun _ => wqD (by kernel_rfl) ?_ _)
    rotate_left
  rotate_left 3
  all_goals
    rename_i hunm
    clear hunm
    have hr : w.heap.size + 1 < w0.heap.size := HD1.out.lt
    have hc : Chg [w.heap.size + 1] w7 ((((w7.setCell ⟨w.heap.size + 1, 0, none⟩ (.slice A1 16 c1)).setCell ⟨w.heap.size + 1, 1, none⟩ (.slice A2 V.length c2)).setCell ⟨w.heap.size + 1, 2, none⟩ (.slice A3 C.length c3)).setCell ⟨w.heap.size + 1, 3, none⟩ (.int .i64 nx)) :=
      ((((Chg.refl _ _).setCell (Or.inl (by simp)) _).setCell (Or.inl (by simp)) _).setCell (Or.inl (by simp)) _).setCell (Or.inl (by simp)) _
    have q1 := ((((HA1.out.below HA2.out.2).below HA3.out.2).chg hc (fun z hz => Nat.lt_of_lt_of_le (by rw [List.mem_singleton.1 hz]; exact hr) (Below.size (show Below w0.heap.size w0 _ from by assumption)))).back (Nat.le_trans HB0.out.size (Below.size (show Below w0.heap.size w0 _ from by assumption))))
    have q2 := (((HA2.out.1.below HA3.out.2).chg hc (fun z hz => Nat.lt_of_lt_of_le (by rw [List.mem_singleton.1 hz]; exact hr) (Below.size (show Below w0.heap.size w0 _ from by assumption)))).back (Nat.le_trans HB0.out.size (Below.size (show Below w0.heap.size w0 _ from by assumption))))
    have q3 := ((HA3.out.1.chg hc (fun z hz => Nat.lt_of_lt_of_le (by rw [List.mem_singleton.1 hz]; exact hr) (Below.size (show Below w0.heap.size w0 _ from by assumption)))).back (Nat.le_trans HB0.out.size (Below.size (show Below w0.heap.size w0 _ from by assumption))))
    have HQ := hide (And.intro q1 (And.intro q2 (And.intro q3 (Chg.onto (HB0.out.trans (hb7q.mono HB0.out.size)) (Nat.le_trans HB0.out.size hb7q.size) hc (fun z hz => by rw [List.mem_singleton.1 hz]; omega)))))
    have z0 := y0 w7 hb7q
    have z1 := y1 w7 hb7q
    have z2 := y2 w7 hb7q
    have z3 := y3 w7 hb7q
    clear q1 q2 q3 hc x0 x1 x2 x3 y0 y1 y2 y3 yf
    go_wp2
    refine bodyPost_ret (v := .agg #[.slice A1 16 c1, .slice A2 V.length c2, .slice A3 C.length c3, .int .i64 nx]) (by simp [results, Tryz.results21, go_sem, z0, z1, z2, z3]) rfl ?_
    exact ⟨A1, c1, A2, c2, A3, c3, _, _, _, rfl, HQ.out.1, HQ.out.2.1, HQ.out.2.2.1, HQ.out.2.2.2⟩
end Go.Proofs.YtcgecalbgkkinaaGreat

namespace Go.Proofs.YtcgecalbgkkinaaGreat
open Go.ChangeShapes Go.WideShapes Go.ChangeAt Go.RowKit Go.Joins Go.Deep Go.Maps
set_option linter.unusedVariables false
set_option linter.unusedSimpArgs false

/-- cells laid one behind another -/
def setAt (l : List Value) (o : Nat) : List Value → List Value
  | [] => l
  | c :: t => setAt (l.set o c) (o + 1) t
def setAtW (w : World) (g o : Nat) : List Value → World
  | [] => w
  | c :: t => setAtW (w.setCell ⟨g, o, none⟩ c) g (o + 1) t
theorem setAt_get : ∀ (cs l : List Value) (o i : Nat), o + cs.length ≤ l.length → (setAt l o cs)[i]? = if o ≤ i ∧ i < o + cs.length then cs[i - o]? else l[i]?
  | [], l, o, i, _ => by
    unfold setAt
    rw [if_neg (by simp only [List.length_nil]; omega)]
  | c :: t, l, o, i, h => by
    unfold setAt
    simp only [List.length_cons] at h ⊢
    rw [setAt_get t (l.set o c) (o + 1) i (by rw [List.length_set]; omega)]
    by_cases h1 : i = o
    · subst h1
      rw [if_neg (by omega), if_pos (by omega), List.getElem?_set_self (by omega), Nat.sub_self]
      rfl
    · rw [List.getElem?_set_ne (by omega)]
      by_cases h2 : o + 1 ≤ i ∧ i < o + 1 + t.length
      · rw [if_pos h2, if_pos (by omega)]
        obtain ⟨d, hd⟩ : ∃ d, i - o = d + 1 := ⟨i - o - 1, by omega⟩
        rw [hd, show i - (o + 1) = d by omega]
        rfl
      · rw [if_neg h2, if_neg (by omega)]
theorem flatC_setAt {α : Type} {f : α → List Value} {n : Nat} (hf : ∀ x, (f x).length = n) (L : List α) (k : Nat) (hk : k < L.length) (y : α) : setAt (flatC f L) (k * n) (f y) = flatC f (L.set k y) := by
  have hl := flatC_length hf L
  have hn : k * n + n ≤ L.length * n := by
    have := Nat.mul_le_mul_right n (Nat.succ_le_of_lt hk)
    rw [Nat.succ_mul] at this
    exact this
  apply List.ext_getElem?
  intro i
  rw [setAt_get _ _ _ _ (by rw [hf, hl]; exact hn), hf]
  by_cases hi : i < L.length * n
  · rcases Nat.eq_zero_or_pos n with h0 | h0
    · subst h0; omega
    · have hq : i / n < L.length := Nat.div_lt_of_lt_mul (by rw [Nat.mul_comm]; exact hi)
      have hr : i % n < n := Nat.mod_lt _ h0
      have e : i / n * n + i % n = i := by rw [Nat.mul_comm]; exact Nat.div_add_mod i n
      have h1 := flatC_get hf (L.set k y) (i / n) (i % n) (by simpa using hq) hr
      have h2 := flatC_get hf L (i / n) (i % n) hq hr
      rw [e] at h1 h2
      rw [h1]
      by_cases hc : i / n = k
      · have hlo : k * n ≤ i := by rw [← e, hc]; omega
        have hhi : i < k * n + n := by rw [← e, hc]; omega
        rw [if_pos ⟨hlo, hhi⟩]
        have : i - k * n = i % n := by rw [← hc]; omega
        rw [this]
        simp [List.getElem_set, hc]
      · rw [if_neg, h2]
        · simp [List.getElem_set, Ne.symm hc]
        · rintro ⟨h3, h4⟩
          apply hc
          have a1 : k ≤ i / n := (Nat.le_div_iff_mul_le h0).2 h3
          have a2 : i / n < k + 1 := Nat.div_lt_of_lt_mul (by rw [Nat.mul_comm, Nat.succ_mul]; exact h4)
          omega
  · rw [if_neg (by omega), List.getElem?_eq_none (by omega), List.getElem?_eq_none (by rw [flatC_length hf, List.length_set]; omega)]
theorem setAtW_chg : ∀ (cs : List Value) (w : World) (g o : Nat), Chg [g] w (setAtW w g o cs)
  | [], w, g, o => Chg.refl _ _
  | c :: t, w, g, o => ((Chg.refl [g] w).setCell (p := ⟨g, o, none⟩) (Or.inl (by simp)) c).same (setAtW_chg t _ g (o + 1))
theorem own_set {w : World} {t : TypeId} {n m c g q : Nat} {news : List Value} (h : w.ownsRow 0 t n (.slice (some ⟨g, 0, none⟩) m c) m news) (hm : 0 < m) (hq : q < m * n) (u : Value) :
    (w.setCell ⟨g, q, none⟩ u).ownsRow 0 t n (.slice (some ⟨g, 0, none⟩) m c) m (news.set q u) := by
  refine ⟨by rw [List.length_set]; exact h.1, ?_⟩
  rcases h.2 with ⟨e, _⟩ | ⟨g', cap, cur, e, hb, hgg, h1, h2, h3, h4⟩
  · cases e
  · cases e
    refine .inr ⟨g, c, cur.setIfInBounds q u, rfl, hb, ?_, h1, h2, by simpa using h3, ?_⟩
    · simp [World.setCell, Array.getElem?_modify, hgg]
    · rw [Array.toList_setIfInBounds, List.take_set, h4]
theorem own_setAt : ∀ (cs : List Value) {w : World} {t : TypeId} {n m c g q : Nat} {news : List Value}, w.ownsRow 0 t n (.slice (some ⟨g, 0, none⟩) m c) m news → 0 < m → q + cs.length ≤ m * n →
    (setAtW w g q cs).ownsRow 0 t n (.slice (some ⟨g, 0, none⟩) m c) m (setAt news q cs)
  | [], _, _, _, _, _, _, _, _, h, _, _ => h
  | x :: l, w, t, n, m, c, g, q, news, h, hm, hq => own_setAt l (own_set h hm (by simp only [List.length_cons] at hq; omega) x) hm (by simp only [List.length_cons] at hq; omega)
/-- a slice whose cells may be written -/
def OwnA (W w : World) (no : List Nat) (t : TypeId) (n : Nat) (A : Option Addr) (m c : Nat) (news : List Value) : Prop :=
  news.length = m * n ∧ (0 < m → ∃ g, A = some ⟨g, 0, none⟩ ∧ g ∈ no ∧ W.heap.size ≤ g ∧ w.ownsRow 0 t n (.slice A m c) m news)
section
variable {W w w' : World} {no no' : List Nat} {t : TypeId} {n m c : Nat} {A : Option Addr} {news : List Value}
theorem OwnA.rd (h : OwnA W w no t n A m c news) : Reads w w.heap.size n A m news := by
  rcases Nat.eq_zero_or_pos m with h0 | h0
  · exact ⟨h.1, fun hn => by omega⟩
  · obtain ⟨g, rfl, _, _, ho⟩ := h.2 h0
    obtain ⟨A2, c2, e2, _, _, _, _, h5⟩ := own_view ho
    cases e2
    exact h5 _ (fun g hg => own_lt ho hg)
theorem OwnA.chg (h : OwnA W w no t n A m c news) (hc : Chg no' w w') (hn : ∀ g, A = some ⟨g, 0, none⟩ → 0 < m → g ∉ no') : OwnA W w' no t n A m c news :=
  ⟨h.1, fun hm => by
    obtain ⟨g, rfl, h1, h2, h3⟩ := h.2 hm
    exact ⟨g, rfl, h1, h2, own_chg h3 hc (fun z hz hx => by
      rw [owS] at hz
      have e : g = z := by simpa using hz
      subst e
      exact hn g rfl hm hx)⟩⟩
theorem OwnA.below (h : OwnA W w no t n A m c news) (hb : Below w.heap.size w w') : OwnA W w' no t n A m c news := h.chg (no' := []) (Chg.of_below hb) (fun _ _ _ hx => by cases hx)
theorem OwnA.plus (h : OwnA W w no t n A m c news) (hs : ∀ x ∈ no, x ∈ no') : OwnA W w no' t n A m c news :=
  ⟨h.1, fun hm => by
    obtain ⟨g, rfl, h1, h2⟩ := h.2 hm
    exact ⟨g, rfl, hs g h1, h2⟩⟩
/-- two of them of other types are apart -/
theorem OwnA.ne {t' : TypeId} {n' m' c' g : Nat} {A' : Option Addr} {news' : List Value} (h : OwnA W w no t n A m c news) (h' : OwnA W w no t' n' A' m' c' news') (ht : t ≠ t') (hm : 0 < m) (hm' : 0 < m') (e : A = some ⟨g, 0, none⟩) : A' ≠ some ⟨g, 0, none⟩ := by
  intro e'
  obtain ⟨g1, rfl, _, _, h1⟩ := h.2 hm
  obtain ⟨g2, rfl, _, _, h2⟩ := h'.2 hm'
  cases e
  cases e'
  rcases h1.2 with ⟨x, _⟩ | ⟨a, _, _, e1, _, k1, _⟩
  · cases x
  rcases h2.2 with ⟨x, _⟩ | ⟨b, _, _, e2, _, k2, _⟩
  · cases x
  cases e1
  cases e2
  rw [k1] at k2
  simp only [Option.some.injEq, Obj.cells.injEq] at k2
  exact ht k2.2.1
end
/-- 'no': the outer blocks; 'av': what the inner slices avoid -/
structure DO (W w : World) (no av : List Nat) (x : DV) (S : Vst) : Prop where
  eV : x.V.map VoM.v = S.vs
  eC : x.C.map CkM.k = S.cs
  sV : ∀ y ∈ x.V, Sl w av y.A y.c y.v.ch
  sC : ∀ y ∈ x.C, Sl w av y.A y.c y.k.me ∧ Sl w av y.B y.d y.k.jo
  lt : ∀ g ∈ av, g < w.heap.size
  sub : ∀ g ∈ no, g ∈ av
  op : OwnA W w no 3 1 x.Ap 16 x.cp S.picks
  ov : OwnA W w no 43 8 x.Av x.V.length x.cv (flatC VoM.cells x.V)
  oc : OwnA W w no 47 5 x.Ac x.C.length x.cc (flatC CkM.cells x.C)
section
variable {W w w' : World} {no no' av av' : List Nat} {x : DV} {S : Vst}
theorem DO.dm (h : DO W w no av x S) : DM w av x S := ⟨h.op.rd, h.ov.rd, h.oc.rd, h.eV, h.eC, h.sV, h.sC⟩
theorem DO.below (h : DO W w no av x S) (hb : Below w.heap.size w w') : DO W w' no av x S :=
  ⟨h.eV, h.eC, fun y hy => (h.sV y hy).below hb, fun y hy => ⟨(h.sC y hy).1.below hb, (h.sC y hy).2.below hb⟩, fun g hg => Nat.lt_of_lt_of_le (h.lt g hg) hb.size, h.sub, h.op.below hb, h.ov.below hb, h.oc.below hb⟩
theorem DO.lenV (h : DO W w no av x S) : x.V.length = S.vs.length := by rw [← h.eV, List.length_map]
theorem DO.lenC (h : DO W w no av x S) : x.C.length = S.cs.length := by rw [← h.eC, List.length_map]
/-- s.Volumes[k] = y -/
theorem DO.setV (h : DO W w no av x S) {k g : Nat} (hk : k < x.V.length) (hg : x.Av = some ⟨g, 0, none⟩) (y : VoM) (hy : Sl w av y.A y.c y.v.ch) :
    DO W (setAtW w g (k * 8) y.cells) no av { x with V := x.V.set k y } { S with vs := S.vs.set k y.v } ∧ Chg [g] w (setAtW w g (k * 8) y.cells) ∧ g ∈ no ∧ W.heap.size ≤ g := by
  have hc := setAtW_chg y.cells w g (k * 8)
  have hV : 0 < x.V.length := by omega
  obtain ⟨g', e, hgn, hgW, ho⟩ := h.ov.2 hV
  rw [hg] at e
  cases e
  have hin : ∀ z ∈ [g], z ∈ av ∨ w.heap.size ≤ z := fun z hz => Or.inl (by rw [List.mem_singleton.1 hz]; exact h.sub _ hgn)
  refine ⟨⟨?_, h.eC, fun z hz => ?_, fun z hz => ⟨(h.sC z hz).1.chg hc hin, (h.sC z hz).2.chg hc hin⟩, fun z hz => Nat.lt_of_lt_of_le (h.lt z hz) hc.size, h.sub, ?_, ?_, ?_⟩, hc, hgn, hgW⟩
  · rw [List.map_set, h.eV]
  · rcases List.mem_or_eq_of_mem_set hz with hz | rfl
    · exact (h.sV z hz).chg hc hin
    · exact hy.chg hc hin
  · exact h.op.chg hc (fun g2 e2 hm => by
      have := h.ov.ne h.op (by decide) hV (by omega) hg
      rw [e2] at this
      simpa using fun e => this (by rw [e]))
  · refine ⟨by rw [flatC_length voLen, List.length_set], fun _ => ⟨g, hg, hgn, hgW, ?_⟩⟩
    rw [hg] at ho ⊢
    rw [← flatC_setAt voLen x.V k hk y, List.length_set]
    exact own_setAt y.cells ho hV (by rw [voLen]; have := Nat.mul_le_mul_right 8 (Nat.succ_le_of_lt hk); rw [Nat.succ_mul] at this; exact this)
  · exact h.oc.chg hc (fun g2 e2 hm => by
      have := h.ov.ne h.oc (by decide) hV hm hg
      rw [e2] at this
      simpa using fun e => this (by rw [e]))
/-- s.Chunks[k] = y -/
theorem DO.setC (h : DO W w no av x S) {k g : Nat} (hk : k < x.C.length) (hg : x.Ac = some ⟨g, 0, none⟩) (y : CkM) (hy : Sl w av y.A y.c y.k.me ∧ Sl w av y.B y.d y.k.jo) :
    DO W (setAtW w g (k * 5) y.cells) no av { x with C := x.C.set k y } { S with cs := S.cs.set k y.k } ∧ Chg [g] w (setAtW w g (k * 5) y.cells) ∧ g ∈ no ∧ W.heap.size ≤ g := by
  have hc := setAtW_chg y.cells w g (k * 5)
  have hC : 0 < x.C.length := by omega
  obtain ⟨g', e, hgn, hgW, ho⟩ := h.oc.2 hC
  rw [hg] at e
  cases e
  have hin : ∀ z ∈ [g], z ∈ av ∨ w.heap.size ≤ z := fun z hz => Or.inl (by rw [List.mem_singleton.1 hz]; exact h.sub _ hgn)
  refine ⟨⟨h.eV, ?_, fun z hz => (h.sV z hz).chg hc hin, fun z hz => ?_, fun z hz => Nat.lt_of_lt_of_le (h.lt z hz) hc.size, h.sub, ?_, ?_, ?_⟩, hc, hgn, hgW⟩
  · rw [List.map_set, h.eC]
  · rcases List.mem_or_eq_of_mem_set hz with hz | rfl
    · exact ⟨(h.sC z hz).1.chg hc hin, (h.sC z hz).2.chg hc hin⟩
    · exact ⟨hy.1.chg hc hin, hy.2.chg hc hin⟩
  · exact h.op.chg hc (fun g2 e2 hm => by
      have := h.oc.ne h.op (by decide) hC (by omega) hg
      rw [e2] at this
      simpa using fun e => this (by rw [e]))
  · exact h.ov.chg hc (fun g2 e2 hm => by
      have := h.oc.ne h.ov (by decide) hC hm hg
      rw [e2] at this
      simpa using fun e => this (by rw [e]))
  · refine ⟨by rw [flatC_length ckLen, List.length_set], fun _ => ⟨g, hg, hgn, hgW, ?_⟩⟩
    rw [hg] at ho ⊢
    rw [← flatC_setAt ckLen x.C k hk y, List.length_set]
    exact own_setAt y.cells ho hC (by rw [ckLen]; have := Nat.mul_le_mul_right 5 (Nat.succ_le_of_lt hk); rw [Nat.succ_mul] at this; exact this)
/-- s.Picks[k] = z: the state's servers turn to L -/
theorem DO.setP (h : DO W w no av x S) {k g : Nat} (hk : k < 16) (hg : x.Ap = some ⟨g, 0, none⟩) (z : Int) {L : List (Int × Int)} (hL : ({ S with sv := L } : Vst).picks = S.picks.set k (.int .i64 z)) :
    DO W (w.setCell ⟨g, k, none⟩ (.int .i64 z)) no av x { S with sv := L } ∧ Chg [g] w (w.setCell ⟨g, k, none⟩ (.int .i64 z)) ∧ g ∈ no ∧ W.heap.size ≤ g := by
  have hc := setAtW_chg [.int .i64 z] w g k
  obtain ⟨g', e, hgn, hgW, ho⟩ := h.op.2 (by omega)
  rw [hg] at e
  cases e
  have hin : ∀ z ∈ [g], z ∈ av ∨ w.heap.size ≤ z := fun z hz => Or.inl (by rw [List.mem_singleton.1 hz]; exact h.sub _ hgn)
  refine ⟨⟨h.eV, h.eC, fun z hz => (h.sV z hz).chg hc hin, fun z hz => ⟨(h.sC z hz).1.chg hc hin, (h.sC z hz).2.chg hc hin⟩, fun z hz => Nat.lt_of_lt_of_le (h.lt z hz) hc.size, h.sub, ?_, ?_, ?_⟩, hc, hgn, hgW⟩
  · refine ⟨by rw [picks_len], fun _ => ⟨g, hg, hgn, hgW, ?_⟩⟩
    rw [hg] at ho ⊢
    rw [hL]
    exact own_set ho (by omega) (by omega) _
  · exact h.ov.chg hc (fun g2 e2 hm => by
      have := h.op.ne h.ov (by decide) (by omega) hm hg
      rw [e2] at this
      simpa using fun e => this (by rw [e]))
  · exact h.oc.chg hc (fun g2 e2 hm => by
      have := h.op.ne h.oc (by decide) (by omega) hm hg
      rw [e2] at this
      simpa using fun e => this (by rw [e]))
/-- what is avoided, told anew -/
theorem DO.avoid (h : DO W w no av x S) (h1 : ∀ z ∈ av', z ∈ av ∨ w.heap.size ≤ z) (h2 : ∀ z ∈ no, z ∈ av') (hb : Below w.heap.size w w') (h3 : ∀ z ∈ av', z < w'.heap.size) : DO W w' no av' x S :=
  ⟨h.eV, h.eC, fun y hy => ((h.sV y hy).plus h1).below hb, fun y hy => ⟨((h.sC y hy).1.plus h1).below hb, ((h.sC y hy).2.plus h1).below hb⟩, h3, h2, h.op.below hb, h.ov.below hb, h.oc.below hb⟩
/-- blocks turn that are none of the outer ones, and are avoided -/
theorem DO.chg {L : List Nat} (h : DO W w no av x S) (hc : Chg L w w') (h1 : ∀ z ∈ L, z ∈ av ∨ w.heap.size ≤ z) (h2 : ∀ z ∈ L, z ∉ no) : DO W w' no av x S :=
  ⟨h.eV, h.eC, fun y hy => (h.sV y hy).chg hc h1, fun y hy => ⟨(h.sC y hy).1.chg hc h1, (h.sC y hy).2.chg hc h1⟩, fun z hz => Nat.lt_of_lt_of_le (h.lt z hz) hc.size, h.sub,
    h.op.chg hc (fun g e hm hx => by obtain ⟨g', e', hg, _⟩ := h.op.2 hm; rw [e] at e'; cases e'; exact h2 g hx hg),
    h.ov.chg hc (fun g e hm hx => by obtain ⟨g', e', hg, _⟩ := h.ov.2 hm; rw [e] at e'; cases e'; exact h2 g hx hg),
    h.oc.chg hc (fun g e hm hx => by obtain ⟨g', e', hg, _⟩ := h.oc.2 hm; rw [e] at e'; cases e'; exact h2 g hx hg)⟩
/-- other chunks, in a new slice -/
theorem DO.newC (h : DO W w no av x S) {C : List CkM} {g c : Nat} {cs : List Ck} (hW : W.heap.size ≤ w.heap.size) (hb : Below w.heap.size w w') (ho : w'.ownsRow 0 47 5 (.slice (some ⟨g, 0, none⟩) C.length c) C.length (flatC CkM.cells C)) (hg : w.heap.size ≤ g) (hgl : g < w'.heap.size)
    (hs : ∀ y ∈ C, y ∈ x.C ∨ (Sl w' (g :: av) y.A y.c y.k.me ∧ Sl w' (g :: av) y.B y.d y.k.jo)) (hcs : C.map CkM.k = cs) : DO W w' (g :: no) (g :: av) { x with C := C, Ac := some ⟨g, 0, none⟩, cc := c } { S with cs := cs } := by
  have h1 : ∀ z ∈ g :: av, z ∈ av ∨ w.heap.size ≤ z := fun z hz => (List.mem_cons.1 hz).elim (fun e => Or.inr (by omega)) Or.inl
  refine ⟨h.eV, hcs, fun y hy => ((h.sV y hy).plus h1).below hb, fun y hy => ?_, fun z hz => ?_, fun z hz => ?_, (h.op.plus (fun z hz => List.mem_cons_of_mem _ hz)).below hb, (h.ov.plus (fun z hz => List.mem_cons_of_mem _ hz)).below hb, ?_⟩
  · rcases hs y hy with hy | hy
    · exact ⟨((h.sC y hy).1.plus h1).below hb, ((h.sC y hy).2.plus h1).below hb⟩
    · exact hy
  · rcases List.mem_cons.1 hz with rfl | hz
    · exact hgl
    · exact Nat.lt_of_lt_of_le (h.lt z hz) hb.size
  · rcases List.mem_cons.1 hz with rfl | hz
    · exact List.mem_cons_self ..
    · exact List.mem_cons_of_mem _ (h.sub z hz)
  · exact ⟨flatC_length ckLen C, fun _ => ⟨g, rfl, List.mem_cons_self .., by omega, ho⟩⟩
theorem DO.newV (h : DO W w no av x S) {V : List VoM} {g c : Nat} {vs : List Vo} (hW : W.heap.size ≤ w.heap.size) (hb : Below w.heap.size w w') (ho : w'.ownsRow 0 43 8 (.slice (some ⟨g, 0, none⟩) V.length c) V.length (flatC VoM.cells V)) (hg : w.heap.size ≤ g) (hgl : g < w'.heap.size)
    (hs : ∀ y ∈ V, y ∈ x.V ∨ Sl w' (g :: av) y.A y.c y.v.ch) (hcs : V.map VoM.v = vs) : DO W w' (g :: no) (g :: av) { x with V := V, Av := some ⟨g, 0, none⟩, cv := c } { S with vs := vs } := by
  have h1 : ∀ z ∈ g :: av, z ∈ av ∨ w.heap.size ≤ z := fun z hz => (List.mem_cons.1 hz).elim (fun e => Or.inr (by omega)) Or.inl
  refine ⟨hcs, h.eC, fun y hy => ?_, fun y hy => ⟨((h.sC y hy).1.plus h1).below hb, ((h.sC y hy).2.plus h1).below hb⟩, fun z hz => ?_, fun z hz => ?_, (h.op.plus (fun z hz => List.mem_cons_of_mem _ hz)).below hb, ?_, (h.oc.plus (fun z hz => List.mem_cons_of_mem _ hz)).below hb⟩
  · rcases hs y hy with hy | hy
    · exact ((h.sV y hy).plus h1).below hb
    · exact hy
  · rcases List.mem_cons.1 hz with rfl | hz
    · exact hgl
    · exact Nat.lt_of_lt_of_le (h.lt z hz) hb.size
  · rcases List.mem_cons.1 hz with rfl | hz
    · exact List.mem_cons_self ..
    · exact List.mem_cons_of_mem _ (h.sub z hz)
  · exact ⟨flatC_length voLen V, fun _ => ⟨g, rfl, List.mem_cons_self .., by omega, ho⟩⟩
theorem DO.nx (h : DO W w no av x S) (z : Int) : DO W w no av x { S with nx := z } := ⟨h.eV, h.eC, h.sV, h.sC, h.lt, h.sub, h.op, h.ov, h.oc⟩
end
/-- append to an empty slice of one's own -/
theorem wp_app1 {P : Program} (w : World) {o : Oper} {ac : Act} {K : Act → World → Prop} {Q : Exit → Act → World → Prop} (s x : Operand) (t : TypeId)
    (ho : o.op = .call { callee := .builtin .append, args := #[s, x], argTypes := #[t, t] })
    (e : TypeId) (i : TypeInfo) (z : Value) (size bytes : Nat) (ht : P.underlying t = some (.slice e)) (hi : P.info? e = some i) (hz : i.zero = some z)
    (hsize : i.size = size) (hby : i.bytes = bytes) (hzs : z.cells.size = size) (g : Nat) (hB : Blk w g e [])
    (hs : ac.eval s = .slice (some ⟨g, 0, none⟩) 0 0) (A : Option Addr) (m c B : Nat) (news : List Value) (hx : ac.eval x = .slice A m c) (hR : Reads w B size A m news) (h1 : ∀ u ∈ news, u.oneCell' = true)
    (h63 : m ≤ maxLen) (hbytes : m * bytes ≤ 140737488355328)
    (h : ∀ g' cap w', w'.ownsRow 0 e size (.slice (some ⟨g', 0, none⟩) m cap) m news → Below w.heap.size w w' → (g' = g ∨ w.heap.size ≤ g') → g' < w'.heap.size → K (ac.put o.dst (.slice (some ⟨g', 0, none⟩) m cap)) w') : o.wp P ac w K Q := by
  refine wp_app0 (P := P) w s x t ho e i z size bytes ht hi hz hsize hby hzs ⟨g, 0, none⟩ rfl hs A m c B news hx hR h1 h63 hbytes ?_
  intro A' cap w' ha hb
  rcases Nat.eq_zero_or_pos m with h0 | h0
  · obtain ⟨rfl, rfl⟩ := ha.none h0
    subst h0
    have hn : news = [] := List.eq_nil_of_length_eq_zero (by simpa using ha.len)
    subst hn
    have hB' := hB.below hb
    exact h g 0 w' ⟨by simp, .inr ⟨g, 0, #[], rfl, Nat.zero_le _, hB', Nat.le_refl _, Nat.zero_le _, by simp, by simp⟩⟩ hb (Or.inl rfl) hB'.lt
  · obtain ⟨ho', g', rfl, hg⟩ := ha.own h0
    exact h g' cap w' ho' hb (Or.inr hg) (own_lt ho' rfl)
theorem wpl_app1 {P : Program} {ops : Array Oper} {rest : List Oper} (w : World) {o : Oper} {ac : Act} {Q : Exit → Act → World → Prop} (hgd : o.guard = none) (s x : Operand) (t : TypeId)
    (ho : o.op = .call { callee := .builtin .append, args := #[s, x], argTypes := #[t, t] })
    (e : TypeId) (i : TypeInfo) (z : Value) (size bytes : Nat) (ht : P.underlying t = some (.slice e)) (hi : P.info? e = some i) (hz : i.zero = some z)
    (hsize : i.size = size) (hby : i.bytes = bytes) (hzs : z.cells.size = size) (g : Nat) (hB : Blk w g e [])
    (hs : ac.eval s = .slice (some ⟨g, 0, none⟩) 0 0) (A : Option Addr) (m c B : Nat) (news : List Value) (hx : ac.eval x = .slice A m c) (hR : Reads w B size A m news) (h1 : ∀ u ∈ news, u.oneCell' = true)
    (h63 : m ≤ maxLen) (hbytes : m * bytes ≤ 140737488355328)
    (h : ∀ g' cap w', w'.ownsRow 0 e size (.slice (some ⟨g', 0, none⟩) m cap) m news → Below w.heap.size w w' → (g' = g ∨ w.heap.size ≤ g') → g' < w'.heap.size → wpList P ops Q rest (ac.put o.dst (.slice (some ⟨g', 0, none⟩) m cap)) w') : wpList P ops Q (o :: rest) ac w :=
  wpList_plain hgd fun _ hK => wp_app1 (P := P) w s x t ho e i z size bytes ht hi hz hsize hby hzs g hB hs A m c B news hx hR h1 h63 hbytes fun g' cap w' h2 h3 h4 h5 => hK _ _ (h g' cap w' h2 h3 h4 h5)
end Go.Proofs.YtcgecalbgkkinaaGreat

namespace Go.Proofs.YtcgecalbgkkinaaGreat
open Go.ChangeShapes Go.WideShapes Go.ChangeAt Go.RowKit Go.Joins Go.Deep Go.Maps
set_option linter.unusedVariables false
set_option linter.unusedSimpArgs false

theorem Blk.drewC5 {w : World} {b : Nat} {t : TypeId} {cs : List Value} (h : Blk w b t cs) : Blk w.drew b t cs := h
/-- where fill stands: its own state, its volume -/
structure FillSt (W w0 : World) (n0 a0 : List Nat) (wr : World) (bs br bv : Nat) (no av : List Nat) (x : DV) (S : Vst) (y : Vo) (g c : Nat) : Prop where
  ds : Blk wr bs 31 (x.cells S.nx)
  dr : Blk wr br 31 [.slice none 0 0, .slice none 0 0, .slice none 0 0, .int .i64 0]
  dv : Blk wr bv 43 (VoM.cells ⟨y, some ⟨g, 0, none⟩, c⟩)
  dd : DO W wr no av x S
  ow : wr.ownsRow 0 3 1 (.slice (some ⟨g, 0, none⟩) y.ch.length c) y.ch.length (y.ch.map (Value.int .i64))
  inn : bs ∈ av ∧ br ∈ av ∧ bv ∈ av ∧ g ∈ av
  out : bs ∉ no ∧ br ∉ no ∧ bv ∉ no ∧ g ∉ no
  ne : bs ≠ br ∧ bs ≠ bv ∧ br ≠ bv ∧ g ≠ bs ∧ g ≠ br ∧ g ≠ bv
  ge : W.heap.size ≤ bs ∧ W.heap.size ≤ br ∧ W.heap.size ≤ bv ∧ W.heap.size ≤ g
  bW : Below W.heap.size W wr
  cg : Chg n0 w0 wr
  nn : ∀ z ∈ no, z ∈ n0 ∨ w0.heap.size ≤ z
  gf : w0.heap.size ≤ bs ∧ w0.heap.size ≤ br ∧ w0.heap.size ≤ bv ∧ w0.heap.size ≤ g
  aa : ∀ z ∈ a0, z ∈ av
section
variable {W w0 wr w8 : World} {n0 a0 : List Nat} {bs br bv : Nat} {no av : List Nat} {x : DV} {S : Vst} {y : Vo} {g c : Nat}
theorem FillSt.lts (h : FillSt W w0 n0 a0 wr bs br bv no av x S y g c) : bs < wr.heap.size ∧ br < wr.heap.size ∧ bv < wr.heap.size ∧ g < wr.heap.size := ⟨h.ds.lt, h.dr.lt, h.dv.lt, h.dd.lt _ h.inn.2.2.2⟩
/-- one chunk more -/
theorem FillSt.moreC (h : FillSt W w0 n0 a0 wr bs br bv no av x S y g c) {g8 cap : Nat} {z : CkM} (hb : Below wr.heap.size wr w8) (ho : w8.ownsRow 0 47 5 (.slice (some ⟨g8, 0, none⟩) (x.C.length + 1) cap) (x.C.length + 1) (flatC CkM.cells x.C ++ z.cells)) (hg : wr.heap.size ≤ g8) (hgl : g8 < w8.heap.size)
    (hz : Sl w8 (g8 :: av) z.A z.c z.k.me ∧ Sl w8 (g8 :: av) z.B z.d z.k.jo) :
    FillSt W w0 n0 a0 (w8.setCell ⟨bs, 2, none⟩ (.slice (some ⟨g8, 0, none⟩) (x.C.length + 1) cap)) bs br bv (g8 :: no) (g8 :: av) { x with C := x.C ++ [z], Ac := some ⟨g8, 0, none⟩, cc := cap } { S with cs := S.cs ++ [z.k] } y g c := by
  obtain ⟨l1, l2, l3, l4⟩ := h.lts
  obtain ⟨n1, n2, n3, n4, n5, n6⟩ := h.ne
  have hc : Chg [bs] w8 (w8.setCell ⟨bs, 2, none⟩ (.slice (some ⟨g8, 0, none⟩) (x.C.length + 1) cap)) := (Chg.refl _ _).setCell (Or.inl (by simp)) _
  have hD := h.dd.newC (C := x.C ++ [z]) (cs := S.cs ++ [z.k]) (Below.size h.bW) hb (by rw [flatC_app, List.length_append]; simpa [flatC] using ho) hg hgl (fun q hq => by
    rcases List.mem_append.1 hq with hq | hq
    · exact Or.inl hq
    · rw [List.mem_singleton.1 hq]; exact Or.inr hz) (by rw [List.map_append, h.dd.eC]; rfl)
  refine ⟨?_, (h.dr.below hb).chg hc (by simp; omega), (h.dv.below hb).chg hc (by simp; omega), hD.chg hc (fun q hq => Or.inl (by rw [List.mem_singleton.1 hq]; exact List.mem_cons_of_mem _ h.inn.1)) (fun q hq hx => ?_), ?_, ?_, ?_, h.ne, h.ge, ?_, ((h.cg.below hb).trans hc (fun q hq => Or.inr (by rw [List.mem_singleton.1 hq]; exact h.gf.1))), (fun q hq => (List.mem_cons.1 hq).elim (fun e => Or.inr (by rw [e]; exact Nat.le_trans h.cg.size hg)) (h.nn q)), h.gf, (fun q hq => List.mem_cons_of_mem _ (h.aa q hq))⟩
  · have := (h.ds.below hb).set 2 (.slice (some ⟨g8, 0, none⟩) (x.C.length + 1) cap)
    unfold DV.cells at this ⊢
    rw [List.length_append]
    exact this
  · rw [List.mem_singleton.1 hq] at hx
    rcases List.mem_cons.1 hx with e | hx
    · omega
    · exact h.out.1 hx
  · exact own_chg (own_chg h.ow (Chg.of_below (L := []) hb) (fun _ _ hx => by cases hx)) hc (fun q hq => by
      rw [owS] at hq
      have e : g = q := by simpa using hq
      simp; omega)
  · exact ⟨List.mem_cons_of_mem _ h.inn.1, List.mem_cons_of_mem _ h.inn.2.1, List.mem_cons_of_mem _ h.inn.2.2.1, List.mem_cons_of_mem _ h.inn.2.2.2⟩
  · refine ⟨fun hx => ?_, fun hx => ?_, fun hx => ?_, fun hx => ?_⟩ <;> rcases List.mem_cons.1 hx with e | hx
    · omega
    · exact h.out.1 hx
    · omega
    · exact h.out.2.1 hx
    · omega
    · exact h.out.2.2.1 hx
    · omega
    · exact h.out.2.2.2 hx
  · exact Chg.onto (h.bW.trans (hb.mono h.bW.size)) (Nat.le_trans h.bW.size hb.size) hc (fun q hq => by rw [List.mem_singleton.1 hq]; exact h.ge.1)
/-- its number, behind the volume's chunks -/
theorem FillSt.moreK (h : FillSt W w0 n0 a0 wr bs br bv no av x S y g c) {g9 cap : Nat} {o : Obj} {w9 : World} {z : Int} (ho : w9.ownsRow 0 3 1 (.slice (some ⟨g9, 0, none⟩) (y.ch.length + 1) cap) (y.ch.length + 1) (y.ch.map (Value.int .i64) ++ [.int .i64 z]))
    (hch : Chg [g] (wr.alloc o) w9) (hor : g = g9 ∨ g9 = wr.heap.size + 1) (hgl : g9 < w9.heap.size) :
    FillSt W w0 n0 a0 (w9.setCell ⟨bv, 7, none⟩ (.slice (some ⟨g9, 0, none⟩) (y.ch.length + 1) cap)) bs br bv no (g9 :: av) x S { y with ch := y.ch ++ [z] } g9 cap := by
  obtain ⟨l1, l2, l3, l4⟩ := h.lts
  obtain ⟨n1, n2, n3, n4, n5, n6⟩ := h.ne
  have hc : Chg [bv] w9 (w9.setCell ⟨bv, 7, none⟩ (.slice (some ⟨g9, 0, none⟩) (y.ch.length + 1) cap)) := (Chg.refl _ _).setCell (Or.inl (by simp)) _
  have ha : Below wr.heap.size wr (wr.alloc o) := (Below.refl _ _).alloc (Nat.le_refl _) _
  have hsz : wr.heap.size + 1 ≤ w9.heap.size := by have := hch.size; simpa using this
  have hD := (((h.dd.below ha).chg hch (fun q hq => Or.inl (by rw [List.mem_singleton.1 hq]; exact h.inn.2.2.2)) (fun q hq hx => by rw [List.mem_singleton.1 hq] at hx; exact h.out.2.2.2 hx)))
  have hcc : Chg [g] wr w9 := (Chg.of_below (L := [g]) ha).trans hch (fun q hq => Or.inl hq)
  refine ⟨(h.ds.chg hcc (by simp; omega)).chg hc (by simp; omega), (h.dr.chg hcc (by simp; omega)).chg hc (by simp; omega), ?_, ?_, ?_, ?_, ?_, ?_, ?_, ?_, ((h.cg.trans hcc (fun q hq => Or.inr (by rw [List.mem_singleton.1 hq]; exact h.gf.2.2.2))).trans hc (fun q hq => Or.inr (by rw [List.mem_singleton.1 hq]; exact h.gf.2.2.1))), h.nn, (by have := h.gf; have := h.cg.size; omega), (fun q hq => List.mem_cons_of_mem _ (h.aa q hq))⟩
  · have := (h.dv.chg hcc (by simp; omega)).set 7 (.slice (some ⟨g9, 0, none⟩) (y.ch.length + 1) cap)
    unfold VoM.cells at this ⊢
    simp only [List.length_append, List.length_singleton]
    exact this
  · have hD2 : DO W w9 no (g9 :: av) x S := by
      refine ⟨hD.eV, hD.eC, fun q hq => ?_, fun q hq => ?_, fun q hq => ?_, fun q hq => List.mem_cons_of_mem _ (hD.sub q hq), hD.op, hD.ov, hD.oc⟩
      · exact (((h.dd.sV q hq).below ha).plus (no' := g9 :: av) (fun r hr => by
          rcases List.mem_cons.1 hr with rfl | hr
          · rcases hor with e | e
            · exact Or.inl (by rw [← e]; exact h.inn.2.2.2)
            · exact Or.inr (by simp; omega)
          · exact Or.inl hr)).chg hch (fun r hr => Or.inl (by rw [List.mem_singleton.1 hr]; exact List.mem_cons_of_mem _ h.inn.2.2.2))
      · exact ⟨(((h.dd.sC q hq).1.below ha).plus (no' := g9 :: av) (fun r hr => by
          rcases List.mem_cons.1 hr with rfl | hr
          · rcases hor with e | e
            · exact Or.inl (by rw [← e]; exact h.inn.2.2.2)
            · exact Or.inr (by simp; omega)
          · exact Or.inl hr)).chg hch (fun r hr => Or.inl (by rw [List.mem_singleton.1 hr]; exact List.mem_cons_of_mem _ h.inn.2.2.2)),
          (((h.dd.sC q hq).2.below ha).plus (no' := g9 :: av) (fun r hr => by
          rcases List.mem_cons.1 hr with rfl | hr
          · rcases hor with e | e
            · exact Or.inl (by rw [← e]; exact h.inn.2.2.2)
            · exact Or.inr (by simp; omega)
          · exact Or.inl hr)).chg hch (fun r hr => Or.inl (by rw [List.mem_singleton.1 hr]; exact List.mem_cons_of_mem _ h.inn.2.2.2))⟩
      · rcases List.mem_cons.1 hq with rfl | hq
        · exact hgl
        · exact hD.lt q hq
    exact hD2.chg hc (fun q hq => Or.inl (by rw [List.mem_singleton.1 hq]; exact List.mem_cons_of_mem _ h.inn.2.2.1)) (fun q hq hx => by rw [List.mem_singleton.1 hq] at hx; exact h.out.2.2.1 hx)
  · simp only [List.length_append, List.length_singleton, List.map_append, List.map_cons, List.map_nil]
    exact own_chg ho hc (fun q hq => by
      rw [owS] at hq
      have e : g9 = q := by simpa using hq
      simp; omega)
  · exact ⟨List.mem_cons_of_mem _ h.inn.1, List.mem_cons_of_mem _ h.inn.2.1, List.mem_cons_of_mem _ h.inn.2.2.1, List.mem_cons_self ..⟩
  · refine ⟨h.out.1, h.out.2.1, h.out.2.2.1, fun hx => ?_⟩
    rcases hor with e | e
    · rw [← e] at hx; exact h.out.2.2.2 hx
    · have := h.dd.lt _ (h.dd.sub _ hx); omega
  · omega
  · have := h.ge; have := h.bW.size; omega
  · exact Chg.onto (Chg.onto h.bW h.bW.size hcc (fun q hq => by rw [List.mem_singleton.1 hq]; exact h.ge.2.2.2)) (Nat.le_trans h.bW.size hcc.size) hc (fun q hq => by rw [List.mem_singleton.1 hq]; exact h.ge.2.2.1)
/-- the next number -/
theorem FillSt.next (h : FillSt W w0 n0 a0 wr bs br bv no av x S y g c) (z : Int) : FillSt W w0 n0 a0 (wr.setCell ⟨bs, 3, none⟩ (.int .i64 z)) bs br bv no av x { S with nx := z } y g c := by
  obtain ⟨l1, l2, l3, l4⟩ := h.lts
  obtain ⟨n1, n2, n3, n4, n5, n6⟩ := h.ne
  have hc : Chg [bs] wr (wr.setCell ⟨bs, 3, none⟩ (.int .i64 z)) := (Chg.refl _ _).setCell (Or.inl (by simp)) _
  refine ⟨h.ds.set 3 _, h.dr.chg hc (by simp; omega), h.dv.chg hc (by simp; omega), (h.dd.chg hc (fun q hq => Or.inl (by rw [List.mem_singleton.1 hq]; exact h.inn.1)) (fun q hq hx => by rw [List.mem_singleton.1 hq] at hx; exact h.out.1 hx)).nx z, ?_, h.inn, h.out, h.ne, h.ge, ?_, (h.cg.trans hc (fun q hq => Or.inr (by rw [List.mem_singleton.1 hq]; exact h.gf.1))), h.nn, h.gf, h.aa⟩
  · exact own_chg h.ow hc (fun q hq => by
      rw [owS] at hq
      have e : g = q := by simpa using hq
      simp; omega)
  · exact Chg.onto h.bW h.bW.size hc (fun q hq => by rw [List.mem_singleton.1 hq]; exact h.ge.1)
end
set_option maxHeartbeats 8000000 in
set_option maxRecDepth 100000 in
theorem dfill_calls (W w : World) (no av : List Nat) (x : DV) (S : Vst) (k cp : Nat) (y : VoM) (h : DO W w no av x S) (hbW : Below W.heap.size W w) (hk : k < x.V.length) (hy : x.V[k] = y) (so : SvOk S) (hids : ∀ z ∈ S.cs, z.id < S.nx) (hn : S.nx ≤ 100000) (h1 : 1 ≤ S.nx)
    (hb1 : 1 ≤ y.v.bl) (hb2 : y.v.bl ≤ 512) (hl : x.V.length ≤ 1000) (hlc : x.C.length ≤ 100000) (hcp : cp ≤ 100) (hch : y.v.ch.length ≤ ((y.v.bl + 7) / 8).toNat) :
    Calls Tryz.prog 49 #[x.val S.nx, .int .i64 k, .int .i64 cp] w fun e w' => ∃ x' : DV, e = .returned (x'.val (growN (lack y.v.bl y.v.ch) S y.v.id y.v.ch cp).1.nx) ∧
      (∃ no' av', DO W w' no' av' x' { (growN (lack y.v.bl y.v.ch) S y.v.id y.v.ch cp).1 with vs := S.vs.set k { y.v with ch := (growN (lack y.v.bl y.v.ch) S y.v.id y.v.ch cp).2 } } ∧ (∀ z ∈ no', z ∈ no ∨ w.heap.size ≤ z) ∧ (∀ z ∈ av, z ∈ av')) ∧ Below W.heap.size W w' ∧ Chg no w w' := by
  obtain ⟨i1, hi1, hp0, hp1, hp2⟩ := info_parts Tryz.infoI3
  obtain ⟨i3, hi3, hq0, hq1, hq2⟩ := info_parts Tryz.infoCk
  have HSO := hide so
  have HK := hide (And.intro hk hy)
  have HB := hide (And.intro hids (And.intro hn (And.intro h1 (And.intro hb1 (And.intro hb2 (And.intro hl (And.intro hlc hcp)))))))
  have HCH := hide hch
  clear so hids hn h1 hb1 hb2 hlc hch hl
  obtain ⟨Ap, cp', V, Av, cv, C, Ac, cc⟩ := x
  simp only [] at hk hy HB HK
  unfold DV.val DV.cells
  simp only []
  obtain ⟨w0, hw0⟩ : ∃ w0, (w.alloc (.cells #[.slice Ap 16 cp', .slice Av V.length cv, .slice Ac C.length cc, .int .i64 S.nx] 31)).alloc (.cells #[.slice none 0 0, .slice none 0 0, .slice none 0 0, .int .i64 0] 31) = w0 := ⟨_, rfl⟩
  have d0 : Blk w0 w.heap.size 31 [.slice Ap 16 cp', .slice Av V.length cv, .slice Ac C.length cc, .int .i64 S.nx] := hw0 ▸ (Blk.new rfl).alloc _
  have d1 : Blk w0 (w.heap.size + 1) 31 [.slice none 0 0, .slice none 0 0, .slice none 0 0, .int .i64 0] := hw0 ▸ Blk.new (by simp)
  have hb0 : Below w.heap.size w w0 := hw0 ▸ ((Below.refl _ _).alloc (Nat.le_refl _) _).alloc (by simp) _
  have hs0 : w0.heap.size = w.heap.size + 2 := by rw [← hw0]; simp
  have HH := hide h
  have H := hide (h.below hb0)
  obtain ⟨b, o, rfl, hbb, hcell⟩ := H.out.dm.atV (k := k) hk
  simp only [] at hcell
  rw [hy] at hcell
  have g0 : w0.cell? ⟨b, o + k * 8, none⟩ = some (.int .i64 y.v.id) := hcell w0 (Below.refl _ _) 0 (by omega)
  have g1 : w0.cell? ⟨b, o + k * 8 + 1, none⟩ = some (.int .i64 y.v.bl) := hcell w0 (Below.refl _ _) 1 (by omega)
  have g2 : w0.cell? ⟨b, o + k * 8 + 2, none⟩ = some (.int .i64 y.v.p.r) := hcell w0 (Below.refl _ _) 2 (by omega)
  have g3 : w0.cell? ⟨b, o + k * 8 + 3, none⟩ = some (.int .i64 y.v.p.w) := hcell w0 (Below.refl _ _) 3 (by omega)
  have g4 : w0.cell? ⟨b, o + k * 8 + 4, none⟩ = some (.int .i64 y.v.p.l) := hcell w0 (Below.refl _ _) 4 (by omega)
  have g5 : w0.cell? ⟨b, o + k * 8 + 5, none⟩ = some (.int .i64 y.v.p.b) := hcell w0 (Below.refl _ _) 5 (by omega)
  have g6 : w0.cell? ⟨b, o + k * 8 + 6, none⟩ = some (.int .i64 y.v.ver) := hcell w0 (Below.refl _ _) 6 (by omega)
  have g7 : w0.cell? ⟨b, o + k * 8 + 7, none⟩ = some (.slice y.A y.v.ch.length y.c) := hcell w0 (Below.refl _ _) 7 (by omega)
  have c1 : w0.cell? ⟨w.heap.size, 1, none⟩ = some (.slice (some ⟨b, o, none⟩) V.length cv) := d0.cell 1
  have k1 : (k : Int) < V.length := by omega
  have HSL := hide (H.out.sV y (by rw [← hy]; exact List.getElem_mem hk))
  have HD0 := hide (And.intro d0 (And.intro d1 (And.intro hb0 hs0)))
  have HW := hide hw0
  have HBW := hide hbW
  clear h d0 d1 hb0 hw0 hcell hy hbW hs0
  go_enter Tryz.func49, Tryz.ntmps49
  go_upto_region 1 with fail
  rw [HW.out]
  go_upto_region 2 with fail
  clear g0 g1 g2 g3 g4 g5 g6 g7 c1
  obtain ⟨⟨vid, vbl, ⟨vr, vw, vl, vb⟩, vver, vch⟩, yA, yc⟩ := y
  simp only [] at HB HSL HK HCH ⊢
  obtain ⟨w1, hw1⟩ : ∃ w1, w0.alloc (.cells #[.int .i64 vid, .int .i64 vbl, .int .i64 vr, .int .i64 vw, .int .i64 vl, .int .i64 vb, .int .i64 vver, .slice yA vch.length yc] 43) = w1 := ⟨_, rfl⟩
  have dv1 : Blk w1 w0.heap.size 43 [.int .i64 vid, .int .i64 vbl, .int .i64 vr, .int .i64 vw, .int .i64 vl, .int .i64 vb, .int .i64 vver, .slice yA vch.length yc] := hw1 ▸ Blk.new rfl
  have hb1 : Below w0.heap.size w0 w1 := hw1 ▸ (Below.refl _ _).alloc (Nat.le_refl _) _
  have HSL1 := hide (HSL.out.below hb1)
  have HB1 := hide hb1
  have DV1 := hide dv1
  have v7 : (w1.alloc (.cells #[] 3)).cell? ⟨w0.heap.size, 7, none⟩ = some (.slice yA vch.length yc) := (dv1.alloc _).cell 7
  have HW1 := hide hw1
  rw [hw1]
  clear hw1 dv1 hb1
  go_wp2_with (at_builtin; refine wpl_app1 _ rfl _ _ 27 rfl 3 i1 _ 1 8 Tryz.underlying27 hi1 hp0 hp1 hp2 rfl w1.heap.size (Blk.new (cs := []) rfl) rfl yA vch.length yc w1.heap.size (vch.map (Value.int .i64)) rfl (HSL1.out.rd.alloc (Nat.le_refl _) _) ?c1 ?c3 ?c4 ?_)
  case c1 => intro u hu; obtain ⟨z, _, rfl⟩ := List.mem_map.1 hu; rfl
  case c3 => have := HSL.out.ln; unfold maxLen; omega
  case c4 => have := HSL.out.ln; omega
  intro g c w2 ho2 hb2 hg2 hgl2
  have hs1 : w1.heap.size = w0.heap.size + 1 := by rw [← HW1.out]; simp
  obtain ⟨bs, hbs⟩ : ∃ bs, w.heap.size = bs := ⟨_, rfl⟩
  obtain ⟨br, hbr⟩ : ∃ br, w.heap.size + 1 = br := ⟨_, rfl⟩
  obtain ⟨bv, hbv⟩ : ∃ bv, w0.heap.size = bv := ⟨_, rfl⟩
  have hs0 := HD0.out.2.2.2
  have hb12 : Below w1.heap.size w1 w2 := ((Below.refl _ w1).alloc (Nat.le_refl _) _).trans (hb2.mono (by simp))
  have hb02 : Below w0.heap.size w0 w2 := HB1.out.trans (hb12.mono HB1.out.size)
  have hbw2 : Below w.heap.size w w2 := HD0.out.2.2.1.trans (hb02.mono HD0.out.2.2.1.size)
  have hWw := HBW.out.size
  have hlno : ∀ z ∈ no, z < w.heap.size := fun z hz => HH.out.lt z (HH.out.sub z hz)
  have e2 : Blk w2 bv 43 [.int .i64 vid, .int .i64 vbl, .int .i64 vr, .int .i64 vw, .int .i64 vl, .int .i64 vb, .int .i64 vver, .slice yA vch.length yc] := by rw [← hbv]; exact DV1.out.below hb12
  have c7 := e2.cell 7
  have f7 := e2.frozen 7
  simp only [List.getElem?_cons_succ, List.getElem?_cons_zero] at c7
  have hset : Chg [bv] w2 (w2.setCell ⟨bv, 7, none⟩ (.slice (some ⟨g, 0, none⟩) vch.length c)) := (Chg.refl _ _).setCell (Or.inl (by simp)) _
  have F0 : FillSt W w no av (w2.setCell ⟨bv, 7, none⟩ (.slice (some ⟨g, 0, none⟩) vch.length c)) bs br bv no (bs :: br :: bv :: g :: av) ⟨Ap, cp', V, some ⟨b, o, none⟩, cv, C, Ac, cc⟩ S ⟨vid, vbl, ⟨vr, vw, vl, vb⟩, vver, vch⟩ g c := by
    refine ⟨?_, ?_, ?_, ?_, ?_, by simp, ?_, by omega, by omega, ?_, ((Chg.of_below hbw2).trans hset (fun z hz => Or.inr (by rw [List.mem_singleton.1 hz]; omega))), (fun z hz => Or.inl hz), by omega, (fun z hz => by simp [hz])⟩
    · have := (HD0.out.1.below hb02).chg hset (by simp; omega)
      rw [hbs] at this
      exact this
    · have := (HD0.out.2.1.below hb02).chg hset (by simp; omega)
      rw [hbr] at this
      exact this
    · exact e2.set 7 _
    · refine (HH.out.avoid (av' := bs :: br :: bv :: g :: av) (fun z hz => ?_) (fun z hz => by simp [HH.out.sub z hz]) hbw2 (fun z hz => ?_)).chg hset (fun z hz => Or.inl (by simp at hz; simp [hz])) (fun z hz hx => ?_)
      · simp only [List.mem_cons] at hz
        rcases hz with rfl | rfl | rfl | rfl | hz
        · exact Or.inr (by omega)
        · exact Or.inr (by omega)
        · exact Or.inr (by omega)
        · exact Or.inr (by omega)
        · exact Or.inl hz
      · have h1 := hbw2.size
        have h2 := hb02.size
        have h3 := e2.lt
        simp only [List.mem_cons] at hz
        rcases hz with rfl | rfl | rfl | rfl | hz
        · omega
        · omega
        · omega
        · exact hgl2
        · have := HH.out.lt z hz; omega
      · have := hlno z hx
        simp at hz
        omega
    · exact own_chg ho2 hset (fun z hz => by
        rw [owS] at hz
        have e : g = z := by simpa using hz
        simp
        omega)
    · refine ⟨fun hx => ?_, fun hx => ?_, fun hx => ?_, fun hx => ?_⟩ <;> (have := hlno _ hx; omega)
    · exact Chg.onto (HBW.out.trans (hbw2.mono hWw)) (by have := hbw2.size; omega) hset (fun z hz => by simp at hz; omega)
  have HF0 := hide F0
  have HEQ := hide (And.intro hbs (And.intro hbr hbv))
  clear ho2 hb2 hg2 hgl2 hb12 hb02 hbw2 hlno e2 hset F0 hs1 hs0 v7
  rw [hbr, hbs, hbv]
  clear hbs hbr hbv
  go_wp2_with fail
  go_loopw [18, 19, 20, 21, 22, 23, 24, 25, 26, 27, 28, 29, 30, 31, 32, 33, 34, 35, 36, 37, 38, 39, 40, 41, 42, 43, 44, 45, 46, 47, 48, 49, 50, 51, 52, 53] (fun _ _ _ _ _ _ _ _ _ _ _ _ _ _ _ _ _ _ _ _ _ _ _ _ _ _ _ _ _ _ _ _ _ _ _ _ wr => ∃ (no' av' : List Nat) (x : DV) (S2 : Vst) (ch : List Int) (g c r : Nat), FillSt W w no av wr bs br bv no' av' x S2 ⟨vid, vbl, ⟨vr, vw, vl, vb⟩, vver, ch⟩ g c ∧ (∀ z ∈ S2.cs, z.id < S2.nx) ∧ growN r S2 vid ch cp = growN (lack vbl vch) S vid vch cp ∧ r = lack vbl ch ∧ ch.length ≤ ((vbl + 7) / 8).toNat ∧ x.V = V ∧ S2.vs = S.vs ∧ S2.sv = S.sv ∧ S2.nx + r = S.nx + lack vbl vch ∧ S.nx ≤ S2.nx ∧ x.C.length + r = C.length + lack vbl vch) (fun _ _ _ _ _ _ _ _ _ _ _ _ _ _ _ _ _ _ _ _ _ _ _ _ _ _ _ _ _ _ _ _ _ _ _ _ wr => measG wr bs (S.nx + lack vbl vch))
  case atStart => exact ⟨no, _, _, S, vch, g, c, _, HF0.out, HB.out.1, rfl, rfl, HCH.out, rfl, rfl, rfl, rfl, Int.le_refl _, rfl⟩
  case round =>
    obtain ⟨no2, av2, ⟨Ap2, cp2, V2, Av2, cv2, C2, Ac2, cc2⟩, S2, ch, g2, c2, r, hf, hids, hgr, hr, hcl, hV, hvs, hsv, hnx, hnx2, hCl⟩ := hrel
    simp only [] at hV hCl
    subst hV
    have HF := hide hf
    have HIDS := hide hids
    clear hids
    have HR := hide (And.intro hgr (And.intro hr (And.intro hcl (And.intro hvs (And.intro hsv (And.intro hnx (And.intro hnx2 hCl)))))))
    have HSO2 : Hid (SvOk S2) := hide ⟨by rw [hsv]; exact HSO.out.svr, by rw [hsv]; exact HSO.out.sva⟩
    have hlk : lack vbl vch ≤ 64 := by have := HB.out; unfold lack; omega
    have HLK := hide hlk
    clear hgr hr hcl hvs hsv hnx hnx2 hCl hlk
    have y1 := hf.dv.cell 1
    have y7 := hf.dv.cell 7
    simp only [VoM.cells, List.getElem?_cons_succ, List.getElem?_cons_zero] at y1 y7
    have hcb : ch.length ≤ 64 := by have := HR.out.2.2.1; have := HB.out; omega
    have hw8 : IntKind.i64.wrap (8 * (ch.length : Int)) = 8 * ch.length := IntWalk.i64_in _ (by omega)
    have HCB := hide hcb
    clear hcb hf
    by_cases hlt : 8 * (ch.length : Int) < vbl
    · obtain ⟨r', hr'⟩ : ∃ r', r = r' + 1 := ⟨r - 1, by have := HR.out.2.1; unfold lack at this; omega⟩
      subst hr'
      have q0 := HF.out.ds.rule 0 _ rfl
      have q1 := HF.out.ds.rule 1 _ rfl
      have q2 := HF.out.ds.rule 2 _ rfl
      have q3 := HF.out.ds.rule 3 _ rfl
      have u0 := HF.out.dv.rule 0 _ rfl
      have rq := (Below.refl wr.heap.size wr).drew
      have f2 : ∀ w', Below wr.heap.size wr w' → w'.frozen? ⟨bs, 2, none⟩ = false := fun w' hb => (HF.out.ds.below hb).frozen 2
      have HCNT := hide (fun w' (hb : Below wr.heap.size wr w') => dcount_calls w' av2 _ S2 S2.nx (HF.out.dd.dm.below hb) HSO2.out)
      obtain ⟨mm, hmm⟩ : ∃ mm : Nat, mm = min cp S2.sv.length := ⟨_, rfl⟩
      have hmm1 : (if (S2.sv.length : Int) < cp then (S2.sv.length : Int) else cp) = mm := by split <;> omega
      have hmm2 : min (cp : Int) (S2.sv.length : Int) = mm := by omega
      have hmm3 : mm ≤ S2.sv.length := by omega
      have hlx : C2.length ≤ 1000000 := by have := HR.out.2.2.2.2.2.2.2; have := HB.out.2.2.2.2.2.2.1; have := HLK.out; omega
      have HCHO := hide (fun w' (hb : Below wr.heap.size wr w') => dchoose_calls w' av2 _ S2 S2.nx mm (HF.out.dd.dm.below hb) HSO2.out hmm3 hlx)
      have HMM := hide (And.intro hmm (And.intro hmm1 (And.intro hmm2 (And.intro hmm3 hlx))))
      unfold DV.val DV.cells at HCNT HCHO
      clear hmm hmm3 hlx
      obtain ⟨sl, hsl⟩ : ∃ sl : Nat, S2.sv.length = sl := ⟨_, rfl⟩
      rw [hsl] at hmm1 hmm2 HCNT
      have HSL2 := hide hsl
      clear hsl
      go_wp2_with fail
      clear y1 y7
      refine lxR (fun w' => Below wr.heap.size wr w') [18] 0 [(2, 1), (0, 2), (2, 4), (0, 5), (2, 6), (0, 7), (0, 8), (2, 9), (0, 10), (1, 0), (1, 3), (1, 11), (2, 12), (1, 13), (2, 14), (1, 15), (1, 16), (2, 17), (3, 18)] #[true, true, true, true, true, true, true, true, true, true, true, true, true, true, true, true, true, true, true] (by kernel_rfl) (by kernel_rfl) (by decide) (by kernel_rfl) (by kernel_rfl) (fun _ _ _ _ _ h => h) (by (first | assumption | exact rq | exact (bwA (Below.refl _ wr) _).drew | exact bwA (by assumption) _)) (fun hS0 => ?_)
      simp only [List.map_cons, List.map_nil, List.getElem?_toArray, List.getElem?_cons_succ, List.getElem?_cons_zero]
      (apply lxP (by rfl); (focus (intro w; go_simp; (try with_reducible rfl); done)); simp only [Act.put, zA36, zB36, zC36]); (apply lxT (by rfl); (focus (intro w hw; (try dsimp only at hw); go_simp; (try with_reducible rfl); done)); simp only [Act.put, zA36, zB36, zC36]); (apply lxP (by rfl); (focus (intro w; go_simp; (try with_reducible rfl); done)); simp only [Act.put, zA36, zB36, zC36]); (apply lxT (by rfl); (focus (intro w hw; (try dsimp only at hw); go_simp; (try with_reducible rfl); done)); simp only [Act.put, zA36, zB36, zC36]); (apply lxP (by rfl); (focus (intro w; go_simp; (try with_reducible rfl); done)); simp only [Act.put, zA36, zB36, zC36]); (iterate 2 ((apply lxT (by rfl); (focus (intro w hw; (try dsimp only at hw); go_simp; (try with_reducible rfl); done)); simp only [Act.put, zA36, zB36, zC36]))); (apply lxP (by rfl); (focus (intro w; go_simp; (try with_reducible rfl); done)); simp only [Act.put, zA36, zB36, zC36]); (apply lxT (by rfl); (focus (intro w hw; (try dsimp only at hw); go_simp; (try with_reducible rfl); done)); simp only [Act.put, zA36, zB36, zC36]); (refine lxE (by rfl) ?_; go_simp; refine lxB (by (first | assumption | exact rq | exact (bwA (Below.refl _ wr) _).drew | exact bwA (by assumption) _)) (fun hS1 => ?_)); (refine lxE (by rfl) ?_; (refine wp_app1 _ _ _ 29 rfl 47 i3 _ 5 72 Tryz.underlying29 hi3 hq0 hq1 hq2 rfl wr.heap.size (by first | exact Blk.new (cs := []) rfl | exact Blk.drewC5 (Blk.new (cs := []) rfl)) rfl Ac2 C2.length cc2 wr.heap.size (flatC CkM.cells C2) rfl (HF.out.dd.oc.rd.below (show Below wr.heap.size wr _ from by assumption)) (flatC_one ckCells_one C2) (by have := HMM.out.2.2.2.2; unfold maxLen; omega) (by have := HMM.out.2.2.2.2; omega) ?_; intro g5 c5 w5 ho5 hb5 hg5 hgl5; have hb5q : Below wr.heap.size wr w5 := bwP hb5 (by assumption); have HO5 := hide (And.intro ho5 (And.intro hg5 hgl5)); clear ho5 hb5 hg5 hgl5); simp only [Act.put, zA36, zB36, zC36]; refine lxB (by (first | assumption | exact rq | exact (bwA (Below.refl _ wr) _).drew | exact bwA (by assumption) _)) (fun hS1 => ?_))
      (refine lxE (by rfl) ?_; go_simp; (first
                    | (go_at_call 48; refine (HCNT.out _ (by assumption)).mono ?_; rintro e w6 ⟨rfl, hb6⟩; have hb6q : Below wr.heap.size wr w6 := bwP hb6 (by assumption); have HB6 := hide hb6; clear hb6)
                    | (go_at_call 80; refine (HCHO.out _ (by assumption)).mono ?_; rintro e w7 ⟨A7, c7', rfl, ho7, hb7⟩; have hb7q : Below wr.heap.size wr w7 := bwP hb7 (by assumption); have HO7 := hide (And.intro ho7 hb7); clear ho7 hb7)); refine lxB (by (first | assumption | exact rq | exact (bwA (Below.refl _ wr) _).drew | exact bwA (by assumption) _)) (fun hS1 => ?_))
      (apply lxP (by rfl); (focus (intro w; go_simp; (try with_reducible rfl); done)); simp only [Act.put, zA36, zB36, zC36])
      (refine lxE (by rfl) ?_; go_simp; (first
                    | (go_at_call 48; refine (HCNT.out _ (by assumption)).mono ?_; rintro e w6 ⟨rfl, hb6⟩; have hb6q : Below wr.heap.size wr w6 := bwP hb6 (by assumption); have HB6 := hide hb6; clear hb6)
                    | (go_at_call 80; refine (HCHO.out _ (by assumption)).mono ?_; rintro e w7 ⟨A7, c7', rfl, ho7, hb7⟩; have hb7q : Below wr.heap.size wr w7 := bwP hb7 (by assumption); have HO7 := hide (And.intro ho7 hb7); clear ho7 hb7)); refine lxB (by (first | assumption | exact rq | exact (bwA (Below.refl _ wr) _).drew | exact bwA (by assumption) _)) (fun hS1 => ?_))
      (apply lxP (by rfl); (focus (intro w; go_simp; (try with_reducible rfl); done)); simp only [Act.put, zA36, zB36, zC36]); (refine lxE (by rfl) ?_; go_simp; refine lxB (by (first | assumption | exact rq | exact (bwA (Below.refl _ wr) _).drew | exact bwA (by assumption) _)) (fun hS1 => ?_)); (refine lxE (by rfl) ?_; (refine app_wp _ _ 29 rfl 47 i3 _ 5 72 Tryz.underlying29 hi3 hq0 hq1 hq2 rfl (by decide) (.slice (some ⟨g5, 0, none⟩) C2.length c5) C2.length (flatC CkM.cells C2) rfl (own_chg HO5.out.1 (Chg.of_below (L := []) (bwA (bwP HO7.out.2 HB6.out) _)) (fun _ _ hx => by cases hx)) w7.heap.size 1 1 [.int .i64 S2.nx, .int .i64 vid, .int .i64 1, .slice A7 mm c7', .slice none 0 0] rfl (Blk.new rfl) rfl (by intro u hu; simp at hu; rcases hu with rfl | rfl | rfl | rfl | rfl <;> rfl) (by decide) (by have := HMM.out.2.2.2.2; unfold maxLen; omega) (by have := HMM.out.2.2.2.2; omega) ?_; intro g8 cap8 w8 ho8 hch8 hor8 hgl8; rw [owS] at hch8 hor8; have H8 := hide (And.intro ho8 (And.intro hch8 (And.intro hor8 hgl8))); have hb8q : Below wr.heap.size wr w8 := Chg.onto (show Below wr.heap.size wr _ from by assumption) (Below.size (by assumption)) hch8 (fun q hq => by have h1 := HO5.out.2.1; simp at hq h1; omega); clear ho8 hch8 hor8 hgl8); simp only [Act.put, zA36, zB36, zC36]; refine lxB (by (first | assumption | exact rq | exact (bwA (Below.refl _ wr) _).drew | exact bwA (by assumption) _)) (fun hS1 => ?_)); (apply lxP (by rfl); (focus (intro w; go_simp; (try with_reducible rfl); done)); simp only [Act.put, zA36, zB36, zC36]); (refine lxF (by rfl) ?_; go_simp)
      refine lxN (fun _ => wqD (by kernel_rfl) ?_ _)
      rename_i hunm
      clear hunm
      have hcl : (chosen S2.loads (mm : Int)).length = mm := chosen_len2 (by have := HMM.out.2.2.2.1; have e : S2.loads.length = S2.sv.length := by simp [Vst.loads]
                                                                             omega)
      have hsz56 := Below.size HB6.out
      have hsz67 := Below.size HO7.out.2
      have hg5 : wr.heap.size ≤ g5 ∧ g5 < w6.heap.size := by have h1 := HO5.out.2; simp at h1; omega
      have hg8 : wr.heap.size ≤ g8 := by
        rcases H8.out.2.2.1 with e | e
        · have : g5 = g8 := by simpa using e
          omega
        · simp at e
          have := hb7q.size
          omega
      have hsl7 : Sl w8 (g8 :: av2) A7 c7' (chosen S2.loads (mm : Int)) := by
        have s1 := HO7.out.1.made.sl (no := g5 :: av2) (by rw [hcl]; have := HMM.out.1; have := HB.out.2.2.2.2.2.2.2; omega) (fun q hq => by
          rcases List.mem_cons.1 hq with rfl | hq
          · exact hg5.2
          · have := HF.out.dd.lt q hq
            have := hb6q.size
            omega)
        have s2 := (s1.below (bwA (Below.refl _ _) (.cells #[.int .i64 S2.nx, .int .i64 vid, .int .i64 1, .slice A7 mm c7', .slice none 0 0] 47))).plus (no' := g8 :: g5 :: av2) (fun q hq => by
          rcases List.mem_cons.1 hq with rfl | hq
          · rcases H8.out.2.2.1 with e | e
            · have : g5 = q := by simpa using e
              exact Or.inl (by rw [← this]; exact List.mem_cons_self ..)
            · exact Or.inr (Nat.le_of_eq e.symm)
          · exact Or.inl hq)
        exact (s2.chg H8.out.2.1 (fun q hq => Or.inl (by
          have e : q = g5 := by simpa using hq
          rw [e]
          simp))).sub (fun q hq => by
            rcases List.mem_cons.1 hq with rfl | hq
            · exact List.mem_cons_self ..
            · exact List.mem_cons_of_mem _ (List.mem_cons_of_mem _ hq))
      have F9 := HF.out.moreC (g8 := g8) (cap := cap8) (z := ⟨⟨S2.nx, vid, 1, chosen S2.loads (mm : Int), []⟩, A7, c7', none, 0⟩) hb8q (by
        have h1 := H8.out.1
        simp only [CkM.cells, hcl]
        exact h1) hg8 H8.out.2.2.2 ⟨hsl7, Sl.nil _ _ _⟩
      simp only [] at F9
      obtain ⟨w9, hw9⟩ : ∃ w9, w8.setCell ⟨bs, 2, none⟩ (.slice (some ⟨g8, 0, none⟩) (C2.length + 1) cap8) = w9 := ⟨_, rfl⟩
      rw [hw9] at F9
      rw [hw9]
      have HF9 := hide F9
      have HW9 := hide hw9
      have y7 := F9.dv.cell 7
      have yf := F9.dv.frozen 7
      have z3 := F9.ds.cell 3
      simp only [VoM.cells, DV.cells, List.getElem?_cons_succ, List.getElem?_cons_zero] at y7 z3
      have HOW := hide (own_chg F9.ow (Chg.of_below (L := []) ((Below.refl _ w9).alloc (Nat.le_refl _) (.cells #[.int .i64 S2.nx] 3))) (fun _ _ hx => by cases hx))
      clear hw9 F9 hsl7 hg8 hg5 hsz56 hsz67 hb5q hb6q hb7q hb8q hS0 hS1 q0 q1 q2 q3 u0 f2 rq
      go_wp2_with (at_builtin; refine app_law rfl _ _ 27 rfl 3 i1 _ 1 8 Tryz.underlying27 hi1 hp0 hp1 hp2 rfl (by decide) (.slice (some ⟨g2, 0, none⟩) ch.length c2) ch.length (ch.map (Value.int .i64)) rfl HOW.out w9.heap.size 1 1 [.int .i64 S2.nx] rfl (Blk.new rfl) rfl ?c1 (by decide) ?c3 ?c4 ?_)
      case c1 => first | rfl | (intro u hu; simp at hu; subst hu; rfl)
      case c3 => have := HCB.out; unfold maxLen; omega
      case c4 => have := HCB.out; omega
      intro g10 cap10 w10 ho10 hch10 hor10 hgl10
      rw [owS] at hch10 hor10
      have F11 := HF9.out.moreK (g9 := g10) (cap := cap10) (z := S2.nx) ho10 hch10 (by
        rcases hor10 with e | e
        · exact Or.inl (by simpa using e)
        · exact Or.inr (by simpa using e)) hgl10
      simp only [] at F11
      have hcx : Chg [g2] w9 w10 := (Chg.of_below (L := [g2]) ((Below.refl _ w9).alloc (Nat.le_refl _) (.cells #[.int .i64 S2.nx] 3))).trans hch10 (fun q hq => Or.inl hq)
      have y7' := (HF9.out.dv.chg hcx (by have := HF9.out.ne; simp; omega)).cell 7
      have yf' := (HF9.out.dv.chg hcx (by have := HF9.out.ne; simp; omega)).frozen 7
      simp only [VoM.cells, List.getElem?_cons_succ, List.getElem?_cons_zero] at y7'
      have HF11 := hide F11
      have z3' := F11.ds.cell 3
      have zf' := F11.ds.frozen 3
      simp only [DV.cells, List.getElem?_cons_succ, List.getElem?_cons_zero] at z3'
      have hnxw : IntKind.i64.wrap (S2.nx + 1) = S2.nx + 1 := IntWalk.i64_in _ (by have := HR.out.2.2.2.2.2.1; have := HR.out.2.2.2.2.2.2.1; have := HB.out; have := HLK.out; omega)
      have hins : ins Ck.id (⟨S2.nx, vid, 1, chosen S2.loads (min (cp : Int) S2.sv.length), []⟩ : Ck) S2.cs = S2.cs ++ [⟨S2.nx, vid, 1, chosen S2.loads (mm : Int), []⟩] := by
        rw [HSL2.out, hmm2]
        exact ins_last (fun q hq => HIDS.out q hq)
      have hgrow : growN (r' + 1) S2 vid ch cp = growN r' { S2 with cs := S2.cs ++ [⟨S2.nx, vid, 1, chosen S2.loads (mm : Int), []⟩], nx := S2.nx + 1 } vid (ch ++ [S2.nx]) cp := by
        rw [← hins]
        rfl
      have HGR := hide hgrow
      have hme : measG (wr) bs (S.nx + lack vbl vch) = r' + 1 := by
        have h1 := HF.out.ds.cell 3
        simp only [DV.cells, List.getElem?_cons_succ, List.getElem?_cons_zero] at h1
        unfold measG
        rw [h1]
        have := HR.out.2.2.2.2.2.1
        simp [intOf]
        omega
      have HME := hide hme
      have F12 := F11.next (S2.nx + 1)
      have HF12 := hide F12
      have hme2 : measG ((w10.setCell ⟨bv, 7, none⟩ (.slice (some ⟨g10, 0, none⟩) (ch.length + 1) cap10)).setCell ⟨bs, 3, none⟩ (.int .i64 (S2.nx + 1))) bs (S.nx + lack vbl vch) = r' := by
        have h1 := F12.ds.cell 3
        simp only [DV.cells, List.getElem?_cons_succ, List.getElem?_cons_zero] at h1
        unfold measG
        rw [h1]
        have := HR.out.2.2.2.2.2.1
        simp [intOf]
        omega
      have HME2 := hide hme2
      clear ho10 hch10 hor10 hgl10 hcx F11 F12 y7 yf z3 hins hgrow hme hme2 hmm1 hmm2
      go_wp2
      go_roundw
      case rel =>
        have h9 := HR.out
        refine ⟨g8 :: no2, g10 :: g8 :: av2, _, _, ch ++ [S2.nx], g10, cap10, r', HF12.out, fun q hq => ?_, by rw [← HGR.out]; exact h9.1, ?_, ?_, rfl, h9.2.2.2.1, h9.2.2.2.2.1, ?_, ?_, ?_⟩
        · rcases List.mem_append.1 hq with hq | hq
          · have := HIDS.out q hq; simp only []; omega
          · rw [List.mem_singleton.1 hq]; simp only []; omega
        · have := h9.2.1; unfold lack at this ⊢; simp only [List.length_append, List.length_singleton]; omega
        · have := h9.2.1; have := h9.2.2.1; unfold lack at *; simp only [List.length_append, List.length_singleton]; omega
        · have := h9.2.2.2.2.2.1; simp only []; omega
        · have := h9.2.2.2.2.2.2.1; simp only []; omega
        · have := h9.2.2.2.2.2.2.2; simp only [List.length_append, List.length_singleton]; omega
      case measure => rw [HME.out, HME2.out]; omega
    · have hr0 : r = 0 := by have := HR.out.2.1; unfold lack at this; omega
      subst hr0
      have hkV : k < V2.length := HK.out.1
      obtain ⟨gv, eAv, hgn, hgW, hov⟩ := HF.out.dd.ov.2 (show 0 < V2.length by omega)
      simp only [] at eAv hov
      subst eAv
      have hrd := HF.out.dd.dm.atV (k := k) hkV
      obtain ⟨b', o', e', hbb', hcell'⟩ := hrd
      simp only [Option.some.injEq, Addr.mk.injEq] at e'
      obtain ⟨rfl, rfl, _⟩ := e'
      have hw := hcell' wr (Below.refl _ _)
      simp only [Nat.zero_add] at hw
      have p0 : wr.cell? ⟨gv, k * 8, none⟩ = some (.int .i64 V2[k].v.id) := hw 0 (by omega)
      have p1 : wr.cell? ⟨gv, k * 8 + 1, none⟩ = some (.int .i64 V2[k].v.bl) := hw 1 (by omega)
      have p2 : wr.cell? ⟨gv, k * 8 + 2, none⟩ = some (.int .i64 V2[k].v.p.r) := hw 2 (by omega)
      have p3 : wr.cell? ⟨gv, k * 8 + 3, none⟩ = some (.int .i64 V2[k].v.p.w) := hw 3 (by omega)
      have p4 : wr.cell? ⟨gv, k * 8 + 4, none⟩ = some (.int .i64 V2[k].v.p.l) := hw 4 (by omega)
      have p5 : wr.cell? ⟨gv, k * 8 + 5, none⟩ = some (.int .i64 V2[k].v.p.b) := hw 5 (by omega)
      have p6 : wr.cell? ⟨gv, k * 8 + 6, none⟩ = some (.int .i64 V2[k].v.ver) := hw 6 (by omega)
      have p7 : wr.cell? ⟨gv, k * 8 + 7, none⟩ = some (.slice V2[k].A V2[k].v.ch.length V2[k].c) := hw 7 (by omega)
      have pf : ∀ i, wr.frozen? ⟨gv, i, none⟩ = false := by
        intro i
        rcases hov.2 with ⟨x, _⟩ | ⟨g', cap, cur, e, _, hgg, _⟩
        · cases x
        · cases e
          simp [World.frozen?, hgg]
      have s1 := HF.out.ds.cell 1
      have t0 := HF.out.dv.cell 0
      have t2 := HF.out.dv.cell 2
      have t3 := HF.out.dv.cell 3
      have t4 := HF.out.dv.cell 4
      have t5 := HF.out.dv.cell 5
      have t6 := HF.out.dv.cell 6
      simp only [VoM.cells, DV.cells, List.getElem?_cons_succ, List.getElem?_cons_zero] at s1 t0 t2 t3 t4 t5 t6
      have kV : (k : Int) < V2.length := by omega
      obtain ⟨y, hy⟩ : ∃ y, V2[k] = y := ⟨_, rfl⟩
      rw [hy] at p0 p1 p2 p3 p4 p5 p6 p7
      have HGV := hide (And.intro hgn hgW)
      clear hcell' hw hy hov hgn hgW hbb'
      go_upto_region 8 with fail
      obtain ⟨n1, n2, n3, n4, n5, n6⟩ := HF.out.ne
      obtain ⟨o1, o2, o3, o4⟩ := HF.out.out
      have hltA : ∀ z ∈ av, z < w.heap.size := HH.out.lt
      have hD1 : DO W wr no2 (bs :: br :: bv :: (no2 ++ av)) ⟨Ap2, cp2, V2, some ⟨gv, 0, none⟩, cv2, C2, Ac2, cc2⟩ S2 := HF.out.dd.avoid (fun z hz => by
        simp only [List.mem_cons] at hz
        rcases hz with rfl | rfl | rfl | hz
        · exact Or.inl HF.out.inn.1
        · exact Or.inl HF.out.inn.2.1
        · exact Or.inl HF.out.inn.2.2.1
        · exact (List.mem_append.1 hz).elim (fun hz => Or.inl (HF.out.dd.sub z hz)) (fun hz => Or.inl (HF.out.aa z hz))) (fun z hz => by simp [hz]) (Below.refl _ _) (fun z hz => by
        have hl := HF.out.lts
        simp only [List.mem_cons] at hz
        rcases hz with rfl | rfl | rfl | hz
        · exact hl.1
        · exact hl.2.1
        · exact hl.2.2.1
        · exact (List.mem_append.1 hz).elim (fun hz => HF.out.dd.lt z (HF.out.dd.sub z hz)) (fun hz => HF.out.dd.lt z (HF.out.aa z hz)))
      have hSl : Sl wr (bs :: br :: bv :: (no2 ++ av)) (some ⟨g2, 0, none⟩) c2 ch := by
        obtain ⟨A3, c3, e3, l1, l2, l3, l4, l5⟩ := own_view HF.out.ow
        cases e3
        refine ⟨l1, by have := HCB.out; omega, l5 _ (fun z hz => own_lt HF.out.ow hz), fun a ha => ?_⟩
        cases ha
        refine ⟨rfl, fun hx => ?_, HF.out.lts.2.2.2⟩
        simp only [List.mem_cons] at hx
        rcases hx with e | e | e | hx
        · omega
        · omega
        · omega
        · rcases List.mem_append.1 hx with hx | hx
          · exact o4 hx
          · have h1 := hltA _ hx; have h2 := HF.out.gf.2.2.2; omega
      obtain ⟨hS, hcg, hgn, hgW⟩ := hD1.setV (k := k) (g := gv) hkV rfl ⟨⟨vid, vbl, ⟨vr, vw, vl, vb⟩, vver, ch⟩, some ⟨g2, 0, none⟩, c2⟩ hSl
      simp only [] at hS
      obtain ⟨w13, hw13⟩ : ∃ w13, setAtW wr gv (k * 8) (VoM.cells ⟨⟨vid, vbl, ⟨vr, vw, vl, vb⟩, vver, ch⟩, some ⟨g2, 0, none⟩, c2⟩) = w13 := ⟨_, rfl⟩
      rw [hw13] at hS hcg
      have hch13 : ((((((((wr.setCell ⟨gv, k * 8, none⟩ (.int .i64 vid)).setCell ⟨gv, k * 8 + 1, none⟩ (.int .i64 vbl)).setCell ⟨gv, k * 8 + 2, none⟩ (.int .i64 vr)).setCell ⟨gv, k * 8 + 3, none⟩ (.int .i64 vw)).setCell ⟨gv, k * 8 + 4, none⟩ (.int .i64 vl)).setCell ⟨gv, k * 8 + 5, none⟩ (.int .i64 vb)).setCell ⟨gv, k * 8 + 6, none⟩ (.int .i64 vver)).setCell ⟨gv, k * 8 + 7, none⟩ (.slice (some ⟨g2, 0, none⟩) ch.length c2)) = w13 := hw13
      rw [hch13]
      have m1 : bs ∉ [gv] := fun hx => o1 (by rw [List.mem_singleton.1 hx]; exact hgn)
      have m2 : br ∉ [gv] := fun hx => o2 (by rw [List.mem_singleton.1 hx]; exact hgn)
      have ds13 := HF.out.ds.chg hcg m1
      have dr13 := HF.out.dr.chg hcg m2
      have a0 := ds13.cell 0
      have a1 := ds13.cell 1
      have a2 := ds13.cell 2
      have a3 := ds13.cell 3
      have b0 := dr13.cell 0
      have b1 := dr13.cell 1
      have b2 := dr13.cell 2
      have b3 := dr13.cell 3
      have bf := dr13.frozen
      simp only [DV.cells, List.getElem?_cons_succ, List.getElem?_cons_zero] at a0 a1 a2 a3 b0 b1 b2 b3
      have hc14 : Chg [br] w13 ((((w13.setCell ⟨br, 0, none⟩ (.slice Ap2 16 cp2)).setCell ⟨br, 1, none⟩ (.slice (some ⟨gv, 0, none⟩) V2.length cv2)).setCell ⟨br, 2, none⟩ (.slice Ac2 C2.length cc2)).setCell ⟨br, 3, none⟩ (.int .i64 S2.nx)) :=
        ((((Chg.refl _ _).setCell (Or.inl (by simp)) _).setCell (Or.inl (by simp)) _).setCell (Or.inl (by simp)) _).setCell (Or.inl (by simp)) _
      have hS14 := hS.chg hc14 (fun z hz => Or.inl (by rw [List.mem_singleton.1 hz]; simp)) (fun z hz hx => by rw [List.mem_singleton.1 hz] at hx; exact o2 hx)
      have hW14 : Below W.heap.size W _ := Chg.onto (Chg.onto HF.out.bW HF.out.bW.size hcg (fun z hz => by rw [List.mem_singleton.1 hz]; exact hgW)) (Nat.le_trans HF.out.bW.size hcg.size) hc14 (fun z hz => by rw [List.mem_singleton.1 hz]; exact HF.out.ge.2.1)
      have hG14 : Chg no w _ := (HF.out.cg.trans hcg (fun z hz => by rw [List.mem_singleton.1 hz]; exact HF.out.nn _ hgn)).trans hc14 (fun z hz => Or.inr (by rw [List.mem_singleton.1 hz]; exact HF.out.gf.2.1))
      have HFIN := hide (And.intro hS14 (And.intro hW14 hG14))
      have HNN : Hid ((∀ z ∈ no2, z ∈ no ∨ w.heap.size ≤ z) ∧ (∀ z ∈ av, z ∈ bs :: br :: bv :: (no2 ++ av))) := hide ⟨HF.out.nn, fun z hz => by simp [hz]⟩
      clear hD1 hSl hS hcg hgn hgW hw13 hch13 m1 m2 ds13 dr13 hc14 hS14 hW14 hG14 p0 p1 p2 p3 p4 p5 p6 p7 pf s1 t0 t2 t3 t4 t5 t6 n1 n2 n3 n4 n5 n6 o1 o2 o3 o4 y1 y7
      go_wp2
      refine bodyPost_ret (v := .agg #[.slice Ap2 16 cp2, .slice (some ⟨gv, 0, none⟩) V2.length cv2, .slice Ac2 C2.length cc2, .int .i64 S2.nx]) (by simp [results, Tryz.results49, go_sem, b0, b1, b2, b3]) rfl ?_
      have hg0 : (S2, ch) = growN (lack vbl vch) S vid vch cp := HR.out.1
      rw [← hg0]
      refine ⟨⟨Ap2, cp2, V2.set k ⟨⟨vid, vbl, ⟨vr, vw, vl, vb⟩, vver, ch⟩, some ⟨g2, 0, none⟩, c2⟩, some ⟨gv, 0, none⟩, cv2, C2, Ac2, cc2⟩, ?_, ⟨no2, _, by have h1 := HFIN.out.1; rw [HR.out.2.2.2.1] at h1; exact h1, HNN.out.1, HNN.out.2⟩, HFIN.out.2⟩
      simp only [List.length_set]
end Go.Proofs.YtcgecalbgkkinaaGreat
