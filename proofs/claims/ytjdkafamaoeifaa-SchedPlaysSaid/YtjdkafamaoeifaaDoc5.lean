/- The document of layer 12: Push. -/
import Derived.Test.YtjdkafamaoeifaaDoc4
import Derived.Test.YtjdkafamaoeifaaStand
namespace Go.Proofs.Ytjdkafamaoeifaa
open Go.RowKit Go.Proofs Go.Maps
set_option linter.unusedVariables false
set_option linter.unusedSimpArgs false

theorem min?_snoc (L : List Int) (a : Int) : (L ++ [a]).min? = some (match L.min? with | none => a | some m => min m a) := by
  cases L with
  | nil => rfl
  | cons x t =>
    rw [List.cons_append, List.min?_cons', List.min?_cons', List.foldl_append]
    rfl
theorem leastP_snoc (X : List Fl) (f : Fl) : leastP (X ++ [f]) = if up f = true then (if (X.any up) = true then min (leastP X) f.c.p else f.c.p) else leastP X := by
  unfold leastP
  rw [List.filter_append, List.map_append]
  cases hu : up f with
  | false => simp [hu]
  | true =>
    simp only [List.filter_cons, hu, if_true, List.filter_nil, List.map_cons, List.map_nil]
    rw [min?_snoc]
    cases ha : X.any up with
    | true =>
      obtain ⟨y, hy, hyu⟩ := List.any_eq_true.1 ha
      cases hm : ((X.filter up).map fun f => f.c.p).min? with
      | none =>
        rw [List.min?_eq_none_iff] at hm
        have : y.c.p ∈ (X.filter up).map fun f => f.c.p := List.mem_map.2 ⟨y, List.mem_filter.2 ⟨hy, hyu⟩, rfl⟩
        rw [hm] at this
        cases this
      | some m => simp
    | false =>
      have : (X.filter up) = [] := List.filter_eq_nil_iff.2 fun y hy h => by
        rw [List.any_eq_false] at ha
        exact ha y hy h
      rw [this]
      simp
set_option maxHeartbeats 4000000 in
set_option maxRecDepth 100000 in
theorem push12_none {w : World} {G : List Nat} {A : Option Addr} {n c : Nat} {D : List Dl} (id now : Int) (x : It) (h : Doc w G (.slice A n c) D) (hn : D.length = n) (hnn : n ≤ 1000000) (hno : ∀ d ∈ D, d.f.id ≠ id) :
    Calls Try.prog 25 #[.slice A n c, .int .i64 id, .agg #[.int .i64 x.name, .int .i64 x.delta, .int .i64 x.rho], .int .i64 now] w fun e w' => e = .returned (.tuple #[.slice A n c, .int .i64 7]) ∧ Below w.heap.size w w' := by
  have bb : Below w.heap.size w (w.alloc (.cells #[.int .i64 x.name, .int .i64 x.delta, .int .i64 x.rho] 36)) := (Below.refl _ _).alloc (Nat.le_refl _) _
  have HAT := hide (at12_calls id (h.below bb) hn hnn)
  have HNO := hide hno
  clear h hno
  go_enter Try.func25, Try.ntmps25
  go_wp2_with fail
  refine HAT.out.mono ?_
  rintro e w2 ⟨⟨z, rfl, hz⟩, rfl⟩
  obtain rfl : z = -1 := by
    rcases hz with ⟨h, _⟩ | ⟨i, hi, _, hDi⟩
    · exact h
    · exact absurd hDi (HNO.out _ (List.getElem_mem hi))
  clear hz
  go_wp2
  refine bodyPost_ret (v := .tuple #[.slice A n c, .int .i64 7]) (by simp [results, Try.results25, go_sem, *]) rfl ?_
  exact ⟨rfl, bb⟩
theorem Try.infoItm : (Try.prog.info? 36).map (fun i => (i.zero, i.size, i.bytes)) = some (some (.agg #[.int .i64 0, .int .i64 0, .int .i64 0]), 3, 24) := by kernel_rfl
theorem below_step {v u w2 : World} {L : List Nat} (hc : Chg L u w2) (hb : Below v.heap.size v u) (hL : ∀ z ∈ L, v.heap.size ≤ z) : Below v.heap.size v w2 := Chg.onto hb hb.size hc hL
theorem app_low {v u : World} {v1 : Value} {A2 : Option Addr} (or2 : ∀ g, A2.map Addr.block = some g → v1.ownBlock = some g ∨ g = u.heap.size) (hb : Below v.heap.size v u) (h1 : ∀ z, v1.ownBlock = some z → v.heap.size ≤ z) : ∀ z, A2.map Addr.block = some z → v.heap.size ≤ z := fun z hz => by
  rcases or2 z hz with h | h
  · exact h1 z h
  · have := hb.size; omega
theorem Blk.reads {w : World} {b n size B : Nat} {t : TypeId} {cs : List Value} (h : Blk w b t cs) (hl : cs.length = n * size) (hB : b < B) : Reads w B size (some ⟨b, 0, none⟩) n cs :=
  ⟨hl, fun _ => ⟨b, 0, rfl, hB, fun j u hu => by rw [Nat.zero_add, h.cell j]; exact hu⟩⟩
theorem Que.drewD {w : World} {e : TypeId} {size n : Nat} {v : Value} {xs : List Value} (h : Que w e size v n xs) : Que w.drew e size v n xs := h
theorem Blk.drewD {w : World} {b : Nat} {t : TypeId} {cs : List Value} (h : Blk w b t cs) : Blk w.drew b t cs := h
theorem Que.freshB {w : World} (e : TypeId) (size : Nat) {b : Nat} (hb : w.heap.size = b) : Que (w.alloc (.cells #[] e)) e size (.slice (some ⟨b, 0, none⟩) 0 0) 0 [] := by
  rw [← hb]
  exact Que.fresh w e size
theorem DocOut.from2 {w w1 w' : World} {G G2 : List Nat} {n : Nat} {D : List Dl} {v : Value} (h : DocOut w1 G2 n D v w') (hb : Below w.heap.size w w1) (hG : ∀ z ∈ G2, z ∈ G ∨ w.heap.size ≤ z) : DocOut w G n D v w' := by
  obtain ⟨A, c, G', rfl, hn, hd, hg, hb2⟩ := h
  refine ⟨A, c, G', rfl, hn, hd, fun z hz => ?_, hb.trans (hb2.mono hb.size)⟩
  rcases hg z hz with h | h
  · exact hG z h
  · exact Or.inr (Nat.le_trans hb.size h)
set_option maxHeartbeats 4000000 in
set_option maxRecDepth 100000 in
theorem push12_has {w : World} {G : List Nat} {A : Option Addr} {n c : Nat} {D : List Dl} (id now : Int) (x : It) (h : Doc w G (.slice A n c) D) (hn : D.length = n) (hnn : n ≤ 1000000) (hq : ∀ d ∈ D, d.f.q.length < 1024) (hex : ∃ d ∈ D, d.f.id = id) :
    Calls Try.prog 25 #[.slice A n c, .int .i64 id, .agg #[.int .i64 x.name, .int .i64 x.delta, .int .i64 x.rho], .int .i64 now] w fun e w' => ∃ i, ∃ hi : i < D.length, D[i].f.id = id ∧
      ∃ v A' c', e = .returned (.tuple #[v, .int .i64 0]) ∧ DocOut w G n (D.set i ⟨⟨D[i].f.id, D[i].f.ver, D[i].f.p, (if D[i].f.q = [] then wake D[i].f.c (at_ now) (leastP (D.map Dl.f)) else D[i].f.c), D[i].f.q ++ [x]⟩, A', c'⟩) v w' := by
  obtain ⟨i0, hi0, hz0, hz1, hz2⟩ := info_parts Try.infoItm
  subst hn
  have HQL := hide hq
  have HEX := hide hex
  have bb : Below w.heap.size w (w.alloc (.cells #[.int .i64 x.name, .int .i64 x.delta, .int .i64 x.rho] 36)) := (Below.refl _ _).alloc (Nat.le_refl _) _
  obtain ⟨w0, hw0⟩ : ∃ w0, w.alloc (.cells #[.int .i64 x.name, .int .i64 x.delta, .int .i64 x.rho] 36) = w0 := ⟨_, rfl⟩
  have B0 : Blk w0 w.heap.size 36 x.cells := by rw [← hw0]; exact Blk.new rfl
  rw [hw0] at bb
  have h0 := h.below bb
  have HAT := hide (at12_calls id h0 rfl hnn)
  have HW0 := hide hw0
  have HB0 := hide B0
  have H0 := hide h0
  have HR0 := hide bb
  clear h hq hex h0 bb B0
  go_enter Try.func25, Try.ntmps25
  have hn0 : w.alloc (.cells #[.int .i64 x.name, .int .i64 x.delta, .int .i64 x.rho] 36) = w0 := HW0.out
  clear hw0
  go_wp2_with fail
  refine HAT.out.mono ?_
  rintro e w2 ⟨⟨z, rfl, hz⟩, rfl⟩
  clear hn0
  rcases hz with ⟨_, hno⟩ | ⟨i, hi, rfl, hDi⟩
  · obtain ⟨d, hd, e⟩ := HEX.out
    exact absurd e (hno d hd)
  obtain ⟨b, o, c2, hv, hc1, hc2, hbb, hcell⟩ := H0.out.at_ hi
  injection hv with e1 _ e3
  subst e1 e3
  obtain ⟨d, hd⟩ : ∃ d, D[i] = d := ⟨_, rfl⟩
  have k0 : w0.cell? ⟨b, o + i * 10, none⟩ = some (.int .i64 d.f.id) := by
    have := hcell 0 (by omega)
    rw [hd] at this
    exact this
  have k1 : w0.cell? ⟨b, o + i * 10 + 1, none⟩ = some (.int .i64 d.f.ver) := by
    have := hcell 1 (by omega)
    rw [hd] at this
    exact this
  have k2 : w0.cell? ⟨b, o + i * 10 + 2, none⟩ = some (.int .i64 d.f.p.r) := by
    have := hcell 2 (by omega)
    rw [hd] at this
    exact this
  have k3 : w0.cell? ⟨b, o + i * 10 + 3, none⟩ = some (.int .i64 d.f.p.w) := by
    have := hcell 3 (by omega)
    rw [hd] at this
    exact this
  have k4 : w0.cell? ⟨b, o + i * 10 + 4, none⟩ = some (.int .i64 d.f.p.l) := by
    have := hcell 4 (by omega)
    rw [hd] at this
    exact this
  have k5 : w0.cell? ⟨b, o + i * 10 + 5, none⟩ = some (.int .i64 d.f.p.b) := by
    have := hcell 5 (by omega)
    rw [hd] at this
    exact this
  have k6 : w0.cell? ⟨b, o + i * 10 + 6, none⟩ = some (.int .i64 d.f.c.r) := by
    have := hcell 6 (by omega)
    rw [hd] at this
    exact this
  have k7 : w0.cell? ⟨b, o + i * 10 + 7, none⟩ = some (.int .i64 d.f.c.p) := by
    have := hcell 7 (by omega)
    rw [hd] at this
    exact this
  have k8 : w0.cell? ⟨b, o + i * 10 + 8, none⟩ = some (.int .i64 d.f.c.l) := by
    have := hcell 8 (by omega)
    rw [hd] at this
    exact this
  have k9 : w0.cell? ⟨b, o + i * 10 + 9, none⟩ = some (.slice d.A d.f.q.length d.c) := by
    have := hcell 9 (by omega)
    rw [hd] at this
    exact this
  have HDD := hide hd
  rw [hd] at hDi
  have hdm : d ∈ D := by rw [← hd]; exact List.getElem_mem hi
  have hql := HQL.out d hdm
  have HID := hide hDi
  have HDM := hide hdm
  have j1 : (i : Int) < D.length := by omega
  have j2 : ¬ ((i : Int) < 0) := by omega
  have j3 : (0 : Int) ≤ i := by omega
  have j4 : ¬ ((1024 : Int) ≤ d.f.q.length) := by omega
  clear hcell hd hDi hdm
  have bF : Below w0.heap.size w0 (w0.alloc (.cells (Dl.cells d).toArray 74)) := (Below.refl _ _).alloc (Nat.le_refl _) _
  have HF0 := hide (Blk.new (w := w0) (b := w0.heap.size) (cs := d.cells) (t := 74) rfl)
  have HBF := hide bF
  clear bF
  by_cases hq0 : d.f.q = []
  · have e0 : ((d.f.q.length : Int) == 0) = true := by rw [hq0]; rfl
    have HQ0 := hide hq0
    clear hq0
    go_wp2_with fail
    obtain ⟨v, hv⟩ : ∃ v, w0.alloc (.cells #[.int .i64 d.f.id, .int .i64 d.f.ver, .int .i64 d.f.p.r, .int .i64 d.f.p.w, .int .i64 d.f.p.l, .int .i64 d.f.p.b, .int .i64 d.f.c.r, .int .i64 d.f.c.p, .int .i64 d.f.c.l, .slice d.A d.f.q.length d.c] 74) = v := ⟨_, rfl⟩
    have hF : Blk v w0.heap.size 74 d.cells := by rw [← hv]; exact HF0.out
    have hbF : Below w0.heap.size w0 v := by rw [← hv]; exact HBF.out
    rw [hv]
    have HFV := hide hF
    have HBV0 := hide hbF
    have HBXV := hide (HB0.out.below hbF)
    have HDVV := hide (H0.out.below hbF)
    obtain ⟨Y, hY⟩ : ∃ Y, D.map Dl.f = Y := ⟨_, rfl⟩
    have hYl : Y.length = D.length := by rw [← hY, List.length_map]
    have HY := hide hY
    have HYL := hide hYl
    clear hv hF hbF k0 k1 k2 k3 k4 k5 k6 k7 k8 k9 HF0 HBF hY hYl
    go_loopw [12, 13, 14] (fun lv sv kv wr => ∃ k : Nat, k ≤ D.length ∧ kv = .int .i64 k ∧ lv = .int .i64 (leastP (Y.take k)) ∧ sv = .bool ((Y.take k).any up) ∧ v = wr) (fun _ _ kv _ => D.length - (intOf kv).toNat)
    case atStart => exact ⟨0, Nat.zero_le _, rfl, rfl, rfl, rfl⟩
    case round =>
      obtain ⟨k, hk, rfl, rfl, rfl, rfl⟩ := hrel
      by_cases hkl : k < D.length
      · obtain ⟨b', o', c', hv, _, _, hbb', hcell⟩ := HDVV.out.at_ hkl
        injection hv with e1 _ e3
        injection e1 with e1
        injection e1 with e1 e2
        subst e1 e2
        obtain ⟨y, hy⟩ : ∃ y, D[k] = y := ⟨_, rfl⟩
        have g9 : v.cell? ⟨b, o + k * 10 + 9, none⟩ = some (.slice y.A y.f.q.length y.c) := by
          have := hcell 9 (by omega)
          rw [hy] at this
          exact this
        have g7 : v.cell? ⟨b, o + k * 10 + 7, none⟩ = some (.int .i64 y.f.c.p) := by
          have := hcell 7 (by omega)
          rw [hy] at this
          exact this
        have m1 : (k : Int) < D.length := by omega
        have hst : Y.take (k + 1) = Y.take k ++ [y.f] := by
          have hky : k < Y.length := by rw [HYL.out]; exact hkl
          rw [List.take_succ_eq_append_getElem hky]
          congr 2
          rw [← hy]
          have h1 := HY.out
          subst h1
          simp
        have hls := leastP_snoc (Y.take k) y.f
        rw [← hst] at hls
        have has : (Y.take (k + 1)).any up = ((Y.take k).any up || up y.f) := by
          rw [hst, List.any_append]
          simp
        obtain ⟨lp, hlp⟩ : ∃ lp, leastP (Y.take k) = lp := ⟨_, rfl⟩
        obtain ⟨sp, hsp⟩ : ∃ sp, (Y.take k).any up = sp := ⟨_, rfl⟩
        rw [hlp, hsp] at hls
        rw [hsp] at has
        rw [hlp, hsp]
        have HLS := hide hls
        have HAS := hide has
        clear hcell hy hst hls has hlp hsp
        by_cases hu : y.f.q = []
        · have hup : up y.f = false := by simp [up, hu]
          have u0 : ¬ ((0 : Int) < y.f.q.length) := by rw [hu]; simp
          have HUP := hide hup
          clear hup hu
          go_wp2
          go_roundw
          case rel => exact ⟨_, _, _, ⟨k + 1, by omega, by go_num, by rw [HLS.out, HUP.out]; simp, by rw [HAS.out, HUP.out, Bool.or_false]⟩, rfl, rfl, rfl⟩
          case measure => simp [intOf]; omega
        · have hup : up y.f = true := by simp [up, hu]
          have u0 : (0 : Int) < y.f.q.length := by have := List.length_pos_iff.2 hu; omega
          have HUP := hide hup
          clear hup hu
          cases sp
          · go_wp2
            go_roundw
            case rel => exact ⟨_, _, _, ⟨k + 1, by omega, by go_num, by rw [HLS.out, HUP.out]; simp, by rw [HAS.out, HUP.out, Bool.or_true]⟩, rfl, rfl, rfl⟩
            case measure => simp [intOf]; omega
          · by_cases hlt : y.f.c.p < lp
            · go_wp2
              go_roundw
              case rel => exact ⟨_, _, _, ⟨k + 1, by omega, by go_num, by rw [HLS.out, HUP.out]; simp; omega, by rw [HAS.out, HUP.out, Bool.or_true]⟩, rfl, rfl, rfl⟩
              case measure => simp [intOf]; omega
            · go_wp2
              go_roundw
              case rel => exact ⟨_, _, _, ⟨k + 1, by omega, by go_num, by rw [HLS.out, HUP.out]; simp; omega, by rw [HAS.out, HUP.out, Bool.or_true]⟩, rfl, rfl, rfl⟩
              case measure => simp [intOf]; omega
      · have e : k = D.length := by omega
        have m1 : ¬ ((k : Int) < D.length) := by omega
        have hlp : Y.take k = Y := by rw [e, ← HYL.out, List.take_length]
        rw [hlp]
        obtain ⟨lp, hlpe⟩ : ∃ lp, leastP Y = lp := ⟨_, rfl⟩
        rw [hlpe]
        have HLP := hide hlpe
        clear e hlp hlpe
        go_wp2_with fail
        clear m1
        have c6 : ∀ w', Below v.heap.size v w' → w'.cell? ⟨w0.heap.size, 6, none⟩ = some (.int .i64 d.f.c.r) := HFV.out.rule 6 _ rfl
        have c7 : ∀ w', Below v.heap.size v w' → w'.cell? ⟨w0.heap.size, 7, none⟩ = some (.int .i64 d.f.c.p) := HFV.out.rule 7 _ rfl
        have c8 : ∀ w', Below v.heap.size v w' → w'.cell? ⟨w0.heap.size, 8, none⟩ = some (.int .i64 d.f.c.l) := HFV.out.rule 8 _ rfl
        have f6 : ∀ w', Below v.heap.size v w' → w'.frozen? ⟨w0.heap.size, 6, none⟩ = false := fun w' hb => (HFV.out.below hb).frozen 6
        have f7 : ∀ w', Below v.heap.size v w' → w'.frozen? ⟨w0.heap.size, 7, none⟩ = false := fun w' hb => (HFV.out.below hb).frozen 7
        have f8 : ∀ w', Below v.heap.size v w' → w'.frozen? ⟨w0.heap.size, 8, none⟩ = false := fun w' hb => (HFV.out.below hb).frozen 8
        have r0 := Below.refl v.heap.size v
        refine region_lexg (fun w' => Below v.heap.size v w') [7] 0 [(2, 0), (0, 1), (2, 2), (2, 4), (1, 3), (1, 5), (2, 6), (3, 7)] #[true, true, true, true, true, true, true, true] (by kernel_rfl) (by kernel_rfl) (by decide) (by kernel_rfl) (by kernel_rfl) (fun _ _ _ _ _ h => h) (by (first | exact r0.drew | exact hbw)) (fun hS0 => ?_)
        simp only [List.map_cons, List.map_nil, List.getElem?_toArray, List.getElem?_cons_succ, List.getElem?_cons_zero]
        (apply lexg_pure (by rfl); (focus (intro w; go_simp; (try with_reducible rfl); done)); simp only [Act.put, List.setIfInBounds_toArray, List.set_cons_zero, List.set_cons_succ])
        (apply lexg_take (by rfl); (focus (intro w hw; (try dsimp only at hw); go_simp; (try with_reducible rfl); done)); simp only [Act.put, List.setIfInBounds_toArray, List.set_cons_zero, List.set_cons_succ])
        (apply lexg_pure (by rfl); (focus (intro w; go_simp; (try with_reducible rfl); done)); simp only [Act.put, List.setIfInBounds_toArray, List.set_cons_zero, List.set_cons_succ])
        (apply lexg_pure (by rfl); (focus (intro w; go_simp; (try with_reducible rfl); done)); simp only [Act.put, List.setIfInBounds_toArray, List.set_cons_zero, List.set_cons_succ])
        (refine lexg_eff (by rfl) ?_; go_simp; (first | (go_at_call 49; (with_reducible refine (rTimes_calls _ _ _).mono ?_); rintro e w' ⟨rfl, rfl⟩; rw [show times 65536 now = at_ now from rfl]) | (go_at_call 48; (with_reducible refine (rWake_calls d.f.c (at_ now) lp _).mono ?_); rintro e w3 ⟨rfl, hb⟩; have hbw : Below v.heap.size v w3 := r0.drew.trans (hb.mono r0.drew.size); clear hb; have g6 := c6 w3 hbw; have g7 := c7 w3 hbw; have g8 := c8 w3 hbw; have y6 := f6 w3 hbw; have y7 := f7 w3 hbw; have y8 := f8 w3 hbw)); refine lexg_both (by (first | exact r0.drew | exact hbw)) (fun hS1 => ?_))
        (refine lexg_eff (by rfl) ?_; go_simp; (first | (go_at_call 49; (with_reducible refine (rTimes_calls _ _ _).mono ?_); rintro e w' ⟨rfl, rfl⟩; rw [show times 65536 now = at_ now from rfl]) | (go_at_call 48; (with_reducible refine (rWake_calls d.f.c (at_ now) lp _).mono ?_); rintro e w3 ⟨rfl, hb⟩; have hbw : Below v.heap.size v w3 := r0.drew.trans (hb.mono r0.drew.size); clear hb; have g6 := c6 w3 hbw; have g7 := c7 w3 hbw; have g8 := c8 w3 hbw; have y6 := f6 w3 hbw; have y7 := f7 w3 hbw; have y8 := f8 w3 hbw)); refine lexg_both (by (first | exact r0.drew | exact hbw)) (fun hS1 => ?_))
        (apply lexg_pure (by rfl); (focus (intro w; go_simp; (try with_reducible rfl); done)); simp only [Act.put, List.setIfInBounds_toArray, List.set_cons_zero, List.set_cons_succ])
        (refine lexg_effN (by rfl) ?_; go_simp)
        refine lexg_nil (fun _ => wpAnyG_done (by kernel_rfl) ?_ _)
        have ch3 : Chg [w0.heap.size] w3 (((w3.setCell ⟨w0.heap.size, 6, none⟩ (.int .i64 (wake d.f.c (at_ now) lp).r)).setCell ⟨w0.heap.size, 7, none⟩ (.int .i64 (wake d.f.c (at_ now) lp).p)).setCell ⟨w0.heap.size, 8, none⟩ (.int .i64 (wake d.f.c (at_ now) lp).l)) := (((Chg.refl [w0.heap.size] w3).setCell (Or.inl (by simp)) _).setCell (Or.inl (by simp)) _).setCell (Or.inl (by simp)) _
        have B3 : Blk (((w3.setCell ⟨w0.heap.size, 6, none⟩ (.int .i64 (wake d.f.c (at_ now) lp).r)).setCell ⟨w0.heap.size, 7, none⟩ (.int .i64 (wake d.f.c (at_ now) lp).p)).setCell ⟨w0.heap.size, 8, none⟩ (.int .i64 (wake d.f.c (at_ now) lp).l)) w0.heap.size 74 (Dl.cells ⟨⟨d.f.id, d.f.ver, d.f.p, wake d.f.c (at_ now) lp, d.f.q⟩, d.A, d.c⟩) := (((HFV.out.below hbw).set 6 (.int .i64 (wake d.f.c (at_ now) lp).r)).set 7 (.int .i64 (wake d.f.c (at_ now) lp).p)).set 8 (.int .i64 (wake d.f.c (at_ now) lp).l)
        have hw0 : w.heap.size < w0.heap.size := HB0.out.lt
        have D3 := (HDVV.out.below hbw).chg ch3 (fun z hz hm => by
          have := H0.out.lt z hz
          rw [List.mem_singleton.1 hm] at this
          omega)
        have X3 := (HBXV.out.below hbw).chg ch3 (fun hm => by
          rw [List.mem_singleton] at hm
          omega)
        have V3 : Below w0.heap.size w0 (((w3.setCell ⟨w0.heap.size, 6, none⟩ (.int .i64 (wake d.f.c (at_ now) lp).r)).setCell ⟨w0.heap.size, 7, none⟩ (.int .i64 (wake d.f.c (at_ now) lp).p)).setCell ⟨w0.heap.size, 8, none⟩ (.int .i64 (wake d.f.c (at_ now) lp).l)) :=
          Chg.onto (HBV0.out.trans (hbw.mono HBV0.out.size)) (by have := HBV0.out.size; have := hbw.size; omega) ch3 (fun z hz => by rw [List.mem_singleton.1 hz]; exact Nat.le_refl _)
        obtain ⟨v2, hv2⟩ : ∃ v2, (((w3.setCell ⟨w0.heap.size, 6, none⟩ (.int .i64 (wake d.f.c (at_ now) lp).r)).setCell ⟨w0.heap.size, 7, none⟩ (.int .i64 (wake d.f.c (at_ now) lp).p)).setCell ⟨w0.heap.size, 8, none⟩ (.int .i64 (wake d.f.c (at_ now) lp).l)) = v2 := ⟨_, rfl⟩
        rw [hv2] at B3 D3 X3 V3
        rw [hv2]
        have HF := hide B3
        have HBV := hide V3
        have HBX := hide X3
        have HDV := hide D3
        clear c6 c7 c8 f6 f7 f8 g6 g7 g8 y6 y7 y8 r0 hbw ch3 B3 D3 X3 V3 hv2 hw0 HFV HBV0 HBXV HDVV
        go_wp2_with fail
        -- the world v2; f's clocks wake d.f.c (at_ now) lp
        have d9 : ∀ w', Below v2.heap.size v2 w' → w'.cell? ⟨w0.heap.size, 9, none⟩ = some (.slice d.A d.f.q.length d.c) := HF.out.rule 9 _ rfl
        have f9 : ∀ w', Below v2.heap.size v2 w' → w'.frozen? ⟨w0.heap.size, 9, none⟩ = false := fun w' hb => (HF.out.below hb).frozen 9
        have x0 : ∀ w', Below v2.heap.size v2 w' → w'.cell? ⟨w.heap.size, 0, none⟩ = some (.int .i64 x.name) := HBX.out.rule 0 _ rfl
        have x1 : ∀ w', Below v2.heap.size v2 w' → w'.cell? ⟨w.heap.size, 1, none⟩ = some (.int .i64 x.delta) := HBX.out.rule 1 _ rfl
        have x2 : ∀ w', Below v2.heap.size v2 w' → w'.cell? ⟨w.heap.size, 2, none⟩ = some (.int .i64 x.rho) := HBX.out.rule 2 _ rfl
        have HQR := hide (fun w' (hb : Below v2.heap.size v2 w') => ((HDV.out.q d HDM.out).1.below hb : Reads w' v2.heap.size 3 d.A d.f.q.length (itCells d.f.q)))
        have r1 := Below.refl v2.heap.size v2
        refine region_lexg (fun w' => Below v2.heap.size v2 w') [8] 6 [(2, 1), (0, 2), (0, 4)] #[false, true, true, false, true, false, false, false, false] (by kernel_rfl) (by kernel_rfl) (by decide) (by kernel_rfl) (by kernel_rfl) (fun _ _ _ _ _ h => h) (by (first | exact r1.drew | exact r1.drew.alloc (Nat.le_refl _) _ | exact (r1.drew.alloc (Nat.le_refl _) _).alloc (by simp) _ | exact hb6 | exact hb2 | exact hb2.alloc hb2.size _)) (fun hS0 => ?_)
        simp only [List.map_cons, List.map_nil, List.getElem?_toArray, List.getElem?_cons_succ, List.getElem?_cons_zero]
        (apply lexg_pure (by rfl); (focus (intro w; go_simp; (try with_reducible rfl); done)); simp only [Act.put, List.setIfInBounds_toArray, List.set_cons_zero, List.set_cons_succ])
        (apply lexg_take (by rfl); (focus (intro w hw; (try dsimp only at hw); go_simp; (try with_reducible rfl); done)); simp only [Act.put, List.setIfInBounds_toArray, List.set_cons_zero, List.set_cons_succ])
        (apply lexg_take (by rfl); (focus (intro w hw; (try dsimp only at hw); go_simp; (try with_reducible rfl); done)); simp only [Act.put, List.setIfInBounds_toArray, List.set_cons_zero, List.set_cons_succ])
        refine lexg_nil (fun hS2 => ?_)
        refine lexg_fork2 (i := 0) (j := 5) (by kernel_rfl) (by kernel_rfl : _ = #[true, true, true, false, true, false, false, false, false]) (by kernel_rfl : _ = #[false, true, true, false, true, true, false, false, false]) ?_ ?_
        focus
          apply lexg_act (by simp only [List.getElem?_toArray, List.getElem?_cons_succ, List.getElem?_cons_zero]; rfl) (by rfl)
          go_simp
          refine lexg_both (by (first | exact r1.drew | exact r1.drew.alloc (Nat.le_refl _) _ | exact (r1.drew.alloc (Nat.le_refl _) _).alloc (by simp) _ | exact hb6 | exact hb2 | exact hb2.alloc hb2.size _)) (fun hS1 => ?_)
          refine lexg_more 5 [] #[true, true, true, false, true, false, false, false, false] (by kernel_rfl) (by decide) (by kernel_rfl) (by kernel_rfl) (fun _ _ _ _ _ h => h) (fun _ => by assumption) ?_
          simp only [List.map_nil]
          refine lexg_nil (fun hS2 => ?_)
          refine lexg_fork2 (i := 3) (j := 5) (by kernel_rfl) (by kernel_rfl : _ = #[true, true, true, true, true, false, false, false, false]) (by kernel_rfl : _ = #[true, true, true, false, true, true, false, false, false]) ?_ ?_
          focus
            apply lexg_act (by simp only [List.getElem?_toArray, List.getElem?_cons_succ, List.getElem?_cons_zero]; rfl) (by rfl)
            ((first | (refine wp_append_src _ _ _ 72 rfl 36 i0 _ 3 24 Try.underlying72 hi0 hz0 hz1 hz2 rfl (by decide) (.slice (some ⟨v2.heap.size, 0, none⟩) 0 0) 0 [] rfl (by first | exact Que.freshB _ _ rfl | exact (Que.freshB _ _ rfl).drewD | exact (Que.freshB _ _ rfl).below ((Below.refl _ _).alloc (Nat.le_refl _) _) | exact ((Que.freshB _ _ rfl).below ((Below.refl _ _).alloc (Nat.le_refl _) _)).drewD) d.A d.f.q.length d.c v2.heap.size (itCells d.f.q) rfl (HQR.out _ (by assumption)) (itCells_one _) (by unfold maxLen; omega) (by omega) ?_) | (refine wp_append_src _ _ _ 72 rfl 36 i0 _ 3 24 Try.underlying72 hi0 hz0 hz1 hz2 rfl (by decide) (.slice (some ⟨v2.heap.size + 1, 0, none⟩) 0 0) 0 [] rfl (by first | exact Que.freshB _ _ (by simp) | exact (Que.freshB _ _ (by simp)).drewD) d.A d.f.q.length d.c v2.heap.size (itCells d.f.q) rfl (HQR.out _ (by assumption)) (itCells_one _) (by unfold maxLen; omega) (by omega) ?_)); intro A2 cap2 w2 q2 ch2 or2; rw [Nat.zero_add, List.nil_append] at q2; simp only [Nat.zero_add]; have hb2 := below_step ch2 (by assumption) (fun z hz => by simp [Value.ownBlock] at hz; omega); have hg2 := app_low or2 (show Below v2.heap.size v2 _ from by assumption) (fun z hz => by simp [Value.ownBlock] at hz; omega))
            simp only [Act.put, List.setIfInBounds_toArray, List.set_cons_zero, List.set_cons_succ]
            refine lexg_both (by (first | exact r1.drew | exact r1.drew.alloc (Nat.le_refl _) _ | exact (r1.drew.alloc (Nat.le_refl _) _).alloc (by simp) _ | exact hb6 | exact hb2 | exact hb2.alloc hb2.size _)) (fun hS1 => ?_)
            refine lexg_more 0 [(1, 5), (1, 6), (2, 7), (3, 8)] #[true, true, true, true, true, true, true, true, true] (by kernel_rfl) (by decide) (by kernel_rfl) (by kernel_rfl) (fun _ _ _ _ _ h => h) (fun _ => by assumption) ?_
            simp only [List.map_cons, List.map_nil, List.getElem?_toArray, List.getElem?_cons_succ, List.getElem?_cons_zero]
            (refine lexg_eff (by rfl) ?_; go_simp; refine lexg_both (by (first | exact r1.drew | exact r1.drew.alloc (Nat.le_refl _) _ | exact (r1.drew.alloc (Nat.le_refl _) _).alloc (by simp) _ | exact hb6 | exact hb2 | exact hb2.alloc hb2.size _)) (fun hS1 => ?_))
            (refine lexg_eff (by rfl) ?_; ((first | (refine wp_append_src _ _ _ 72 rfl 36 i0 _ 3 24 Try.underlying72 hi0 hz0 hz1 hz2 rfl (by decide) (.slice A2 d.f.q.length cap2) d.f.q.length (itCells d.f.q) rfl (q2.below ((Below.refl _ _).alloc (Nat.le_refl _) _)) (some ⟨w2.heap.size, 0, none⟩) 1 1 _ x.cells rfl ((Blk.new rfl).reads rfl (Nat.lt_succ_self _)) (fun u hu => by simp [It.cells] at hu; rcases hu with rfl | rfl | rfl <;> rfl) (by unfold maxLen; omega) (by omega) ?_) | (refine wp_append_src _ _ _ 72 rfl 36 i0 _ 3 24 Try.underlying72 hi0 hz0 hz1 hz2 rfl (by decide) (.slice A2 d.f.q.length cap2) d.f.q.length (itCells d.f.q) rfl (q2) (some ⟨v2.heap.size + 1, 0, none⟩) 1 1 _ x.cells rfl ((by first | exact (Blk.chg (Blk.new (by simp)) ch2 (by simp [Value.ownBlock])).reads rfl (Nat.lt_succ_self _) | exact (Blk.chg (Blk.drewD (Blk.new (by simp))) ch2 (by simp [Value.ownBlock])).reads rfl (Nat.lt_succ_self _))) (fun u hu => by simp [It.cells] at hu; rcases hu with rfl | rfl | rfl <;> rfl) (by unfold maxLen; omega) (by omega) ?_) | (refine wp_append_src _ _ _ 72 rfl 36 i0 _ 3 24 Try.underlying72 hi0 hz0 hz1 hz2 rfl (by decide) (.slice A2 d.f.q.length cap2) d.f.q.length (itCells d.f.q) rfl (q2) (some ⟨v2.heap.size, 0, none⟩) 1 1 _ x.cells rfl ((by first | exact (Blk.chg ((Blk.new rfl).alloc _) ch2 (by simp [Value.ownBlock])).reads rfl (Nat.lt_succ_self _) | exact (Blk.chg (Blk.drewD ((Blk.new rfl).alloc _)) ch2 (by simp [Value.ownBlock])).reads rfl (Nat.lt_succ_self _))) (fun u hu => by simp [It.cells] at hu; rcases hu with rfl | rfl | rfl <;> rfl) (by unfold maxLen; omega) (by omega) ?_)); intro A3 cap3 w6 q6 ch6 or6; have hb6 := below_step ch6 (by assumption) (fun z hz => hg2 z (by rw [← ownBlock_slice A2 d.f.q.length cap2]; simpa using hz)); have hg6 := app_low or6 (show Below v2.heap.size v2 _ from by assumption) (fun z hz => hg2 z (by rw [← ownBlock_slice A2 d.f.q.length cap2]; exact hz))); simp only [Act.put, List.setIfInBounds_toArray, List.set_cons_zero, List.set_cons_succ]; refine lexg_both (by (first | exact r1.drew | exact r1.drew.alloc (Nat.le_refl _) _ | exact (r1.drew.alloc (Nat.le_refl _) _).alloc (by simp) _ | exact hb6 | exact hb2 | exact hb2.alloc hb2.size _)) (fun hS1 => ?_))
            (apply lexg_pure (by rfl); (focus (intro w; go_simp; (try with_reducible rfl); done)); simp only [Act.put, List.setIfInBounds_toArray, List.set_cons_zero, List.set_cons_succ])
            (refine lexg_effN (by rfl) ?_; go_simp)
            refine lexg_nil (fun _ => wpAnyG_done (by kernel_rfl) ?_ _)
          rotate_left
          focus
            apply lexg_act (by simp only [List.getElem?_toArray, List.getElem?_cons_succ, List.getElem?_cons_zero]; rfl) (by rfl)
            go_simp
            refine lexg_both (by (first | exact r1.drew | exact r1.drew.alloc (Nat.le_refl _) _ | exact (r1.drew.alloc (Nat.le_refl _) _).alloc (by simp) _ | exact hb6 | exact hb2 | exact hb2.alloc hb2.size _)) (fun hS1 => ?_)
            refine lexg_more 0 [(1, 3), (1, 6), (2, 7), (3, 8)] #[true, true, true, true, true, true, true, true, true] (by kernel_rfl) (by decide) (by kernel_rfl) (by kernel_rfl) (fun _ _ _ _ _ h => h) (fun _ => by assumption) ?_
            simp only [List.map_cons, List.map_nil, List.getElem?_toArray, List.getElem?_cons_succ, List.getElem?_cons_zero]
            (refine lexg_eff (by rfl) ?_; ((first | (refine wp_append_src _ _ _ 72 rfl 36 i0 _ 3 24 Try.underlying72 hi0 hz0 hz1 hz2 rfl (by decide) (.slice (some ⟨v2.heap.size, 0, none⟩) 0 0) 0 [] rfl (by first | exact Que.freshB _ _ rfl | exact (Que.freshB _ _ rfl).drewD | exact (Que.freshB _ _ rfl).below ((Below.refl _ _).alloc (Nat.le_refl _) _) | exact ((Que.freshB _ _ rfl).below ((Below.refl _ _).alloc (Nat.le_refl _) _)).drewD) d.A d.f.q.length d.c v2.heap.size (itCells d.f.q) rfl (HQR.out _ (by assumption)) (itCells_one _) (by unfold maxLen; omega) (by omega) ?_) | (refine wp_append_src _ _ _ 72 rfl 36 i0 _ 3 24 Try.underlying72 hi0 hz0 hz1 hz2 rfl (by decide) (.slice (some ⟨v2.heap.size + 1, 0, none⟩) 0 0) 0 [] rfl (by first | exact Que.freshB _ _ (by simp) | exact (Que.freshB _ _ (by simp)).drewD) d.A d.f.q.length d.c v2.heap.size (itCells d.f.q) rfl (HQR.out _ (by assumption)) (itCells_one _) (by unfold maxLen; omega) (by omega) ?_)); intro A2 cap2 w2 q2 ch2 or2; rw [Nat.zero_add, List.nil_append] at q2; simp only [Nat.zero_add]; have hb2 := below_step ch2 (by assumption) (fun z hz => by simp [Value.ownBlock] at hz; omega); have hg2 := app_low or2 (show Below v2.heap.size v2 _ from by assumption) (fun z hz => by simp [Value.ownBlock] at hz; omega)); simp only [Act.put, List.setIfInBounds_toArray, List.set_cons_zero, List.set_cons_succ]; refine lexg_both (by (first | exact r1.drew | exact r1.drew.alloc (Nat.le_refl _) _ | exact (r1.drew.alloc (Nat.le_refl _) _).alloc (by simp) _ | exact hb6 | exact hb2 | exact hb2.alloc hb2.size _)) (fun hS1 => ?_))
            (refine lexg_eff (by rfl) ?_; ((first | (refine wp_append_src _ _ _ 72 rfl 36 i0 _ 3 24 Try.underlying72 hi0 hz0 hz1 hz2 rfl (by decide) (.slice A2 d.f.q.length cap2) d.f.q.length (itCells d.f.q) rfl (q2.below ((Below.refl _ _).alloc (Nat.le_refl _) _)) (some ⟨w2.heap.size, 0, none⟩) 1 1 _ x.cells rfl ((Blk.new rfl).reads rfl (Nat.lt_succ_self _)) (fun u hu => by simp [It.cells] at hu; rcases hu with rfl | rfl | rfl <;> rfl) (by unfold maxLen; omega) (by omega) ?_) | (refine wp_append_src _ _ _ 72 rfl 36 i0 _ 3 24 Try.underlying72 hi0 hz0 hz1 hz2 rfl (by decide) (.slice A2 d.f.q.length cap2) d.f.q.length (itCells d.f.q) rfl (q2) (some ⟨v2.heap.size + 1, 0, none⟩) 1 1 _ x.cells rfl ((by first | exact (Blk.chg (Blk.new (by simp)) ch2 (by simp [Value.ownBlock])).reads rfl (Nat.lt_succ_self _) | exact (Blk.chg (Blk.drewD (Blk.new (by simp))) ch2 (by simp [Value.ownBlock])).reads rfl (Nat.lt_succ_self _))) (fun u hu => by simp [It.cells] at hu; rcases hu with rfl | rfl | rfl <;> rfl) (by unfold maxLen; omega) (by omega) ?_) | (refine wp_append_src _ _ _ 72 rfl 36 i0 _ 3 24 Try.underlying72 hi0 hz0 hz1 hz2 rfl (by decide) (.slice A2 d.f.q.length cap2) d.f.q.length (itCells d.f.q) rfl (q2) (some ⟨v2.heap.size, 0, none⟩) 1 1 _ x.cells rfl ((by first | exact (Blk.chg ((Blk.new rfl).alloc _) ch2 (by simp [Value.ownBlock])).reads rfl (Nat.lt_succ_self _) | exact (Blk.chg (Blk.drewD ((Blk.new rfl).alloc _)) ch2 (by simp [Value.ownBlock])).reads rfl (Nat.lt_succ_self _))) (fun u hu => by simp [It.cells] at hu; rcases hu with rfl | rfl | rfl <;> rfl) (by unfold maxLen; omega) (by omega) ?_)); intro A3 cap3 w6 q6 ch6 or6; have hb6 := below_step ch6 (by assumption) (fun z hz => hg2 z (by rw [← ownBlock_slice A2 d.f.q.length cap2]; simpa using hz)); have hg6 := app_low or6 (show Below v2.heap.size v2 _ from by assumption) (fun z hz => hg2 z (by rw [← ownBlock_slice A2 d.f.q.length cap2]; exact hz))); simp only [Act.put, List.setIfInBounds_toArray, List.set_cons_zero, List.set_cons_succ]; refine lexg_both (by (first | exact r1.drew | exact r1.drew.alloc (Nat.le_refl _) _ | exact (r1.drew.alloc (Nat.le_refl _) _).alloc (by simp) _ | exact hb6 | exact hb2 | exact hb2.alloc hb2.size _)) (fun hS1 => ?_))
            (apply lexg_pure (by rfl); (focus (intro w; go_simp; (try with_reducible rfl); done)); simp only [Act.put, List.setIfInBounds_toArray, List.set_cons_zero, List.set_cons_succ])
            (refine lexg_effN (by rfl) ?_; go_simp)
            refine lexg_nil (fun _ => wpAnyG_done (by kernel_rfl) ?_ _)
          rotate_left
        rotate_left 2
        focus
          apply lexg_act (by simp only [List.getElem?_toArray, List.getElem?_cons_succ, List.getElem?_cons_zero]; rfl) (by rfl)
          go_simp
          refine lexg_both (by (first | exact r1.drew | exact r1.drew.alloc (Nat.le_refl _) _ | exact (r1.drew.alloc (Nat.le_refl _) _).alloc (by simp) _ | exact hb6 | exact hb2 | exact hb2.alloc hb2.size _)) (fun hS1 => ?_)
          refine lexg_more 0 [(1, 0), (1, 3), (1, 6), (2, 7), (3, 8)] #[true, true, true, true, true, true, true, true, true] (by kernel_rfl) (by decide) (by kernel_rfl) (by kernel_rfl) (fun _ _ _ _ _ h => h) (fun _ => by assumption) ?_
          simp only [List.map_cons, List.map_nil, List.getElem?_toArray, List.getElem?_cons_succ, List.getElem?_cons_zero]
          (refine lexg_eff (by rfl) ?_; go_simp; refine lexg_both (by (first | exact r1.drew | exact r1.drew.alloc (Nat.le_refl _) _ | exact (r1.drew.alloc (Nat.le_refl _) _).alloc (by simp) _ | exact hb6 | exact hb2 | exact hb2.alloc hb2.size _)) (fun hS1 => ?_))
          (refine lexg_eff (by rfl) ?_; ((first | (refine wp_append_src _ _ _ 72 rfl 36 i0 _ 3 24 Try.underlying72 hi0 hz0 hz1 hz2 rfl (by decide) (.slice (some ⟨v2.heap.size, 0, none⟩) 0 0) 0 [] rfl (by first | exact Que.freshB _ _ rfl | exact (Que.freshB _ _ rfl).drewD | exact (Que.freshB _ _ rfl).below ((Below.refl _ _).alloc (Nat.le_refl _) _) | exact ((Que.freshB _ _ rfl).below ((Below.refl _ _).alloc (Nat.le_refl _) _)).drewD) d.A d.f.q.length d.c v2.heap.size (itCells d.f.q) rfl (HQR.out _ (by assumption)) (itCells_one _) (by unfold maxLen; omega) (by omega) ?_) | (refine wp_append_src _ _ _ 72 rfl 36 i0 _ 3 24 Try.underlying72 hi0 hz0 hz1 hz2 rfl (by decide) (.slice (some ⟨v2.heap.size + 1, 0, none⟩) 0 0) 0 [] rfl (by first | exact Que.freshB _ _ (by simp) | exact (Que.freshB _ _ (by simp)).drewD) d.A d.f.q.length d.c v2.heap.size (itCells d.f.q) rfl (HQR.out _ (by assumption)) (itCells_one _) (by unfold maxLen; omega) (by omega) ?_)); intro A2 cap2 w2 q2 ch2 or2; rw [Nat.zero_add, List.nil_append] at q2; simp only [Nat.zero_add]; have hb2 := below_step ch2 (by assumption) (fun z hz => by simp [Value.ownBlock] at hz; omega); have hg2 := app_low or2 (show Below v2.heap.size v2 _ from by assumption) (fun z hz => by simp [Value.ownBlock] at hz; omega)); simp only [Act.put, List.setIfInBounds_toArray, List.set_cons_zero, List.set_cons_succ]; refine lexg_both (by (first | exact r1.drew | exact r1.drew.alloc (Nat.le_refl _) _ | exact (r1.drew.alloc (Nat.le_refl _) _).alloc (by simp) _ | exact hb6 | exact hb2 | exact hb2.alloc hb2.size _)) (fun hS1 => ?_))
          (refine lexg_eff (by rfl) ?_; ((first | (refine wp_append_src _ _ _ 72 rfl 36 i0 _ 3 24 Try.underlying72 hi0 hz0 hz1 hz2 rfl (by decide) (.slice A2 d.f.q.length cap2) d.f.q.length (itCells d.f.q) rfl (q2.below ((Below.refl _ _).alloc (Nat.le_refl _) _)) (some ⟨w2.heap.size, 0, none⟩) 1 1 _ x.cells rfl ((Blk.new rfl).reads rfl (Nat.lt_succ_self _)) (fun u hu => by simp [It.cells] at hu; rcases hu with rfl | rfl | rfl <;> rfl) (by unfold maxLen; omega) (by omega) ?_) | (refine wp_append_src _ _ _ 72 rfl 36 i0 _ 3 24 Try.underlying72 hi0 hz0 hz1 hz2 rfl (by decide) (.slice A2 d.f.q.length cap2) d.f.q.length (itCells d.f.q) rfl (q2) (some ⟨v2.heap.size + 1, 0, none⟩) 1 1 _ x.cells rfl ((by first | exact (Blk.chg (Blk.new (by simp)) ch2 (by simp [Value.ownBlock])).reads rfl (Nat.lt_succ_self _) | exact (Blk.chg (Blk.drewD (Blk.new (by simp))) ch2 (by simp [Value.ownBlock])).reads rfl (Nat.lt_succ_self _))) (fun u hu => by simp [It.cells] at hu; rcases hu with rfl | rfl | rfl <;> rfl) (by unfold maxLen; omega) (by omega) ?_) | (refine wp_append_src _ _ _ 72 rfl 36 i0 _ 3 24 Try.underlying72 hi0 hz0 hz1 hz2 rfl (by decide) (.slice A2 d.f.q.length cap2) d.f.q.length (itCells d.f.q) rfl (q2) (some ⟨v2.heap.size, 0, none⟩) 1 1 _ x.cells rfl ((by first | exact (Blk.chg ((Blk.new rfl).alloc _) ch2 (by simp [Value.ownBlock])).reads rfl (Nat.lt_succ_self _) | exact (Blk.chg (Blk.drewD ((Blk.new rfl).alloc _)) ch2 (by simp [Value.ownBlock])).reads rfl (Nat.lt_succ_self _))) (fun u hu => by simp [It.cells] at hu; rcases hu with rfl | rfl | rfl <;> rfl) (by unfold maxLen; omega) (by omega) ?_)); intro A3 cap3 w6 q6 ch6 or6; have hb6 := below_step ch6 (by assumption) (fun z hz => hg2 z (by rw [← ownBlock_slice A2 d.f.q.length cap2]; simpa using hz)); have hg6 := app_low or6 (show Below v2.heap.size v2 _ from by assumption) (fun z hz => hg2 z (by rw [← ownBlock_slice A2 d.f.q.length cap2]; exact hz))); simp only [Act.put, List.setIfInBounds_toArray, List.set_cons_zero, List.set_cons_succ]; refine lexg_both (by (first | exact r1.drew | exact r1.drew.alloc (Nat.le_refl _) _ | exact (r1.drew.alloc (Nat.le_refl _) _).alloc (by simp) _ | exact hb6 | exact hb2 | exact hb2.alloc hb2.size _)) (fun hS1 => ?_))
          (apply lexg_pure (by rfl); (focus (intro w; go_simp; (try with_reducible rfl); done)); simp only [Act.put, List.setIfInBounds_toArray, List.set_cons_zero, List.set_cons_succ])
          (refine lexg_effN (by rfl) ?_; go_simp)
          refine lexg_nil (fun _ => wpAnyG_done (by kernel_rfl) ?_ _)
        rotate_left
        all_goals
          have hll : (d.f.q ++ [x]).length = d.f.q.length + 1 := by simp
          have hq6 : Reads w6 w6.heap.size 3 A3 (d.f.q ++ [x]).length (itCells (d.f.q ++ [x])) := by
            rw [hll, show itCells (d.f.q ++ [x]) = itCells d.f.q ++ x.cells by simp [itCells]]
            refine ⟨q6.1, fun h0 => ?_⟩
            obtain ⟨g, q, cp, e, _, _, hgl, hcl⟩ := q6.at_ h0
            injection e with e _ _
            exact ⟨g, q, e, hgl, hcl⟩
          have hcap : (d.f.q ++ [x]).length ≤ cap3 := by
            obtain ⟨_, _, e, hle, _⟩ := q6.form
            injection e with _ _ e
            rw [hll, e]
            exact hle
          have ch8 : Chg [w0.heap.size] w6 (w6.setCell ⟨w0.heap.size, 9, none⟩ (.slice A3 (d.f.q.length + 1) cap3)) := (Chg.refl _ _).setCell (Or.inl (by simp)) _
          have B8 : Blk (w6.setCell ⟨w0.heap.size, 9, none⟩ (.slice A3 (d.f.q.length + 1) cap3)) w0.heap.size 74 (Dl.cells ⟨⟨d.f.id, d.f.ver, d.f.p, wake d.f.c (at_ now) lp, d.f.q ++ [x]⟩, A3, cap3⟩) := by
            have := (HF.out.below hb6).set 9 (.slice A3 (d.f.q.length + 1) cap3)
            rw [show Dl.cells ⟨⟨d.f.id, d.f.ver, d.f.p, wake d.f.c (at_ now) lp, d.f.q ++ [x]⟩, A3, cap3⟩ = (Dl.cells ⟨⟨d.f.id, d.f.ver, d.f.p, wake d.f.c (at_ now) lp, d.f.q⟩, d.A, d.c⟩).set 9 (.slice A3 (d.f.q.length + 1) cap3) by simp [Dl.cells, Dl.lv]]
            exact this
          have hG0 : ∀ z ∈ G, z < w0.heap.size := H0.out.lt
          have hg6' : ∀ z, A3.map Addr.block = some z → v2.heap.size ≤ z := hg6
          have hlt6 : ∀ z, A3.map Addr.block = some z → z < w6.heap.size := fun z hz => q6.lt (by rw [ownBlock_slice]; exact hz)
          have hv0 := HBV.out.size
          have D8 : Doc (w6.setCell ⟨w0.heap.size, 9, none⟩ (.slice A3 (d.f.q.length + 1) cap3)) ((A3.map Addr.block).toList ++ G) (.slice (some ⟨b, o, none⟩) D.length c) D :=
            ((HDV.out.below hb6).chg ch8 (fun z hz hm => by
              have := hG0 z hz
              rw [List.mem_singleton.1 hm] at this
              omega)).more (fun z hz => List.mem_append_right _ hz) (fun z hz => by
              have hsz := ch8.size
              rcases List.mem_append.1 hz with hz | hz
              · exact Nat.lt_of_lt_of_le (hlt6 z (by simpa using hz)) hsz
              · have := hG0 z hz
                have := hb6.size
                omega)
          have Q8 : Qr (w6.setCell ⟨w0.heap.size, 9, none⟩ (.slice A3 (d.f.q.length + 1) cap3)) ((A3.map Addr.block).toList ++ G) ⟨⟨d.f.id, d.f.ver, d.f.p, wake d.f.c (at_ now) lp, d.f.q ++ [x]⟩, A3, cap3⟩ :=
            ⟨hq6.keepG (Nat.le_refl _) ch8.size ch8 (fun b2 o2 e hm => by
              subst e
              have := hg6' b2 rfl
              have h0 := HF.out.lt
              rw [List.mem_singleton] at hm
              omega), hcap, fun b2 o2 e => by
              subst e
              exact List.mem_append_left _ (by simp)⟩
          have hB8 : Below w.heap.size w (w6.setCell ⟨w0.heap.size, 9, none⟩ (.slice A3 (d.f.q.length + 1) cap3)) := by
            have h1 := HR0.out.size
            exact ((HR0.out.trans (HBV.out.mono h1)).trans (hb6.mono (by omega))).setCell (p := ⟨w0.heap.size, 9, none⟩) (by simp only; omega) _
          have hG2 : ∀ z ∈ (A3.map Addr.block).toList ++ G, z ∈ G ∨ w.heap.size ≤ z := fun z hz => by
            rcases List.mem_append.1 hz with hz | hz
            · have := hg6' z (by simpa using hz)
              have := HR0.out.size
              exact Or.inr (by omega)
            · exact Or.inl hz
          obtain ⟨w8, hw8⟩ : ∃ w8, w6.setCell ⟨w0.heap.size, 9, none⟩ (.slice A3 (d.f.q.length + 1) cap3) = w8 := ⟨_, rfl⟩
          rw [hw8] at B8 D8 Q8 hB8
          rw [hw8]
          have g0 : w8.cell? ⟨w0.heap.size, 0, none⟩ = some (.int .i64 d.f.id) := B8.cell 0
          have g1 : w8.cell? ⟨w0.heap.size, 1, none⟩ = some (.int .i64 d.f.ver) := B8.cell 1
          have g2 : w8.cell? ⟨w0.heap.size, 2, none⟩ = some (.int .i64 d.f.p.r) := B8.cell 2
          have g3 : w8.cell? ⟨w0.heap.size, 3, none⟩ = some (.int .i64 d.f.p.w) := B8.cell 3
          have g4 : w8.cell? ⟨w0.heap.size, 4, none⟩ = some (.int .i64 d.f.p.l) := B8.cell 4
          have g5 : w8.cell? ⟨w0.heap.size, 5, none⟩ = some (.int .i64 d.f.p.b) := B8.cell 5
          have g6 : w8.cell? ⟨w0.heap.size, 6, none⟩ = some (.int .i64 (wake d.f.c (at_ now) lp).r) := B8.cell 6
          have g7 : w8.cell? ⟨w0.heap.size, 7, none⟩ = some (.int .i64 (wake d.f.c (at_ now) lp).p) := B8.cell 7
          have g8 : w8.cell? ⟨w0.heap.size, 8, none⟩ = some (.int .i64 (wake d.f.c (at_ now) lp).l) := B8.cell 8
          have g9 : w8.cell? ⟨w0.heap.size, 9, none⟩ = some (.slice A3 (d.f.q ++ [x]).length cap3) := B8.cell 9
          rw [hll] at g9
          have HWI := hide (with12_calls i ⟨⟨d.f.id, d.f.ver, d.f.p, wake d.f.c (at_ now) lp, d.f.q ++ [x]⟩, A3, cap3⟩ D8 rfl hnn hi Q8)
          have HB8 := hide hB8
          have HG2 := hide hG2
          have HLL := hide hll
          clear q6 ch6 or6 hg6 hb6 hq6 hcap ch8 B8 hG0 hg6' hlt6 hv0 D8 Q8 hB8 hG2 hw8 hll q2 ch2 or2 hb2 hg2 d9 f9 x0 x1 x2
          go_wp2_with fail
          rw [← HLL.out]
          refine HWI.out.mono ?_
          rintro e w9 ⟨vv, rfl, hout⟩
          have HO := hide (hout.from2 HB8.out HG2.out)
          clear hout HWI g0 g1 g2 g3 g4 g5 g6 g7 g8 g9
          go_wp2
          refine bodyPost_ret (v := .tuple #[vv, .int .i64 0]) (by simp [results, Try.results25, go_sem, *]) rfl ?_
          refine ⟨i, hi, by rw [HDD.out]; exact HID.out, vv, A3, cap3, rfl, ?_⟩
          rw [HDD.out, if_pos HQ0.out]
          (rw [HY.out, HLP.out])
          exact HO.out
  · have e0 : ((d.f.q.length : Int) == 0) = false := by
      have := List.length_pos_iff.2 hq0
      simp
      exact hq0
    have HQ0 := hide hq0
    clear hq0
    go_wp2_with fail
    obtain ⟨v, hv⟩ : ∃ v, w0.alloc (.cells #[.int .i64 d.f.id, .int .i64 d.f.ver, .int .i64 d.f.p.r, .int .i64 d.f.p.w, .int .i64 d.f.p.l, .int .i64 d.f.p.b, .int .i64 d.f.c.r, .int .i64 d.f.c.p, .int .i64 d.f.c.l, .slice d.A d.f.q.length d.c] 74) = v := ⟨_, rfl⟩
    have hF : Blk v w0.heap.size 74 d.cells := by rw [← hv]; exact HF0.out
    have hbF : Below w0.heap.size w0 v := by rw [← hv]; exact HBF.out
    rw [hv]
    have HF := hide hF
    have HBV := hide hbF
    have HBX := hide (HB0.out.below hbF)
    have HDV := hide (H0.out.below hbF)
    clear hv hF hbF k0 k1 k2 k3 k4 k5 k6 k7 k8 k9 HF0 HBF
    -- the world v; f's clocks d.f.c
    have d9 : ∀ w', Below v.heap.size v w' → w'.cell? ⟨w0.heap.size, 9, none⟩ = some (.slice d.A d.f.q.length d.c) := HF.out.rule 9 _ rfl
    have f9 : ∀ w', Below v.heap.size v w' → w'.frozen? ⟨w0.heap.size, 9, none⟩ = false := fun w' hb => (HF.out.below hb).frozen 9
    have x0 : ∀ w', Below v.heap.size v w' → w'.cell? ⟨w.heap.size, 0, none⟩ = some (.int .i64 x.name) := HBX.out.rule 0 _ rfl
    have x1 : ∀ w', Below v.heap.size v w' → w'.cell? ⟨w.heap.size, 1, none⟩ = some (.int .i64 x.delta) := HBX.out.rule 1 _ rfl
    have x2 : ∀ w', Below v.heap.size v w' → w'.cell? ⟨w.heap.size, 2, none⟩ = some (.int .i64 x.rho) := HBX.out.rule 2 _ rfl
    have HQR := hide (fun w' (hb : Below v.heap.size v w') => ((HDV.out.q d HDM.out).1.below hb : Reads w' v.heap.size 3 d.A d.f.q.length (itCells d.f.q)))
    have r1 := Below.refl v.heap.size v
    refine region_lexg (fun w' => Below v.heap.size v w') [8] 6 [(2, 1), (0, 2), (0, 4)] #[false, true, true, false, true, false, false, false, false] (by kernel_rfl) (by kernel_rfl) (by decide) (by kernel_rfl) (by kernel_rfl) (fun _ _ _ _ _ h => h) (by (first | exact r1.drew | exact r1.drew.alloc (Nat.le_refl _) _ | exact (r1.drew.alloc (Nat.le_refl _) _).alloc (by simp) _ | exact hb6 | exact hb2 | exact hb2.alloc hb2.size _)) (fun hS0 => ?_)
    simp only [List.map_cons, List.map_nil, List.getElem?_toArray, List.getElem?_cons_succ, List.getElem?_cons_zero]
    (apply lexg_pure (by rfl); (focus (intro w; go_simp; (try with_reducible rfl); done)); simp only [Act.put, List.setIfInBounds_toArray, List.set_cons_zero, List.set_cons_succ])
    (apply lexg_take (by rfl); (focus (intro w hw; (try dsimp only at hw); go_simp; (try with_reducible rfl); done)); simp only [Act.put, List.setIfInBounds_toArray, List.set_cons_zero, List.set_cons_succ])
    (apply lexg_take (by rfl); (focus (intro w hw; (try dsimp only at hw); go_simp; (try with_reducible rfl); done)); simp only [Act.put, List.setIfInBounds_toArray, List.set_cons_zero, List.set_cons_succ])
    refine lexg_nil (fun hS2 => ?_)
    refine lexg_fork2 (i := 0) (j := 5) (by kernel_rfl) (by kernel_rfl : _ = #[true, true, true, false, true, false, false, false, false]) (by kernel_rfl : _ = #[false, true, true, false, true, true, false, false, false]) ?_ ?_
    focus
      apply lexg_act (by simp only [List.getElem?_toArray, List.getElem?_cons_succ, List.getElem?_cons_zero]; rfl) (by rfl)
      go_simp
      refine lexg_both (by (first | exact r1.drew | exact r1.drew.alloc (Nat.le_refl _) _ | exact (r1.drew.alloc (Nat.le_refl _) _).alloc (by simp) _ | exact hb6 | exact hb2 | exact hb2.alloc hb2.size _)) (fun hS1 => ?_)
      refine lexg_more 5 [] #[true, true, true, false, true, false, false, false, false] (by kernel_rfl) (by decide) (by kernel_rfl) (by kernel_rfl) (fun _ _ _ _ _ h => h) (fun _ => by assumption) ?_
      simp only [List.map_nil]
      refine lexg_nil (fun hS2 => ?_)
      refine lexg_fork2 (i := 3) (j := 5) (by kernel_rfl) (by kernel_rfl : _ = #[true, true, true, true, true, false, false, false, false]) (by kernel_rfl : _ = #[true, true, true, false, true, true, false, false, false]) ?_ ?_
      focus
        apply lexg_act (by simp only [List.getElem?_toArray, List.getElem?_cons_succ, List.getElem?_cons_zero]; rfl) (by rfl)
        ((first | (refine wp_append_src _ _ _ 72 rfl 36 i0 _ 3 24 Try.underlying72 hi0 hz0 hz1 hz2 rfl (by decide) (.slice (some ⟨v.heap.size, 0, none⟩) 0 0) 0 [] rfl (by first | exact Que.freshB _ _ rfl | exact (Que.freshB _ _ rfl).drewD | exact (Que.freshB _ _ rfl).below ((Below.refl _ _).alloc (Nat.le_refl _) _) | exact ((Que.freshB _ _ rfl).below ((Below.refl _ _).alloc (Nat.le_refl _) _)).drewD) d.A d.f.q.length d.c v.heap.size (itCells d.f.q) rfl (HQR.out _ (by assumption)) (itCells_one _) (by unfold maxLen; omega) (by omega) ?_) | (refine wp_append_src _ _ _ 72 rfl 36 i0 _ 3 24 Try.underlying72 hi0 hz0 hz1 hz2 rfl (by decide) (.slice (some ⟨v.heap.size + 1, 0, none⟩) 0 0) 0 [] rfl (by first | exact Que.freshB _ _ (by simp) | exact (Que.freshB _ _ (by simp)).drewD) d.A d.f.q.length d.c v.heap.size (itCells d.f.q) rfl (HQR.out _ (by assumption)) (itCells_one _) (by unfold maxLen; omega) (by omega) ?_)); intro A2 cap2 w2 q2 ch2 or2; rw [Nat.zero_add, List.nil_append] at q2; simp only [Nat.zero_add]; have hb2 := below_step ch2 (by assumption) (fun z hz => by simp [Value.ownBlock] at hz; omega); have hg2 := app_low or2 (show Below v.heap.size v _ from by assumption) (fun z hz => by simp [Value.ownBlock] at hz; omega))
        simp only [Act.put, List.setIfInBounds_toArray, List.set_cons_zero, List.set_cons_succ]
        refine lexg_both (by (first | exact r1.drew | exact r1.drew.alloc (Nat.le_refl _) _ | exact (r1.drew.alloc (Nat.le_refl _) _).alloc (by simp) _ | exact hb6 | exact hb2 | exact hb2.alloc hb2.size _)) (fun hS1 => ?_)
        refine lexg_more 0 [(1, 5), (1, 6), (2, 7), (3, 8)] #[true, true, true, true, true, true, true, true, true] (by kernel_rfl) (by decide) (by kernel_rfl) (by kernel_rfl) (fun _ _ _ _ _ h => h) (fun _ => by assumption) ?_
        simp only [List.map_cons, List.map_nil, List.getElem?_toArray, List.getElem?_cons_succ, List.getElem?_cons_zero]
        (refine lexg_eff (by rfl) ?_; go_simp; refine lexg_both (by (first | exact r1.drew | exact r1.drew.alloc (Nat.le_refl _) _ | exact (r1.drew.alloc (Nat.le_refl _) _).alloc (by simp) _ | exact hb6 | exact hb2 | exact hb2.alloc hb2.size _)) (fun hS1 => ?_))
        (refine lexg_eff (by rfl) ?_; ((first | (refine wp_append_src _ _ _ 72 rfl 36 i0 _ 3 24 Try.underlying72 hi0 hz0 hz1 hz2 rfl (by decide) (.slice A2 d.f.q.length cap2) d.f.q.length (itCells d.f.q) rfl (q2.below ((Below.refl _ _).alloc (Nat.le_refl _) _)) (some ⟨w2.heap.size, 0, none⟩) 1 1 _ x.cells rfl ((Blk.new rfl).reads rfl (Nat.lt_succ_self _)) (fun u hu => by simp [It.cells] at hu; rcases hu with rfl | rfl | rfl <;> rfl) (by unfold maxLen; omega) (by omega) ?_) | (refine wp_append_src _ _ _ 72 rfl 36 i0 _ 3 24 Try.underlying72 hi0 hz0 hz1 hz2 rfl (by decide) (.slice A2 d.f.q.length cap2) d.f.q.length (itCells d.f.q) rfl (q2) (some ⟨v.heap.size + 1, 0, none⟩) 1 1 _ x.cells rfl ((by first | exact (Blk.chg (Blk.new (by simp)) ch2 (by simp [Value.ownBlock])).reads rfl (Nat.lt_succ_self _) | exact (Blk.chg (Blk.drewD (Blk.new (by simp))) ch2 (by simp [Value.ownBlock])).reads rfl (Nat.lt_succ_self _))) (fun u hu => by simp [It.cells] at hu; rcases hu with rfl | rfl | rfl <;> rfl) (by unfold maxLen; omega) (by omega) ?_) | (refine wp_append_src _ _ _ 72 rfl 36 i0 _ 3 24 Try.underlying72 hi0 hz0 hz1 hz2 rfl (by decide) (.slice A2 d.f.q.length cap2) d.f.q.length (itCells d.f.q) rfl (q2) (some ⟨v.heap.size, 0, none⟩) 1 1 _ x.cells rfl ((by first | exact (Blk.chg ((Blk.new rfl).alloc _) ch2 (by simp [Value.ownBlock])).reads rfl (Nat.lt_succ_self _) | exact (Blk.chg (Blk.drewD ((Blk.new rfl).alloc _)) ch2 (by simp [Value.ownBlock])).reads rfl (Nat.lt_succ_self _))) (fun u hu => by simp [It.cells] at hu; rcases hu with rfl | rfl | rfl <;> rfl) (by unfold maxLen; omega) (by omega) ?_)); intro A3 cap3 w6 q6 ch6 or6; have hb6 := below_step ch6 (by assumption) (fun z hz => hg2 z (by rw [← ownBlock_slice A2 d.f.q.length cap2]; simpa using hz)); have hg6 := app_low or6 (show Below v.heap.size v _ from by assumption) (fun z hz => hg2 z (by rw [← ownBlock_slice A2 d.f.q.length cap2]; exact hz))); simp only [Act.put, List.setIfInBounds_toArray, List.set_cons_zero, List.set_cons_succ]; refine lexg_both (by (first | exact r1.drew | exact r1.drew.alloc (Nat.le_refl _) _ | exact (r1.drew.alloc (Nat.le_refl _) _).alloc (by simp) _ | exact hb6 | exact hb2 | exact hb2.alloc hb2.size _)) (fun hS1 => ?_))
        (apply lexg_pure (by rfl); (focus (intro w; go_simp; (try with_reducible rfl); done)); simp only [Act.put, List.setIfInBounds_toArray, List.set_cons_zero, List.set_cons_succ])
        (refine lexg_effN (by rfl) ?_; go_simp)
        refine lexg_nil (fun _ => wpAnyG_done (by kernel_rfl) ?_ _)
      rotate_left
      focus
        apply lexg_act (by simp only [List.getElem?_toArray, List.getElem?_cons_succ, List.getElem?_cons_zero]; rfl) (by rfl)
        go_simp
        refine lexg_both (by (first | exact r1.drew | exact r1.drew.alloc (Nat.le_refl _) _ | exact (r1.drew.alloc (Nat.le_refl _) _).alloc (by simp) _ | exact hb6 | exact hb2 | exact hb2.alloc hb2.size _)) (fun hS1 => ?_)
        refine lexg_more 0 [(1, 3), (1, 6), (2, 7), (3, 8)] #[true, true, true, true, true, true, true, true, true] (by kernel_rfl) (by decide) (by kernel_rfl) (by kernel_rfl) (fun _ _ _ _ _ h => h) (fun _ => by assumption) ?_
        simp only [List.map_cons, List.map_nil, List.getElem?_toArray, List.getElem?_cons_succ, List.getElem?_cons_zero]
        (refine lexg_eff (by rfl) ?_; ((first | (refine wp_append_src _ _ _ 72 rfl 36 i0 _ 3 24 Try.underlying72 hi0 hz0 hz1 hz2 rfl (by decide) (.slice (some ⟨v.heap.size, 0, none⟩) 0 0) 0 [] rfl (by first | exact Que.freshB _ _ rfl | exact (Que.freshB _ _ rfl).drewD | exact (Que.freshB _ _ rfl).below ((Below.refl _ _).alloc (Nat.le_refl _) _) | exact ((Que.freshB _ _ rfl).below ((Below.refl _ _).alloc (Nat.le_refl _) _)).drewD) d.A d.f.q.length d.c v.heap.size (itCells d.f.q) rfl (HQR.out _ (by assumption)) (itCells_one _) (by unfold maxLen; omega) (by omega) ?_) | (refine wp_append_src _ _ _ 72 rfl 36 i0 _ 3 24 Try.underlying72 hi0 hz0 hz1 hz2 rfl (by decide) (.slice (some ⟨v.heap.size + 1, 0, none⟩) 0 0) 0 [] rfl (by first | exact Que.freshB _ _ (by simp) | exact (Que.freshB _ _ (by simp)).drewD) d.A d.f.q.length d.c v.heap.size (itCells d.f.q) rfl (HQR.out _ (by assumption)) (itCells_one _) (by unfold maxLen; omega) (by omega) ?_)); intro A2 cap2 w2 q2 ch2 or2; rw [Nat.zero_add, List.nil_append] at q2; simp only [Nat.zero_add]; have hb2 := below_step ch2 (by assumption) (fun z hz => by simp [Value.ownBlock] at hz; omega); have hg2 := app_low or2 (show Below v.heap.size v _ from by assumption) (fun z hz => by simp [Value.ownBlock] at hz; omega)); simp only [Act.put, List.setIfInBounds_toArray, List.set_cons_zero, List.set_cons_succ]; refine lexg_both (by (first | exact r1.drew | exact r1.drew.alloc (Nat.le_refl _) _ | exact (r1.drew.alloc (Nat.le_refl _) _).alloc (by simp) _ | exact hb6 | exact hb2 | exact hb2.alloc hb2.size _)) (fun hS1 => ?_))
        (refine lexg_eff (by rfl) ?_; ((first | (refine wp_append_src _ _ _ 72 rfl 36 i0 _ 3 24 Try.underlying72 hi0 hz0 hz1 hz2 rfl (by decide) (.slice A2 d.f.q.length cap2) d.f.q.length (itCells d.f.q) rfl (q2.below ((Below.refl _ _).alloc (Nat.le_refl _) _)) (some ⟨w2.heap.size, 0, none⟩) 1 1 _ x.cells rfl ((Blk.new rfl).reads rfl (Nat.lt_succ_self _)) (fun u hu => by simp [It.cells] at hu; rcases hu with rfl | rfl | rfl <;> rfl) (by unfold maxLen; omega) (by omega) ?_) | (refine wp_append_src _ _ _ 72 rfl 36 i0 _ 3 24 Try.underlying72 hi0 hz0 hz1 hz2 rfl (by decide) (.slice A2 d.f.q.length cap2) d.f.q.length (itCells d.f.q) rfl (q2) (some ⟨v.heap.size + 1, 0, none⟩) 1 1 _ x.cells rfl ((by first | exact (Blk.chg (Blk.new (by simp)) ch2 (by simp [Value.ownBlock])).reads rfl (Nat.lt_succ_self _) | exact (Blk.chg (Blk.drewD (Blk.new (by simp))) ch2 (by simp [Value.ownBlock])).reads rfl (Nat.lt_succ_self _))) (fun u hu => by simp [It.cells] at hu; rcases hu with rfl | rfl | rfl <;> rfl) (by unfold maxLen; omega) (by omega) ?_) | (refine wp_append_src _ _ _ 72 rfl 36 i0 _ 3 24 Try.underlying72 hi0 hz0 hz1 hz2 rfl (by decide) (.slice A2 d.f.q.length cap2) d.f.q.length (itCells d.f.q) rfl (q2) (some ⟨v.heap.size, 0, none⟩) 1 1 _ x.cells rfl ((by first | exact (Blk.chg ((Blk.new rfl).alloc _) ch2 (by simp [Value.ownBlock])).reads rfl (Nat.lt_succ_self _) | exact (Blk.chg (Blk.drewD ((Blk.new rfl).alloc _)) ch2 (by simp [Value.ownBlock])).reads rfl (Nat.lt_succ_self _))) (fun u hu => by simp [It.cells] at hu; rcases hu with rfl | rfl | rfl <;> rfl) (by unfold maxLen; omega) (by omega) ?_)); intro A3 cap3 w6 q6 ch6 or6; have hb6 := below_step ch6 (by assumption) (fun z hz => hg2 z (by rw [← ownBlock_slice A2 d.f.q.length cap2]; simpa using hz)); have hg6 := app_low or6 (show Below v.heap.size v _ from by assumption) (fun z hz => hg2 z (by rw [← ownBlock_slice A2 d.f.q.length cap2]; exact hz))); simp only [Act.put, List.setIfInBounds_toArray, List.set_cons_zero, List.set_cons_succ]; refine lexg_both (by (first | exact r1.drew | exact r1.drew.alloc (Nat.le_refl _) _ | exact (r1.drew.alloc (Nat.le_refl _) _).alloc (by simp) _ | exact hb6 | exact hb2 | exact hb2.alloc hb2.size _)) (fun hS1 => ?_))
        (apply lexg_pure (by rfl); (focus (intro w; go_simp; (try with_reducible rfl); done)); simp only [Act.put, List.setIfInBounds_toArray, List.set_cons_zero, List.set_cons_succ])
        (refine lexg_effN (by rfl) ?_; go_simp)
        refine lexg_nil (fun _ => wpAnyG_done (by kernel_rfl) ?_ _)
      rotate_left
    rotate_left 2
    focus
      apply lexg_act (by simp only [List.getElem?_toArray, List.getElem?_cons_succ, List.getElem?_cons_zero]; rfl) (by rfl)
      go_simp
      refine lexg_both (by (first | exact r1.drew | exact r1.drew.alloc (Nat.le_refl _) _ | exact (r1.drew.alloc (Nat.le_refl _) _).alloc (by simp) _ | exact hb6 | exact hb2 | exact hb2.alloc hb2.size _)) (fun hS1 => ?_)
      refine lexg_more 0 [(1, 0), (1, 3), (1, 6), (2, 7), (3, 8)] #[true, true, true, true, true, true, true, true, true] (by kernel_rfl) (by decide) (by kernel_rfl) (by kernel_rfl) (fun _ _ _ _ _ h => h) (fun _ => by assumption) ?_
      simp only [List.map_cons, List.map_nil, List.getElem?_toArray, List.getElem?_cons_succ, List.getElem?_cons_zero]
      (refine lexg_eff (by rfl) ?_; go_simp; refine lexg_both (by (first | exact r1.drew | exact r1.drew.alloc (Nat.le_refl _) _ | exact (r1.drew.alloc (Nat.le_refl _) _).alloc (by simp) _ | exact hb6 | exact hb2 | exact hb2.alloc hb2.size _)) (fun hS1 => ?_))
      (refine lexg_eff (by rfl) ?_; ((first | (refine wp_append_src _ _ _ 72 rfl 36 i0 _ 3 24 Try.underlying72 hi0 hz0 hz1 hz2 rfl (by decide) (.slice (some ⟨v.heap.size, 0, none⟩) 0 0) 0 [] rfl (by first | exact Que.freshB _ _ rfl | exact (Que.freshB _ _ rfl).drewD | exact (Que.freshB _ _ rfl).below ((Below.refl _ _).alloc (Nat.le_refl _) _) | exact ((Que.freshB _ _ rfl).below ((Below.refl _ _).alloc (Nat.le_refl _) _)).drewD) d.A d.f.q.length d.c v.heap.size (itCells d.f.q) rfl (HQR.out _ (by assumption)) (itCells_one _) (by unfold maxLen; omega) (by omega) ?_) | (refine wp_append_src _ _ _ 72 rfl 36 i0 _ 3 24 Try.underlying72 hi0 hz0 hz1 hz2 rfl (by decide) (.slice (some ⟨v.heap.size + 1, 0, none⟩) 0 0) 0 [] rfl (by first | exact Que.freshB _ _ (by simp) | exact (Que.freshB _ _ (by simp)).drewD) d.A d.f.q.length d.c v.heap.size (itCells d.f.q) rfl (HQR.out _ (by assumption)) (itCells_one _) (by unfold maxLen; omega) (by omega) ?_)); intro A2 cap2 w2 q2 ch2 or2; rw [Nat.zero_add, List.nil_append] at q2; simp only [Nat.zero_add]; have hb2 := below_step ch2 (by assumption) (fun z hz => by simp [Value.ownBlock] at hz; omega); have hg2 := app_low or2 (show Below v.heap.size v _ from by assumption) (fun z hz => by simp [Value.ownBlock] at hz; omega)); simp only [Act.put, List.setIfInBounds_toArray, List.set_cons_zero, List.set_cons_succ]; refine lexg_both (by (first | exact r1.drew | exact r1.drew.alloc (Nat.le_refl _) _ | exact (r1.drew.alloc (Nat.le_refl _) _).alloc (by simp) _ | exact hb6 | exact hb2 | exact hb2.alloc hb2.size _)) (fun hS1 => ?_))
      (refine lexg_eff (by rfl) ?_; ((first | (refine wp_append_src _ _ _ 72 rfl 36 i0 _ 3 24 Try.underlying72 hi0 hz0 hz1 hz2 rfl (by decide) (.slice A2 d.f.q.length cap2) d.f.q.length (itCells d.f.q) rfl (q2.below ((Below.refl _ _).alloc (Nat.le_refl _) _)) (some ⟨w2.heap.size, 0, none⟩) 1 1 _ x.cells rfl ((Blk.new rfl).reads rfl (Nat.lt_succ_self _)) (fun u hu => by simp [It.cells] at hu; rcases hu with rfl | rfl | rfl <;> rfl) (by unfold maxLen; omega) (by omega) ?_) | (refine wp_append_src _ _ _ 72 rfl 36 i0 _ 3 24 Try.underlying72 hi0 hz0 hz1 hz2 rfl (by decide) (.slice A2 d.f.q.length cap2) d.f.q.length (itCells d.f.q) rfl (q2) (some ⟨v.heap.size + 1, 0, none⟩) 1 1 _ x.cells rfl ((by first | exact (Blk.chg (Blk.new (by simp)) ch2 (by simp [Value.ownBlock])).reads rfl (Nat.lt_succ_self _) | exact (Blk.chg (Blk.drewD (Blk.new (by simp))) ch2 (by simp [Value.ownBlock])).reads rfl (Nat.lt_succ_self _))) (fun u hu => by simp [It.cells] at hu; rcases hu with rfl | rfl | rfl <;> rfl) (by unfold maxLen; omega) (by omega) ?_) | (refine wp_append_src _ _ _ 72 rfl 36 i0 _ 3 24 Try.underlying72 hi0 hz0 hz1 hz2 rfl (by decide) (.slice A2 d.f.q.length cap2) d.f.q.length (itCells d.f.q) rfl (q2) (some ⟨v.heap.size, 0, none⟩) 1 1 _ x.cells rfl ((by first | exact (Blk.chg ((Blk.new rfl).alloc _) ch2 (by simp [Value.ownBlock])).reads rfl (Nat.lt_succ_self _) | exact (Blk.chg (Blk.drewD ((Blk.new rfl).alloc _)) ch2 (by simp [Value.ownBlock])).reads rfl (Nat.lt_succ_self _))) (fun u hu => by simp [It.cells] at hu; rcases hu with rfl | rfl | rfl <;> rfl) (by unfold maxLen; omega) (by omega) ?_)); intro A3 cap3 w6 q6 ch6 or6; have hb6 := below_step ch6 (by assumption) (fun z hz => hg2 z (by rw [← ownBlock_slice A2 d.f.q.length cap2]; simpa using hz)); have hg6 := app_low or6 (show Below v.heap.size v _ from by assumption) (fun z hz => hg2 z (by rw [← ownBlock_slice A2 d.f.q.length cap2]; exact hz))); simp only [Act.put, List.setIfInBounds_toArray, List.set_cons_zero, List.set_cons_succ]; refine lexg_both (by (first | exact r1.drew | exact r1.drew.alloc (Nat.le_refl _) _ | exact (r1.drew.alloc (Nat.le_refl _) _).alloc (by simp) _ | exact hb6 | exact hb2 | exact hb2.alloc hb2.size _)) (fun hS1 => ?_))
      (apply lexg_pure (by rfl); (focus (intro w; go_simp; (try with_reducible rfl); done)); simp only [Act.put, List.setIfInBounds_toArray, List.set_cons_zero, List.set_cons_succ])
      (refine lexg_effN (by rfl) ?_; go_simp)
      refine lexg_nil (fun _ => wpAnyG_done (by kernel_rfl) ?_ _)
    rotate_left
    all_goals
      have hll : (d.f.q ++ [x]).length = d.f.q.length + 1 := by simp
      have hq6 : Reads w6 w6.heap.size 3 A3 (d.f.q ++ [x]).length (itCells (d.f.q ++ [x])) := by
        rw [hll, show itCells (d.f.q ++ [x]) = itCells d.f.q ++ x.cells by simp [itCells]]
        refine ⟨q6.1, fun h0 => ?_⟩
        obtain ⟨g, q, cp, e, _, _, hgl, hcl⟩ := q6.at_ h0
        injection e with e _ _
        exact ⟨g, q, e, hgl, hcl⟩
      have hcap : (d.f.q ++ [x]).length ≤ cap3 := by
        obtain ⟨_, _, e, hle, _⟩ := q6.form
        injection e with _ _ e
        rw [hll, e]
        exact hle
      have ch8 : Chg [w0.heap.size] w6 (w6.setCell ⟨w0.heap.size, 9, none⟩ (.slice A3 (d.f.q.length + 1) cap3)) := (Chg.refl _ _).setCell (Or.inl (by simp)) _
      have B8 : Blk (w6.setCell ⟨w0.heap.size, 9, none⟩ (.slice A3 (d.f.q.length + 1) cap3)) w0.heap.size 74 (Dl.cells ⟨⟨d.f.id, d.f.ver, d.f.p, d.f.c, d.f.q ++ [x]⟩, A3, cap3⟩) := by
        have := (HF.out.below hb6).set 9 (.slice A3 (d.f.q.length + 1) cap3)
        rw [show Dl.cells ⟨⟨d.f.id, d.f.ver, d.f.p, d.f.c, d.f.q ++ [x]⟩, A3, cap3⟩ = (Dl.cells ⟨⟨d.f.id, d.f.ver, d.f.p, d.f.c, d.f.q⟩, d.A, d.c⟩).set 9 (.slice A3 (d.f.q.length + 1) cap3) by simp [Dl.cells, Dl.lv]]
        exact this
      have hG0 : ∀ z ∈ G, z < w0.heap.size := H0.out.lt
      have hg6' : ∀ z, A3.map Addr.block = some z → v.heap.size ≤ z := hg6
      have hlt6 : ∀ z, A3.map Addr.block = some z → z < w6.heap.size := fun z hz => q6.lt (by rw [ownBlock_slice]; exact hz)
      have hv0 := HBV.out.size
      have D8 : Doc (w6.setCell ⟨w0.heap.size, 9, none⟩ (.slice A3 (d.f.q.length + 1) cap3)) ((A3.map Addr.block).toList ++ G) (.slice (some ⟨b, o, none⟩) D.length c) D :=
        ((HDV.out.below hb6).chg ch8 (fun z hz hm => by
          have := hG0 z hz
          rw [List.mem_singleton.1 hm] at this
          omega)).more (fun z hz => List.mem_append_right _ hz) (fun z hz => by
          have hsz := ch8.size
          rcases List.mem_append.1 hz with hz | hz
          · exact Nat.lt_of_lt_of_le (hlt6 z (by simpa using hz)) hsz
          · have := hG0 z hz
            have := hb6.size
            omega)
      have Q8 : Qr (w6.setCell ⟨w0.heap.size, 9, none⟩ (.slice A3 (d.f.q.length + 1) cap3)) ((A3.map Addr.block).toList ++ G) ⟨⟨d.f.id, d.f.ver, d.f.p, d.f.c, d.f.q ++ [x]⟩, A3, cap3⟩ :=
        ⟨hq6.keepG (Nat.le_refl _) ch8.size ch8 (fun b2 o2 e hm => by
          subst e
          have := hg6' b2 rfl
          have h0 := HF.out.lt
          rw [List.mem_singleton] at hm
          omega), hcap, fun b2 o2 e => by
          subst e
          exact List.mem_append_left _ (by simp)⟩
      have hB8 : Below w.heap.size w (w6.setCell ⟨w0.heap.size, 9, none⟩ (.slice A3 (d.f.q.length + 1) cap3)) := by
        have h1 := HR0.out.size
        exact ((HR0.out.trans (HBV.out.mono h1)).trans (hb6.mono (by omega))).setCell (p := ⟨w0.heap.size, 9, none⟩) (by simp only; omega) _
      have hG2 : ∀ z ∈ (A3.map Addr.block).toList ++ G, z ∈ G ∨ w.heap.size ≤ z := fun z hz => by
        rcases List.mem_append.1 hz with hz | hz
        · have := hg6' z (by simpa using hz)
          have := HR0.out.size
          exact Or.inr (by omega)
        · exact Or.inl hz
      obtain ⟨w8, hw8⟩ : ∃ w8, w6.setCell ⟨w0.heap.size, 9, none⟩ (.slice A3 (d.f.q.length + 1) cap3) = w8 := ⟨_, rfl⟩
      rw [hw8] at B8 D8 Q8 hB8
      rw [hw8]
      have g0 : w8.cell? ⟨w0.heap.size, 0, none⟩ = some (.int .i64 d.f.id) := B8.cell 0
      have g1 : w8.cell? ⟨w0.heap.size, 1, none⟩ = some (.int .i64 d.f.ver) := B8.cell 1
      have g2 : w8.cell? ⟨w0.heap.size, 2, none⟩ = some (.int .i64 d.f.p.r) := B8.cell 2
      have g3 : w8.cell? ⟨w0.heap.size, 3, none⟩ = some (.int .i64 d.f.p.w) := B8.cell 3
      have g4 : w8.cell? ⟨w0.heap.size, 4, none⟩ = some (.int .i64 d.f.p.l) := B8.cell 4
      have g5 : w8.cell? ⟨w0.heap.size, 5, none⟩ = some (.int .i64 d.f.p.b) := B8.cell 5
      have g6 : w8.cell? ⟨w0.heap.size, 6, none⟩ = some (.int .i64 (d.f.c).r) := B8.cell 6
      have g7 : w8.cell? ⟨w0.heap.size, 7, none⟩ = some (.int .i64 (d.f.c).p) := B8.cell 7
      have g8 : w8.cell? ⟨w0.heap.size, 8, none⟩ = some (.int .i64 (d.f.c).l) := B8.cell 8
      have g9 : w8.cell? ⟨w0.heap.size, 9, none⟩ = some (.slice A3 (d.f.q ++ [x]).length cap3) := B8.cell 9
      rw [hll] at g9
      have HWI := hide (with12_calls i ⟨⟨d.f.id, d.f.ver, d.f.p, d.f.c, d.f.q ++ [x]⟩, A3, cap3⟩ D8 rfl hnn hi Q8)
      have HB8 := hide hB8
      have HG2 := hide hG2
      have HLL := hide hll
      clear q6 ch6 or6 hg6 hb6 hq6 hcap ch8 B8 hG0 hg6' hlt6 hv0 D8 Q8 hB8 hG2 hw8 hll q2 ch2 or2 hb2 hg2 d9 f9 x0 x1 x2
      go_wp2_with fail
      rw [← HLL.out]
      refine HWI.out.mono ?_
      rintro e w9 ⟨vv, rfl, hout⟩
      have HO := hide (hout.from2 HB8.out HG2.out)
      clear hout HWI g0 g1 g2 g3 g4 g5 g6 g7 g8 g9
      go_wp2
      refine bodyPost_ret (v := .tuple #[vv, .int .i64 0]) (by simp [results, Try.results25, go_sem, *]) rfl ?_
      refine ⟨i, hi, by rw [HDD.out]; exact HID.out, vv, A3, cap3, rfl, ?_⟩
      rw [HDD.out, if_neg HQ0.out]
      skip
      exact HO.out
end Go.Proofs.Ytjdkafamaoeifaa
