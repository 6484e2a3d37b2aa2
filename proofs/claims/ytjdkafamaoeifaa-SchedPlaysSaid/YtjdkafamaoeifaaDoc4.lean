/- The document of layer 12: Set. -/
import Derived.Test.YtjdkafamaoeifaaDoc3
namespace Go.Proofs.Ytjdkafamaoeifaa
open Go.RowKit Go.Proofs Go.Maps
set_option linter.unusedVariables false
set_option linter.unusedSimpArgs false

theorem DocOut.from_ {w w1 w' : World} {G : List Nat} {n : Nat} {D : List Dl} {v : Value} (h : DocOut w1 G n D v w') (hb : Below w.heap.size w w1) : DocOut w G n D v w' := by
  obtain ⟨A, c, G', rfl, hn, hd, hg, hb2⟩ := h
  exact ⟨A, c, G', rfl, hn, hd, fun z hz => (hg z hz).imp id (fun h => Nat.le_trans hb.size h), hb.trans (hb2.mono hb.size)⟩
theorem Qr.below {w w' : World} {G : List Nat} {d : Dl} (h : Qr w G d) (hb : Below w.heap.size w w') : Qr w' G d := ⟨(h.1.below hb).more hb.size, h.2.1, h.2.2⟩
set_option maxHeartbeats 4000000 in
set_option maxRecDepth 100000 in
theorem set12_bad {w : World} {A : Option Addr} {n c : Nat} (id ver : Int) (p : Pol) (hb : id < 0 ∨ ver < 0 ∨ right p.r p.w p.l p.b = false) :
    Calls Try.prog 24 #[.slice A n c, .int .i64 id, .int .i64 ver, .agg #[.int .i64 p.r, .int .i64 p.w, .int .i64 p.l, .int .i64 p.b]] w fun e w' => e = .returned (.tuple #[.slice A n c, .int .i64 1]) ∧ Below w.heap.size w w' := by
  have B0 := Blk.new (w := w) (b := w.heap.size) (cs := [.int .i64 p.r, .int .i64 p.w, .int .i64 p.l, .int .i64 p.b]) (t := 29) rfl
  have bb : Below w.heap.size w (w.alloc (.cells #[.int .i64 p.r, .int .i64 p.w, .int .i64 p.l, .int .i64 p.b] 29)) := (Below.refl _ _).alloc (Nat.le_refl _) _
  have b0 : (w.alloc (.cells #[.int .i64 p.r, .int .i64 p.w, .int .i64 p.l, .int .i64 p.b] 29)).cell? ⟨w.heap.size, 0, none⟩ = some (.int .i64 p.r) := B0.cell 0
  have b1 : (w.alloc (.cells #[.int .i64 p.r, .int .i64 p.w, .int .i64 p.l, .int .i64 p.b] 29)).cell? ⟨w.heap.size, 1, none⟩ = some (.int .i64 p.w) := B0.cell 1
  have b2 : (w.alloc (.cells #[.int .i64 p.r, .int .i64 p.w, .int .i64 p.l, .int .i64 p.b] 29)).cell? ⟨w.heap.size, 2, none⟩ = some (.int .i64 p.l) := B0.cell 2
  have b3 : (w.alloc (.cells #[.int .i64 p.r, .int .i64 p.w, .int .i64 p.l, .int .i64 p.b] 29)).cell? ⟨w.heap.size, 3, none⟩ = some (.int .i64 p.b) := B0.cell 3
  by_cases h1 : id < 0
  · clear b0 b1 b2 b3 B0
    go_enter Try.func24, Try.ntmps24
    go_wp2
    refine bodyPost_ret (v := .tuple #[.slice A n c, .int .i64 1]) (by simp [results, Try.results24, go_sem, *]) rfl ?_
    exact ⟨rfl, bb⟩
  · by_cases h2 : ver < 0
    · clear b0 b1 b2 b3 B0
      go_enter Try.func24, Try.ntmps24
      go_wp2
      refine bodyPost_ret (v := .tuple #[.slice A n c, .int .i64 1]) (by simp [results, Try.results24, go_sem, *]) rfl ?_
      exact ⟨rfl, bb⟩
    · have h3 : right p.r p.w p.l p.b = false := by
        rcases hb with h | h | h
        · exact absurd h h1
        · exact absurd h h2
        · exact h
      clear B0 hb
      go_enter Try.func24, Try.ntmps24
      go_wp2_with fail
      with_reducible refine (rRight_calls _ _ _ _ _).mono ?_
      rintro e w1 ⟨rfl, hb1⟩
      rw [h3]
      have R := bb.trans (hb1.mono bb.size)
      clear b0 b1 b2 b3 hb1 bb
      go_wp2
      refine bodyPost_ret (v := .tuple #[.slice A n c, .int .i64 1]) (by simp [results, Try.results24, go_sem, *]) rfl ?_
      exact ⟨rfl, R⟩
set_option maxHeartbeats 4000000 in
set_option maxRecDepth 100000 in
theorem set12_has {w : World} {G : List Nat} {A : Option Addr} {n c : Nat} {D : List Dl} (id ver : Int) (p : Pol) (h : Doc w G (.slice A n c) D) (hn : D.length = n) (hnn : n ≤ 1000000) (hid : 0 ≤ id) (hver : 0 ≤ ver) (hp : right p.r p.w p.l p.b = true) (hex : ∃ d ∈ D, d.f.id = id) :
    Calls Try.prog 24 #[.slice A n c, .int .i64 id, .int .i64 ver, .agg #[.int .i64 p.r, .int .i64 p.w, .int .i64 p.l, .int .i64 p.b]] w fun e w' => ∃ i, ∃ hi : i < D.length, D[i].f.id = id ∧
      ((ver < D[i].f.ver ∧ e = .returned (.tuple #[.slice A n c, .int .i64 13]) ∧ Below w.heap.size w w') ∨
       (D[i].f.ver ≤ ver ∧ ∃ v, e = .returned (.tuple #[v, .int .i64 0]) ∧ DocOut w G n (D.set i ⟨⟨id, ver, p, D[i].f.c, D[i].f.q⟩, D[i].A, D[i].c⟩) v w')) := by
  have HDOC := hide h
  subst hn
  have hb0 : Below w.heap.size w (w.alloc (.cells #[.int .i64 p.r, .int .i64 p.w, .int .i64 p.l, .int .i64 p.b] 29)) := (Below.refl _ _).alloc (Nat.le_refl _) _
  obtain ⟨w0, hw0⟩ : ∃ w0, w.alloc (.cells #[.int .i64 p.r, .int .i64 p.w, .int .i64 p.l, .int .i64 p.b] 29) = w0 := ⟨_, rfl⟩
  have B0 : Blk w0 w.heap.size 29 [.int .i64 p.r, .int .i64 p.w, .int .i64 p.l, .int .i64 p.b] := by rw [← hw0]; exact Blk.new rfl
  have b0 : w0.cell? ⟨w.heap.size, 0, none⟩ = some (.int .i64 p.r) := B0.cell 0
  have b1 : w0.cell? ⟨w.heap.size, 1, none⟩ = some (.int .i64 p.w) := B0.cell 1
  have b2 : w0.cell? ⟨w.heap.size, 2, none⟩ = some (.int .i64 p.l) := B0.cell 2
  have b3 : w0.cell? ⟨w.heap.size, 3, none⟩ = some (.int .i64 p.b) := B0.cell 3
  rw [hw0] at hb0
  have HW0 := hide hw0
  have i1 : ¬ (id < 0) := by omega
  have i2 : ¬ (ver < 0) := by omega
  go_enter Try.func24, Try.ntmps24
  have hn0 : w.alloc (.cells #[.int .i64 p.r, .int .i64 p.w, .int .i64 p.l, .int .i64 p.b] 29) = w0 := HW0.out
  clear hw0
  go_wp2_with fail
  clear hn0
  with_reducible refine (rRight_calls _ _ _ _ _).mono ?_
  rintro e w1 ⟨rfl, hb1⟩
  rw [hp]
  have R1 := hb0.trans (hb1.mono hb0.size)
  have B1 := B0.below hb1
  have h1 := h.below R1
  have HAT := hide (at12_calls id h1 rfl hnn)
  have HB1 := hide B1
  have H1 := hide h1
  have HR1 := hide R1
  clear b0 b1 b2 b3 B0 hb1 hb0 h h1 B1 R1
  go_wp2_with fail
  refine HAT.out.mono ?_
  rintro e w2 ⟨⟨z, rfl, hz⟩, rfl⟩
  rcases hz with ⟨_, hno⟩ | ⟨i, hi, rfl, hDi⟩
  · obtain ⟨d, hd, e⟩ := hex
    exact absurd e (hno d hd)
  obtain ⟨b, o, c2, hv, hc1, hc2, hbb, hcell⟩ := H1.out.at_ hi
  injection hv with e1 _ e3
  subst e1 e3
  obtain ⟨d, hd⟩ : ∃ d, D[i] = d := ⟨_, rfl⟩
  have k0 : w1.cell? ⟨b, o + i * 10, none⟩ = some (.int .i64 d.f.id) := by
    have := hcell 0 (by omega)
    rw [hd] at this
    exact this
  have k1 : w1.cell? ⟨b, o + i * 10 + 1, none⟩ = some (.int .i64 d.f.ver) := by
    have := hcell 1 (by omega)
    rw [hd] at this
    exact this
  have k2 : w1.cell? ⟨b, o + i * 10 + 2, none⟩ = some (.int .i64 d.f.p.r) := by
    have := hcell 2 (by omega)
    rw [hd] at this
    exact this
  have k3 : w1.cell? ⟨b, o + i * 10 + 3, none⟩ = some (.int .i64 d.f.p.w) := by
    have := hcell 3 (by omega)
    rw [hd] at this
    exact this
  have k4 : w1.cell? ⟨b, o + i * 10 + 4, none⟩ = some (.int .i64 d.f.p.l) := by
    have := hcell 4 (by omega)
    rw [hd] at this
    exact this
  have k5 : w1.cell? ⟨b, o + i * 10 + 5, none⟩ = some (.int .i64 d.f.p.b) := by
    have := hcell 5 (by omega)
    rw [hd] at this
    exact this
  have k6 : w1.cell? ⟨b, o + i * 10 + 6, none⟩ = some (.int .i64 d.f.c.r) := by
    have := hcell 6 (by omega)
    rw [hd] at this
    exact this
  have k7 : w1.cell? ⟨b, o + i * 10 + 7, none⟩ = some (.int .i64 d.f.c.p) := by
    have := hcell 7 (by omega)
    rw [hd] at this
    exact this
  have k8 : w1.cell? ⟨b, o + i * 10 + 8, none⟩ = some (.int .i64 d.f.c.l) := by
    have := hcell 8 (by omega)
    rw [hd] at this
    exact this
  have k9 : w1.cell? ⟨b, o + i * 10 + 9, none⟩ = some (.slice d.A d.f.q.length d.c) := by
    have := hcell 9 (by omega)
    rw [hd] at this
    exact this
  have HDD := hide hd
  rw [hd] at hDi
  have HID := hide hDi
  have j1 : (i : Int) < D.length := by omega
  have j2 : ¬ ((i : Int) < 0) := by omega
  have j3 : (0 : Int) ≤ i := by omega
  clear hcell hd hDi
  by_cases hv : ver < d.f.ver
  · go_wp2
    refine bodyPost_ret (v := .tuple #[.slice (some ⟨b, o, none⟩) D.length c, .int .i64 13]) (by simp [results, Try.results24, go_sem, *]) rfl ?_
    exact ⟨i, hi, by rw [HDD.out]; exact HID.out, Or.inl ⟨by rw [HDD.out]; exact hv, rfl, HR1.out⟩⟩
  · have t0 : HB1.out.cell 0 = HB1.out.cell 0 := rfl
    clear t0
    have b0 : w1.cell? ⟨w.heap.size, 0, none⟩ = some (.int .i64 p.r) := HB1.out.cell 0
    have b1 : w1.cell? ⟨w.heap.size, 1, none⟩ = some (.int .i64 p.w) := HB1.out.cell 1
    have b2 : w1.cell? ⟨w.heap.size, 2, none⟩ = some (.int .i64 p.l) := HB1.out.cell 2
    have b3 : w1.cell? ⟨w.heap.size, 3, none⟩ = some (.int .i64 p.b) := HB1.out.cell 3
    have hlt := HB1.out.lt
    have nb1 : ¬ (w.heap.size = w1.heap.size) := by omega
    have nb2 : ¬ (w1.heap.size = w.heap.size) := by omega
    have nb3 : ¬ (b = w1.heap.size) := by omega
    have nb4 : ¬ (w1.heap.size = b) := by omega
    have HHI := hide hi
    go_wp2_with fail
    have bb2 : Below w1.heap.size w1 (w1.alloc (.cells #[.int .i64 d.f.id, .int .i64 ver, .int .i64 p.r, .int .i64 p.w, .int .i64 p.l, .int .i64 p.b, .int .i64 d.f.c.r, .int .i64 d.f.c.p, .int .i64 d.f.c.l, .slice d.A d.f.q.length d.c] 74)) := (Below.refl _ _).alloc (Nat.le_refl _) _
    refine (with12_calls i ⟨⟨d.f.id, ver, p, d.f.c, d.f.q⟩, d.A, d.c⟩ (H1.out.below bb2) rfl hnn HHI.out (by
      have := (H1.out.q d (by rw [← HDD.out]; exact List.getElem_mem _))
      exact Qr.below (d := ⟨⟨d.f.id, ver, p, d.f.c, d.f.q⟩, d.A, d.c⟩) this bb2)).mono ?_
    rintro e w3 ⟨v, rfl, hout⟩
    have hout' := (hout.from_ bb2).from_ HR1.out
    have HO := hide hout'
    clear hout hout' bb2 k0 k1 k2 k3 k4 k5 k6 k7 k8 k9 b0 b1 b2 b3 hlt nb1 nb2 nb3 nb4
    go_wp2
    refine bodyPost_ret (v := .tuple #[v, .int .i64 0]) (by simp [results, Try.results24, go_sem, *]) rfl ?_
    refine ⟨i, hi, by rw [HDD.out]; exact HID.out, Or.inr ⟨by rw [HDD.out]; omega, v, rfl, ?_⟩⟩
    have := HO.out
    rw [HID.out] at this
    rw [HDD.out]
    exact this
set_option maxHeartbeats 4000000 in
set_option maxRecDepth 100000 in
theorem set12_new {w : World} {G : List Nat} {A : Option Addr} {n c : Nat} {D : List Dl} (id ver : Int) (p : Pol) (h : Doc w G (.slice A n c) D) (hn : D.length = n) (hnn : n ≤ 1000000) (hid : 0 ≤ id) (hver : 0 ≤ ver) (hp : right p.r p.w p.l p.b = true) (hno : ∀ d ∈ D, d.f.id ≠ id) :
    Calls Try.prog 24 #[.slice A n c, .int .i64 id, .int .i64 ver, .agg #[.int .i64 p.r, .int .i64 p.w, .int .i64 p.l, .int .i64 p.b]] w fun e w' => ∃ k, k ≤ D.length ∧ (∀ j, ∀ hj : j < D.length, j < k → D[j].f.id < id) ∧ (∀ hk : k < D.length, id ≤ D[k].f.id) ∧
      ∃ v, e = .returned (.tuple #[v, .int .i64 0]) ∧ DocOut w G (n + 1) (D.take k ++ ⟨⟨id, ver, p, ⟨0, 0, 0⟩, []⟩, none, 0⟩ :: D.drop k) v w' := by
  obtain ⟨i0, hi0, hz0, hz1, hz2⟩ := info_parts Try.infoFl
  have HNO := hide hno
  clear hno
  have HDOC := hide h
  subst hn
  have hb0 : Below w.heap.size w (w.alloc (.cells #[.int .i64 p.r, .int .i64 p.w, .int .i64 p.l, .int .i64 p.b] 29)) := (Below.refl _ _).alloc (Nat.le_refl _) _
  obtain ⟨w0, hw0⟩ : ∃ w0, w.alloc (.cells #[.int .i64 p.r, .int .i64 p.w, .int .i64 p.l, .int .i64 p.b] 29) = w0 := ⟨_, rfl⟩
  have B0 : Blk w0 w.heap.size 29 [.int .i64 p.r, .int .i64 p.w, .int .i64 p.l, .int .i64 p.b] := by rw [← hw0]; exact Blk.new rfl
  have b0 : w0.cell? ⟨w.heap.size, 0, none⟩ = some (.int .i64 p.r) := B0.cell 0
  have b1 : w0.cell? ⟨w.heap.size, 1, none⟩ = some (.int .i64 p.w) := B0.cell 1
  have b2 : w0.cell? ⟨w.heap.size, 2, none⟩ = some (.int .i64 p.l) := B0.cell 2
  have b3 : w0.cell? ⟨w.heap.size, 3, none⟩ = some (.int .i64 p.b) := B0.cell 3
  rw [hw0] at hb0
  have HW0 := hide hw0
  have i1 : ¬ (id < 0) := by omega
  have i2 : ¬ (ver < 0) := by omega
  go_enter Try.func24, Try.ntmps24
  have hn0 : w.alloc (.cells #[.int .i64 p.r, .int .i64 p.w, .int .i64 p.l, .int .i64 p.b] 29) = w0 := HW0.out
  clear hw0
  go_wp2_with fail
  clear hn0
  with_reducible refine (rRight_calls _ _ _ _ _).mono ?_
  rintro e w1 ⟨rfl, hb1⟩
  rw [hp]
  have R1 := hb0.trans (hb1.mono hb0.size)
  have B1 := B0.below hb1
  have h1 := h.below R1
  have HAT := hide (at12_calls id h1 rfl hnn)
  have HB1 := hide B1
  have H1 := hide h1
  have HR1 := hide R1
  clear b0 b1 b2 b3 B0 hb1 hb0 h h1 B1 R1
  go_wp2_with fail
  refine HAT.out.mono ?_
  rintro e w2 ⟨⟨z, rfl, hz⟩, rfl⟩
  obtain rfl : z = -1 := by
    rcases hz with ⟨h, _⟩ | ⟨i, hi, _, hDi⟩
    · exact h
    · exact absurd hDi (HNO.out _ (List.getElem_mem hi))
  clear hz
  obtain ⟨A', c', hv, hc1, hc2⟩ := H1.out.form
  injection hv with e1 e2 e3
  subst e1 e3
  have b0 : w1.cell? ⟨w.heap.size, 0, none⟩ = some (.int .i64 p.r) := HB1.out.cell 0
  have b1 : w1.cell? ⟨w.heap.size, 1, none⟩ = some (.int .i64 p.w) := HB1.out.cell 1
  have b2 : w1.cell? ⟨w.heap.size, 2, none⟩ = some (.int .i64 p.l) := HB1.out.cell 2
  have b3 : w1.cell? ⟨w.heap.size, 3, none⟩ = some (.int .i64 p.b) := HB1.out.cell 3
  clear e2
  go_wp2_with fail
  go_loop [12] (fun kv => ∃ k : Nat, k ≤ D.length ∧ kv = .int .i64 k ∧ ∀ j, ∀ hj : j < D.length, j < k → D[j].f.id < id) (fun kv => D.length - (intOf kv).toNat)
  case atStart => exact ⟨0, Nat.zero_le _, rfl, fun j _ h => absurd h (by omega)⟩
  case round =>
    obtain ⟨k, hk, rfl, hq⟩ := hrel
    have HK := hide hq
    clear hq
    by_cases hkl : k < D.length
    · obtain ⟨b, o, c2, hv, _, _, hbb, hcell⟩ := H1.out.at_ hkl
      injection hv with e1 _ e3
      subst e1 e3
      obtain ⟨x, hx⟩ : ∃ x, D[k].f.id = x := ⟨_, rfl⟩
      have g0 : w1.cell? ⟨b, o + k * 10, none⟩ = some (.int .i64 x) := by
        rw [← hx]
        exact hcell 0 (by omega)
      have HX := hide hx
      have HKL := hide hkl
      have j1 : (k : Int) < D.length := by omega
      have j2 : (k : Int) ≤ c := by omega
      have j3 : (D.length : Int) ≤ c := by omega
      have j4 : (0 : Int) ≤ k := by omega
      have j5 : ¬ (c = k) := by omega
      clear hcell hx
      by_cases hlt : x < id
      · go_wp2
        go_round
        case rel => exact ⟨k + 1, HKL.out, by go_num, fun j hj h => by
          by_cases e : j = k
          · subst e; rw [HX.out]; exact hlt
          · exact HK.out j hj (by omega)⟩
        case measure => simp [intOf]; omega
      · have hfin : ∀ hk : k < D.length, id ≤ D[k].f.id := fun _ => by rw [HX.out]; omega
        have HF := hide hfin
        clear hfin
        have hcut := (H1.out.reads rfl).cut (k := k) (cap := c) hk hc1
        rw [if_neg j5, Option.map_some, add_addr] at hcut
        have HRD := hide hcut
        clear hcut
        have HMM := hide (show k + 1 + (D.length - k) = D.length + 1 by omega)
        have HT := hide (show Reads (w1.alloc (.cells #[] 74)) w1.heap.size 10 (some ⟨b, o, none⟩) k ((dlCells D).take (k * 10)) from Reads.alloc ((H1.out.reads rfl).take hk) (Nat.le_refl _) _)
        have hk6 : k ≤ 1000000 := by omega
        go_wp2_with (at_builtin; refine wpl_append_src _ rfl _ _ 62 rfl 74 i0 _ 10 96 Try.underlying62 hi0 hz0 hz1 hz2 rfl (by decide) (.slice (some ⟨w1.heap.size, 0, none⟩) 0 0) 0 [] rfl (Que.fresh w1 _ 10) (some ⟨b, o, none⟩) k _ w1.heap.size ((dlCells D).take (k * 10)) rfl HT.out (fun u hu => dlCells_one D u (List.mem_of_mem_take hu)) ?a3 ?a4 ?_)
        case a3 => unfold maxLen; omega
        case a4 => omega
        intro A2 cap2 w2 q2 ch2 or2
        have hb2 : Below w1.heap.size w1 w2 := Chg.onto ((Below.refl _ _).alloc (Nat.le_refl _) _) (by simp) ch2 (fun z hz => by
          have : z = w1.heap.size := by simpa [Value.ownBlock] using hz
          omega)
        have hg2 : ∀ z, (Value.slice A2 k cap2).ownBlock = some z → w1.heap.size ≤ z := fun z hz => by
          rw [ownBlock_slice] at hz
          cases A2 with
          | none => cases hz
          | some a2 =>
            have hz2 : a2.block = z := by simpa using hz
            rcases or2 _ rfl with h | h
            · have : w1.heap.size = a2.block := by simpa [Value.ownBlock] using h
              omega
            · omega
        have B2 := HB1.out.below hb2
        have b0 : w2.cell? ⟨w.heap.size, 0, none⟩ = some (.int .i64 p.r) := B2.cell 0
        have b1 : w2.cell? ⟨w.heap.size, 1, none⟩ = some (.int .i64 p.w) := B2.cell 1
        have b2 : w2.cell? ⟨w.heap.size, 2, none⟩ = some (.int .i64 p.l) := B2.cell 2
        have b3 : w2.cell? ⟨w.heap.size, 3, none⟩ = some (.int .i64 p.b) := B2.cell 3
        have q2' : Que (w2.alloc (.cells (#[.int .i64 id, .int .i64 ver, .int .i64 p.r, .int .i64 p.w, .int .i64 p.l, .int .i64 p.b, .int .i64 0, .int .i64 0, .int .i64 0, .slice none 0 0] : Array Value) 74)) 74 10 (.slice A2 k cap2) k ((dlCells D).take (k * 10)) := q2.below ((Below.refl _ _).alloc (Nat.le_refl _) _)
        have HQ2 := hide q2'
        have HB2 := hide hb2
        have HG2 := hide hg2
        clear q2 q2' ch2 or2 hb2 hg2 B2 HT
        go_wp2_with (at_builtin; refine wpl_append_src _ rfl _ _ 62 rfl 74 i0 _ 10 96 Try.underlying62 hi0 hz0 hz1 hz2 rfl (by decide) (.slice A2 k cap2) k ((dlCells D).take (k * 10)) rfl HQ2.out (some ⟨w2.heap.size, 0, none⟩) 1 _ (w2.heap.size + 1) (#[.int .i64 id, .int .i64 ver, .int .i64 p.r, .int .i64 p.w, .int .i64 p.l, .int .i64 p.b, .int .i64 0, .int .i64 0, .int .i64 0, .slice none 0 0] : Array Value).toList rfl (Reads.new rfl (Nat.lt_succ_self _) rfl) (fun u hu => by simp only [List.mem_cons, List.not_mem_nil, or_false] at hu; rcases hu with rfl | rfl | rfl | rfl | rfl | rfl | rfl | rfl | rfl | rfl <;> rfl) ?a3 ?a4 ?_)
        case a3 => unfold maxLen; omega
        case a4 => omega
        intro A3 cap3 w3 q3 ch3 or3
        have hb3 : Below w1.heap.size w1 w3 := Chg.onto (HB2.out.alloc HB2.out.size _) (by have := HB2.out.size; simp; omega) ch3 (fun z hz => HG2.out z (by simpa using hz))
        have hg3 : ∀ z, (Value.slice A3 (k + 1) cap3).ownBlock = some z → w1.heap.size ≤ z := fun z hz => by
          rw [ownBlock_slice] at hz
          cases A3 with
          | none => cases hz
          | some a2 =>
            have hz2 : a2.block = z := by simpa using hz
            rcases or3 _ rfl with h | h
            · rw [hz2] at h; exact HG2.out z h
            · have := HB2.out.size; omega
        have HQ3 := hide q3
        have HB3 := hide hb3
        have HG3 := hide hg3
        clear q3 ch3 or3 hb3 hg3 b0 b1 b2 b3
        go_wp2_with (at_builtin; refine wpl_append_src _ rfl _ _ 62 rfl 74 i0 _ 10 96 Try.underlying62 hi0 hz0 hz1 hz2 rfl (by decide) (.slice A3 (k + 1) cap3) (k + 1) _ rfl HQ3.out (some ⟨b, o + k * 10, none⟩) (D.length - k) _ w1.heap.size ((dlCells D).drop (k * 10)) rfl (HRD.out.below HB3.out) (fun u hu => dlCells_one D u (List.mem_of_mem_drop hu)) ?a3 ?a4 ?_)
        case a3 => unfold maxLen; omega
        case a4 => omega
        intro A4 cap4 w4 q4 ch4 or4
        have hb4 : Below w1.heap.size w1 w4 := Chg.onto HB3.out HB3.out.size ch4 (fun z hz => HG3.out z (by simpa using hz))
        have hg4 : ∀ z, A4.map Addr.block = some z → w1.heap.size ≤ z := fun z hz => by
          cases A4 with
          | none => cases hz
          | some a2 =>
            have hz2 : a2.block = z := by simpa using hz
            rcases or4 _ rfl with h | h
            · rw [hz2] at h; exact HG3.out z h
            · have := HB3.out.size; omega
        have hlen : (D.take k ++ (⟨⟨id, ver, p, ⟨0, 0, 0⟩, []⟩, none, 0⟩ : Dl) :: D.drop k).length = D.length + 1 := by
          rw [List.length_append, List.length_cons, List.length_take, List.length_drop]; omega
        have hcell : dlCells (D.take k ++ (⟨⟨id, ver, p, ⟨0, 0, 0⟩, []⟩, none, 0⟩ : Dl) :: D.drop k) = (dlCells D).take (k * 10) ++ .int .i64 id :: .int .i64 ver :: .int .i64 p.r :: .int .i64 p.w :: .int .i64 p.l :: .int .i64 p.b :: .int .i64 0 :: .int .i64 0 :: .int .i64 0 :: .slice none 0 0 :: (dlCells D).drop (k * 10) := by
          rw [dlCells_take D k hk, dlCells_drop D k hk, dlCells_append]
          rfl
        have q5 : Que w4 74 10 (.slice A4 (D.length + 1) cap4) (D.length + 1) (dlCells (D.take k ++ (⟨⟨id, ver, p, ⟨0, 0, 0⟩, []⟩, none, 0⟩ : Dl) :: D.drop k)) := by
          rw [hcell]
          rw [← HMM.out]
          exact q4
        have hout := (H1.out.fresh hb4 q5 hlen (fun x hx => by
          rcases List.mem_append.1 hx with hx | hx
          · exact H1.out.q x (List.mem_of_mem_take hx)
          · rcases List.mem_cons.1 hx with rfl | hx
            · exact ⟨Reads.none_, Nat.le_refl _, fun b o e => by cases e⟩
            · exact H1.out.q x (List.mem_of_mem_drop hx)) hg4).from_ HR1.out
        have HO := hide hout
        clear q4 ch4 or4 hb4 hg4 hlen hcell q5 hout
        go_wp2
        refine bodyPost_ret (v := .tuple #[.slice A4 (D.length + 1) cap4, .int .i64 0]) (by
          have e := HMM.out
          simp [results, Try.results24, go_sem, *]) rfl ?_
        exact ⟨k, hk, HK.out, HF.out, _, rfl, HO.out⟩
    · have e : k = D.length := by omega
      have j1 : ¬ ((k : Int) < D.length) := by omega
      have hfin : ∀ hk : k < D.length, id ≤ D[k].f.id := fun h => absurd h hkl
      have HF := hide hfin
      clear hfin
      rcases H1.out.row.2 with ⟨e0, e1⟩ | ⟨b, o, cap, cur, e0, _⟩
      · injection e0 with ea eb ec
        subst ea
        have j2 : (k : Int) ≤ c := by omega
        have j3 : (D.length : Int) ≤ c := by omega
        have j4 : (0 : Int) ≤ k := by omega
        have HRD := hide (show Reads w1 w1.heap.size 10 none 0 ((dlCells D).drop (k * 10)) from ⟨by rw [List.length_drop, dlCells_length]; omega, fun h => absurd h (by omega)⟩)
        have HMM := hide (show k + 1 + 0 = D.length + 1 by omega)
        have hdk : D.length - k = 0 := by omega
        have j6 : (k : Int) ≤ D.length := by omega
        clear e hkl e1 eb ec
        have HT := hide (show Reads (w1.alloc (.cells #[] 74)) w1.heap.size 10 none k ((dlCells D).take (k * 10)) from Reads.alloc ((H1.out.reads rfl).take hk) (Nat.le_refl _) _)
        have hk6 : k ≤ 1000000 := by omega
        go_wp2_with (at_builtin; refine wpl_append_src _ rfl _ _ 62 rfl 74 i0 _ 10 96 Try.underlying62 hi0 hz0 hz1 hz2 rfl (by decide) (.slice (some ⟨w1.heap.size, 0, none⟩) 0 0) 0 [] rfl (Que.fresh w1 _ 10) none k _ w1.heap.size ((dlCells D).take (k * 10)) rfl HT.out (fun u hu => dlCells_one D u (List.mem_of_mem_take hu)) ?a3 ?a4 ?_)
        case a3 => unfold maxLen; omega
        case a4 => omega
        intro A2 cap2 w2 q2 ch2 or2
        have hb2 : Below w1.heap.size w1 w2 := Chg.onto ((Below.refl _ _).alloc (Nat.le_refl _) _) (by simp) ch2 (fun z hz => by
          have : z = w1.heap.size := by simpa [Value.ownBlock] using hz
          omega)
        have hg2 : ∀ z, (Value.slice A2 k cap2).ownBlock = some z → w1.heap.size ≤ z := fun z hz => by
          rw [ownBlock_slice] at hz
          cases A2 with
          | none => cases hz
          | some a2 =>
            have hz2 : a2.block = z := by simpa using hz
            rcases or2 _ rfl with h | h
            · have : w1.heap.size = a2.block := by simpa [Value.ownBlock] using h
              omega
            · omega
        have B2 := HB1.out.below hb2
        have b0 : w2.cell? ⟨w.heap.size, 0, none⟩ = some (.int .i64 p.r) := B2.cell 0
        have b1 : w2.cell? ⟨w.heap.size, 1, none⟩ = some (.int .i64 p.w) := B2.cell 1
        have b2 : w2.cell? ⟨w.heap.size, 2, none⟩ = some (.int .i64 p.l) := B2.cell 2
        have b3 : w2.cell? ⟨w.heap.size, 3, none⟩ = some (.int .i64 p.b) := B2.cell 3
        have q2' : Que (w2.alloc (.cells (#[.int .i64 id, .int .i64 ver, .int .i64 p.r, .int .i64 p.w, .int .i64 p.l, .int .i64 p.b, .int .i64 0, .int .i64 0, .int .i64 0, .slice none 0 0] : Array Value) 74)) 74 10 (.slice A2 k cap2) k ((dlCells D).take (k * 10)) := q2.below ((Below.refl _ _).alloc (Nat.le_refl _) _)
        have HQ2 := hide q2'
        have HB2 := hide hb2
        have HG2 := hide hg2
        clear q2 q2' ch2 or2 hb2 hg2 B2 HT
        go_wp2_with (at_builtin; refine wpl_append_src _ rfl _ _ 62 rfl 74 i0 _ 10 96 Try.underlying62 hi0 hz0 hz1 hz2 rfl (by decide) (.slice A2 k cap2) k ((dlCells D).take (k * 10)) rfl HQ2.out (some ⟨w2.heap.size, 0, none⟩) 1 _ (w2.heap.size + 1) (#[.int .i64 id, .int .i64 ver, .int .i64 p.r, .int .i64 p.w, .int .i64 p.l, .int .i64 p.b, .int .i64 0, .int .i64 0, .int .i64 0, .slice none 0 0] : Array Value).toList rfl (Reads.new rfl (Nat.lt_succ_self _) rfl) (fun u hu => by simp only [List.mem_cons, List.not_mem_nil, or_false] at hu; rcases hu with rfl | rfl | rfl | rfl | rfl | rfl | rfl | rfl | rfl | rfl <;> rfl) ?a3 ?a4 ?_)
        case a3 => unfold maxLen; omega
        case a4 => omega
        intro A3 cap3 w3 q3 ch3 or3
        have hb3 : Below w1.heap.size w1 w3 := Chg.onto (HB2.out.alloc HB2.out.size _) (by have := HB2.out.size; simp; omega) ch3 (fun z hz => HG2.out z (by simpa using hz))
        have hg3 : ∀ z, (Value.slice A3 (k + 1) cap3).ownBlock = some z → w1.heap.size ≤ z := fun z hz => by
          rw [ownBlock_slice] at hz
          cases A3 with
          | none => cases hz
          | some a2 =>
            have hz2 : a2.block = z := by simpa using hz
            rcases or3 _ rfl with h | h
            · rw [hz2] at h; exact HG2.out z h
            · have := HB2.out.size; omega
        have HQ3 := hide q3
        have HB3 := hide hb3
        have HG3 := hide hg3
        clear q3 ch3 or3 hb3 hg3 b0 b1 b2 b3
        go_wp2_with (at_builtin; refine wpl_append_src _ rfl _ _ 62 rfl 74 i0 _ 10 96 Try.underlying62 hi0 hz0 hz1 hz2 rfl (by decide) (.slice A3 (k + 1) cap3) (k + 1) _ rfl HQ3.out none 0 _ w1.heap.size ((dlCells D).drop (k * 10)) rfl (HRD.out.below HB3.out) (fun u hu => dlCells_one D u (List.mem_of_mem_drop hu)) ?a3 ?a4 ?_)
        case a3 => unfold maxLen; omega
        case a4 => omega
        intro A4 cap4 w4 q4 ch4 or4
        have hb4 : Below w1.heap.size w1 w4 := Chg.onto HB3.out HB3.out.size ch4 (fun z hz => HG3.out z (by simpa using hz))
        have hg4 : ∀ z, A4.map Addr.block = some z → w1.heap.size ≤ z := fun z hz => by
          cases A4 with
          | none => cases hz
          | some a2 =>
            have hz2 : a2.block = z := by simpa using hz
            rcases or4 _ rfl with h | h
            · rw [hz2] at h; exact HG3.out z h
            · have := HB3.out.size; omega
        have hlen : (D.take k ++ (⟨⟨id, ver, p, ⟨0, 0, 0⟩, []⟩, none, 0⟩ : Dl) :: D.drop k).length = D.length + 1 := by
          rw [List.length_append, List.length_cons, List.length_take, List.length_drop]; omega
        have hcell : dlCells (D.take k ++ (⟨⟨id, ver, p, ⟨0, 0, 0⟩, []⟩, none, 0⟩ : Dl) :: D.drop k) = (dlCells D).take (k * 10) ++ .int .i64 id :: .int .i64 ver :: .int .i64 p.r :: .int .i64 p.w :: .int .i64 p.l :: .int .i64 p.b :: .int .i64 0 :: .int .i64 0 :: .int .i64 0 :: .slice none 0 0 :: (dlCells D).drop (k * 10) := by
          rw [dlCells_take D k hk, dlCells_drop D k hk, dlCells_append]
          rfl
        have q5 : Que w4 74 10 (.slice A4 (D.length + 1) cap4) (D.length + 1) (dlCells (D.take k ++ (⟨⟨id, ver, p, ⟨0, 0, 0⟩, []⟩, none, 0⟩ : Dl) :: D.drop k)) := by
          rw [hcell]
          rw [← HMM.out]
          exact q4
        have hout := (H1.out.fresh hb4 q5 hlen (fun x hx => by
          rcases List.mem_append.1 hx with hx | hx
          · exact H1.out.q x (List.mem_of_mem_take hx)
          · rcases List.mem_cons.1 hx with rfl | hx
            · exact ⟨Reads.none_, Nat.le_refl _, fun b o e => by cases e⟩
            · exact H1.out.q x (List.mem_of_mem_drop hx)) hg4).from_ HR1.out
        have HO := hide hout
        clear q4 ch4 or4 hb4 hg4 hlen hcell q5 hout
        go_wp2
        refine bodyPost_ret (v := .tuple #[.slice A4 (D.length + 1) cap4, .int .i64 0]) (by
          have e := HMM.out
          simp [results, Try.results24, go_sem, *]) rfl ?_
        exact ⟨k, hk, HK.out, HF.out, _, rfl, HO.out⟩
      · injection e0 with ea eb ec
        subst ea ec
        have j2 : (k : Int) ≤ c := by omega
        have j3 : (D.length : Int) ≤ c := by omega
        have j4 : (0 : Int) ≤ k := by omega
        have hcut := (H1.out.reads rfl).cut (k := k) (cap := c) hk hc1
        rw [show D.length - k = 0 by omega] at hcut
        have HMM := hide (show k + 1 + 0 = D.length + 1 by omega)
        have hdk : D.length - k = 0 := by omega
        have j6 : (k : Int) ≤ D.length := by omega
        clear e hkl
        by_cases j5 : c = k
        · rw [if_pos j5] at hcut
          have HRD := hide hcut
          clear hcut
          have HT := hide (show Reads (w1.alloc (.cells #[] 74)) w1.heap.size 10 (some ⟨b, o, none⟩) k ((dlCells D).take (k * 10)) from Reads.alloc ((H1.out.reads rfl).take hk) (Nat.le_refl _) _)
          have hk6 : k ≤ 1000000 := by omega
          go_wp2_with (at_builtin; refine wpl_append_src _ rfl _ _ 62 rfl 74 i0 _ 10 96 Try.underlying62 hi0 hz0 hz1 hz2 rfl (by decide) (.slice (some ⟨w1.heap.size, 0, none⟩) 0 0) 0 [] rfl (Que.fresh w1 _ 10) (some ⟨b, o, none⟩) k _ w1.heap.size ((dlCells D).take (k * 10)) rfl HT.out (fun u hu => dlCells_one D u (List.mem_of_mem_take hu)) ?a3 ?a4 ?_)
          case a3 => unfold maxLen; omega
          case a4 => omega
          intro A2 cap2 w2 q2 ch2 or2
          have hb2 : Below w1.heap.size w1 w2 := Chg.onto ((Below.refl _ _).alloc (Nat.le_refl _) _) (by simp) ch2 (fun z hz => by
            have : z = w1.heap.size := by simpa [Value.ownBlock] using hz
            omega)
          have hg2 : ∀ z, (Value.slice A2 k cap2).ownBlock = some z → w1.heap.size ≤ z := fun z hz => by
            rw [ownBlock_slice] at hz
            cases A2 with
            | none => cases hz
            | some a2 =>
              have hz2 : a2.block = z := by simpa using hz
              rcases or2 _ rfl with h | h
              · have : w1.heap.size = a2.block := by simpa [Value.ownBlock] using h
                omega
              · omega
          have B2 := HB1.out.below hb2
          have b0 : w2.cell? ⟨w.heap.size, 0, none⟩ = some (.int .i64 p.r) := B2.cell 0
          have b1 : w2.cell? ⟨w.heap.size, 1, none⟩ = some (.int .i64 p.w) := B2.cell 1
          have b2 : w2.cell? ⟨w.heap.size, 2, none⟩ = some (.int .i64 p.l) := B2.cell 2
          have b3 : w2.cell? ⟨w.heap.size, 3, none⟩ = some (.int .i64 p.b) := B2.cell 3
          have q2' : Que (w2.alloc (.cells (#[.int .i64 id, .int .i64 ver, .int .i64 p.r, .int .i64 p.w, .int .i64 p.l, .int .i64 p.b, .int .i64 0, .int .i64 0, .int .i64 0, .slice none 0 0] : Array Value) 74)) 74 10 (.slice A2 k cap2) k ((dlCells D).take (k * 10)) := q2.below ((Below.refl _ _).alloc (Nat.le_refl _) _)
          have HQ2 := hide q2'
          have HB2 := hide hb2
          have HG2 := hide hg2
          clear q2 q2' ch2 or2 hb2 hg2 B2 HT
          go_wp2_with (at_builtin; refine wpl_append_src _ rfl _ _ 62 rfl 74 i0 _ 10 96 Try.underlying62 hi0 hz0 hz1 hz2 rfl (by decide) (.slice A2 k cap2) k ((dlCells D).take (k * 10)) rfl HQ2.out (some ⟨w2.heap.size, 0, none⟩) 1 _ (w2.heap.size + 1) (#[.int .i64 id, .int .i64 ver, .int .i64 p.r, .int .i64 p.w, .int .i64 p.l, .int .i64 p.b, .int .i64 0, .int .i64 0, .int .i64 0, .slice none 0 0] : Array Value).toList rfl (Reads.new rfl (Nat.lt_succ_self _) rfl) (fun u hu => by simp only [List.mem_cons, List.not_mem_nil, or_false] at hu; rcases hu with rfl | rfl | rfl | rfl | rfl | rfl | rfl | rfl | rfl | rfl <;> rfl) ?a3 ?a4 ?_)
          case a3 => unfold maxLen; omega
          case a4 => omega
          intro A3 cap3 w3 q3 ch3 or3
          have hb3 : Below w1.heap.size w1 w3 := Chg.onto (HB2.out.alloc HB2.out.size _) (by have := HB2.out.size; simp; omega) ch3 (fun z hz => HG2.out z (by simpa using hz))
          have hg3 : ∀ z, (Value.slice A3 (k + 1) cap3).ownBlock = some z → w1.heap.size ≤ z := fun z hz => by
            rw [ownBlock_slice] at hz
            cases A3 with
            | none => cases hz
            | some a2 =>
              have hz2 : a2.block = z := by simpa using hz
              rcases or3 _ rfl with h | h
              · rw [hz2] at h; exact HG2.out z h
              · have := HB2.out.size; omega
          have HQ3 := hide q3
          have HB3 := hide hb3
          have HG3 := hide hg3
          clear q3 ch3 or3 hb3 hg3 b0 b1 b2 b3
          go_wp2_with (at_builtin; refine wpl_append_src _ rfl _ _ 62 rfl 74 i0 _ 10 96 Try.underlying62 hi0 hz0 hz1 hz2 rfl (by decide) (.slice A3 (k + 1) cap3) (k + 1) _ rfl HQ3.out (some ⟨b, o, none⟩) 0 _ w1.heap.size ((dlCells D).drop (k * 10)) rfl (HRD.out.below HB3.out) (fun u hu => dlCells_one D u (List.mem_of_mem_drop hu)) ?a3 ?a4 ?_)
          case a3 => unfold maxLen; omega
          case a4 => omega
          intro A4 cap4 w4 q4 ch4 or4
          have hb4 : Below w1.heap.size w1 w4 := Chg.onto HB3.out HB3.out.size ch4 (fun z hz => HG3.out z (by simpa using hz))
          have hg4 : ∀ z, A4.map Addr.block = some z → w1.heap.size ≤ z := fun z hz => by
            cases A4 with
            | none => cases hz
            | some a2 =>
              have hz2 : a2.block = z := by simpa using hz
              rcases or4 _ rfl with h | h
              · rw [hz2] at h; exact HG3.out z h
              · have := HB3.out.size; omega
          have hlen : (D.take k ++ (⟨⟨id, ver, p, ⟨0, 0, 0⟩, []⟩, none, 0⟩ : Dl) :: D.drop k).length = D.length + 1 := by
            rw [List.length_append, List.length_cons, List.length_take, List.length_drop]; omega
          have hcell : dlCells (D.take k ++ (⟨⟨id, ver, p, ⟨0, 0, 0⟩, []⟩, none, 0⟩ : Dl) :: D.drop k) = (dlCells D).take (k * 10) ++ .int .i64 id :: .int .i64 ver :: .int .i64 p.r :: .int .i64 p.w :: .int .i64 p.l :: .int .i64 p.b :: .int .i64 0 :: .int .i64 0 :: .int .i64 0 :: .slice none 0 0 :: (dlCells D).drop (k * 10) := by
            rw [dlCells_take D k hk, dlCells_drop D k hk, dlCells_append]
            rfl
          have q5 : Que w4 74 10 (.slice A4 (D.length + 1) cap4) (D.length + 1) (dlCells (D.take k ++ (⟨⟨id, ver, p, ⟨0, 0, 0⟩, []⟩, none, 0⟩ : Dl) :: D.drop k)) := by
            rw [hcell]
            rw [← HMM.out]
            exact q4
          have hout := (H1.out.fresh hb4 q5 hlen (fun x hx => by
            rcases List.mem_append.1 hx with hx | hx
            · exact H1.out.q x (List.mem_of_mem_take hx)
            · rcases List.mem_cons.1 hx with rfl | hx
              · exact ⟨Reads.none_, Nat.le_refl _, fun b o e => by cases e⟩
              · exact H1.out.q x (List.mem_of_mem_drop hx)) hg4).from_ HR1.out
          have HO := hide hout
          clear q4 ch4 or4 hb4 hg4 hlen hcell q5 hout
          go_wp2
          refine bodyPost_ret (v := .tuple #[.slice A4 (D.length + 1) cap4, .int .i64 0]) (by
            have e := HMM.out
            simp [results, Try.results24, go_sem, *]) rfl ?_
          exact ⟨k, hk, HK.out, HF.out, _, rfl, HO.out⟩
        · rw [if_neg j5, Option.map_some, add_addr] at hcut
          have HRD := hide hcut
          clear hcut
          have HT := hide (show Reads (w1.alloc (.cells #[] 74)) w1.heap.size 10 (some ⟨b, o, none⟩) k ((dlCells D).take (k * 10)) from Reads.alloc ((H1.out.reads rfl).take hk) (Nat.le_refl _) _)
          have hk6 : k ≤ 1000000 := by omega
          go_wp2_with (at_builtin; refine wpl_append_src _ rfl _ _ 62 rfl 74 i0 _ 10 96 Try.underlying62 hi0 hz0 hz1 hz2 rfl (by decide) (.slice (some ⟨w1.heap.size, 0, none⟩) 0 0) 0 [] rfl (Que.fresh w1 _ 10) (some ⟨b, o, none⟩) k _ w1.heap.size ((dlCells D).take (k * 10)) rfl HT.out (fun u hu => dlCells_one D u (List.mem_of_mem_take hu)) ?a3 ?a4 ?_)
          case a3 => unfold maxLen; omega
          case a4 => omega
          intro A2 cap2 w2 q2 ch2 or2
          have hb2 : Below w1.heap.size w1 w2 := Chg.onto ((Below.refl _ _).alloc (Nat.le_refl _) _) (by simp) ch2 (fun z hz => by
            have : z = w1.heap.size := by simpa [Value.ownBlock] using hz
            omega)
          have hg2 : ∀ z, (Value.slice A2 k cap2).ownBlock = some z → w1.heap.size ≤ z := fun z hz => by
            rw [ownBlock_slice] at hz
            cases A2 with
            | none => cases hz
            | some a2 =>
              have hz2 : a2.block = z := by simpa using hz
              rcases or2 _ rfl with h | h
              · have : w1.heap.size = a2.block := by simpa [Value.ownBlock] using h
                omega
              · omega
          have B2 := HB1.out.below hb2
          have b0 : w2.cell? ⟨w.heap.size, 0, none⟩ = some (.int .i64 p.r) := B2.cell 0
          have b1 : w2.cell? ⟨w.heap.size, 1, none⟩ = some (.int .i64 p.w) := B2.cell 1
          have b2 : w2.cell? ⟨w.heap.size, 2, none⟩ = some (.int .i64 p.l) := B2.cell 2
          have b3 : w2.cell? ⟨w.heap.size, 3, none⟩ = some (.int .i64 p.b) := B2.cell 3
          have q2' : Que (w2.alloc (.cells (#[.int .i64 id, .int .i64 ver, .int .i64 p.r, .int .i64 p.w, .int .i64 p.l, .int .i64 p.b, .int .i64 0, .int .i64 0, .int .i64 0, .slice none 0 0] : Array Value) 74)) 74 10 (.slice A2 k cap2) k ((dlCells D).take (k * 10)) := q2.below ((Below.refl _ _).alloc (Nat.le_refl _) _)
          have HQ2 := hide q2'
          have HB2 := hide hb2
          have HG2 := hide hg2
          clear q2 q2' ch2 or2 hb2 hg2 B2 HT
          go_wp2_with (at_builtin; refine wpl_append_src _ rfl _ _ 62 rfl 74 i0 _ 10 96 Try.underlying62 hi0 hz0 hz1 hz2 rfl (by decide) (.slice A2 k cap2) k ((dlCells D).take (k * 10)) rfl HQ2.out (some ⟨w2.heap.size, 0, none⟩) 1 _ (w2.heap.size + 1) (#[.int .i64 id, .int .i64 ver, .int .i64 p.r, .int .i64 p.w, .int .i64 p.l, .int .i64 p.b, .int .i64 0, .int .i64 0, .int .i64 0, .slice none 0 0] : Array Value).toList rfl (Reads.new rfl (Nat.lt_succ_self _) rfl) (fun u hu => by simp only [List.mem_cons, List.not_mem_nil, or_false] at hu; rcases hu with rfl | rfl | rfl | rfl | rfl | rfl | rfl | rfl | rfl | rfl <;> rfl) ?a3 ?a4 ?_)
          case a3 => unfold maxLen; omega
          case a4 => omega
          intro A3 cap3 w3 q3 ch3 or3
          have hb3 : Below w1.heap.size w1 w3 := Chg.onto (HB2.out.alloc HB2.out.size _) (by have := HB2.out.size; simp; omega) ch3 (fun z hz => HG2.out z (by simpa using hz))
          have hg3 : ∀ z, (Value.slice A3 (k + 1) cap3).ownBlock = some z → w1.heap.size ≤ z := fun z hz => by
            rw [ownBlock_slice] at hz
            cases A3 with
            | none => cases hz
            | some a2 =>
              have hz2 : a2.block = z := by simpa using hz
              rcases or3 _ rfl with h | h
              · rw [hz2] at h; exact HG2.out z h
              · have := HB2.out.size; omega
          have HQ3 := hide q3
          have HB3 := hide hb3
          have HG3 := hide hg3
          clear q3 ch3 or3 hb3 hg3 b0 b1 b2 b3
          go_wp2_with (at_builtin; refine wpl_append_src _ rfl _ _ 62 rfl 74 i0 _ 10 96 Try.underlying62 hi0 hz0 hz1 hz2 rfl (by decide) (.slice A3 (k + 1) cap3) (k + 1) _ rfl HQ3.out (some ⟨b, o + k * 10, none⟩) 0 _ w1.heap.size ((dlCells D).drop (k * 10)) rfl (HRD.out.below HB3.out) (fun u hu => dlCells_one D u (List.mem_of_mem_drop hu)) ?a3 ?a4 ?_)
          case a3 => unfold maxLen; omega
          case a4 => omega
          intro A4 cap4 w4 q4 ch4 or4
          have hb4 : Below w1.heap.size w1 w4 := Chg.onto HB3.out HB3.out.size ch4 (fun z hz => HG3.out z (by simpa using hz))
          have hg4 : ∀ z, A4.map Addr.block = some z → w1.heap.size ≤ z := fun z hz => by
            cases A4 with
            | none => cases hz
            | some a2 =>
              have hz2 : a2.block = z := by simpa using hz
              rcases or4 _ rfl with h | h
              · rw [hz2] at h; exact HG3.out z h
              · have := HB3.out.size; omega
          have hlen : (D.take k ++ (⟨⟨id, ver, p, ⟨0, 0, 0⟩, []⟩, none, 0⟩ : Dl) :: D.drop k).length = D.length + 1 := by
            rw [List.length_append, List.length_cons, List.length_take, List.length_drop]; omega
          have hcell : dlCells (D.take k ++ (⟨⟨id, ver, p, ⟨0, 0, 0⟩, []⟩, none, 0⟩ : Dl) :: D.drop k) = (dlCells D).take (k * 10) ++ .int .i64 id :: .int .i64 ver :: .int .i64 p.r :: .int .i64 p.w :: .int .i64 p.l :: .int .i64 p.b :: .int .i64 0 :: .int .i64 0 :: .int .i64 0 :: .slice none 0 0 :: (dlCells D).drop (k * 10) := by
            rw [dlCells_take D k hk, dlCells_drop D k hk, dlCells_append]
            rfl
          have q5 : Que w4 74 10 (.slice A4 (D.length + 1) cap4) (D.length + 1) (dlCells (D.take k ++ (⟨⟨id, ver, p, ⟨0, 0, 0⟩, []⟩, none, 0⟩ : Dl) :: D.drop k)) := by
            rw [hcell]
            rw [← HMM.out]
            exact q4
          have hout := (H1.out.fresh hb4 q5 hlen (fun x hx => by
            rcases List.mem_append.1 hx with hx | hx
            · exact H1.out.q x (List.mem_of_mem_take hx)
            · rcases List.mem_cons.1 hx with rfl | hx
              · exact ⟨Reads.none_, Nat.le_refl _, fun b o e => by cases e⟩
              · exact H1.out.q x (List.mem_of_mem_drop hx)) hg4).from_ HR1.out
          have HO := hide hout
          clear q4 ch4 or4 hb4 hg4 hlen hcell q5 hout
          go_wp2
          refine bodyPost_ret (v := .tuple #[.slice A4 (D.length + 1) cap4, .int .i64 0]) (by
            have e := HMM.out
            simp [results, Try.results24, go_sem, *]) rfl ?_
          exact ⟨k, hk, HK.out, HF.out, _, rfl, HO.out⟩
end Go.Proofs.Ytjdkafamaoeifaa
