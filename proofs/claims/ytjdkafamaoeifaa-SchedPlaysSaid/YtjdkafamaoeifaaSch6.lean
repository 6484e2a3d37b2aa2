/- The walks through sched.Pick. -/
import Derived.Test.YtjdkafamaoeifaaSch5
namespace Go.Proofs.Ytjdkafamaoeifaa
open Go.RowKit Go.Proofs Go.Maps
set_option linter.unusedVariables false
set_option linter.unusedSimpArgs false

def best (X : List Fl) (key : Fl → Int) (may : Fl → Bool) (i : Nat) : Prop :=
  ∃ hi : i < X.length, up X[i] = true ∧ may X[i] = true ∧ ∀ f ∈ X, up f = true → may f = true → key X[i] < key f ∨ (key X[i] = key f ∧ X[i].id ≤ f.id)
def mayR (tag : Int) (f : Fl) : Bool := byReserve f.p f.c tag
def mayL (tag : Int) (f : Fl) : Bool := byLimit f.p f.c tag
/-- who is picked, in which phase -/
def Picks (X : List Fl) (tag : Int) (i : Nat) (phase : Int) : Prop :=
  (phase = 1 ∧ best X kR (mayR tag) i) ∨ (phase = 2 ∧ (∀ f ∈ X, up f = true → mayR tag f = false) ∧ best X kP (mayL tag) i)
theorem Picks.lt {X : List Fl} {tag : Int} {i : Nat} {phase : Int} (h : Picks X tag i phase) : ∃ hi : i < X.length, X[i].q ≠ [] := by
  have : ∀ key may, best X key may i → ∃ hi : i < X.length, X[i].q ≠ [] := fun key may ⟨hi, hu, _⟩ => ⟨hi, by intro e; simp [up, e] at hu⟩
  rcases h with ⟨_, h⟩ | ⟨_, _, h⟩ <;> exact this _ _ h
/-- a flow whose first item was taken -/
def popped (f : Fl) (tag phase : Int) (x : It) (rest : List It) : Fl := ⟨f.id, f.ver, f.p, charge f.p f.c tag phase x.delta x.rho, rest⟩
theorem FmAt.pop {w w' : World} {m m2 : Fm} {x : It} {rest : List It} {g o o' cap cap' n : Nat} {R : List Nat} (h : FmAt w m) (hq : m.f.q = x :: rest) (hn : m.f.q.length = n) (hv : m.qv = .slice (some ⟨g, o, none⟩) n cap) (ho : o' = o + 3 ∨ (o' = o ∧ cap = 1)) (hcp : cap' = cap - 1)
    (hc : Chg (m.b :: R) w w') (hR : ∀ z ∈ m.foot, z ∉ R) (h1 : m2.b = m.b) (h2 : m2.f.q = rest) (h3 : m2.qv = .slice (some ⟨g, o', none⟩) (n - 1) cap') (hb : Blk w' m.b 87 m2.cells) :
    FmAt w' m2 ∧ ∀ z ∈ m2.foot, z ∈ m.foot := by
  have hgm : m.qv.ownBlock = some g := by rw [hv]; rfl
  have hne := foot_not_own h hgm
  have hgf : g ∈ m.foot := by simp [Fm.foot, hgm]
  have hnn : 0 < n := by rw [← hn, hq]; simp
  have hQ := h.2
  rw [hn, hv] at hQ
  have hT := Que.tail hQ hnn hcp ho
  refine ⟨⟨by rw [h1]; exact hb, ?_⟩, fun z hz => ?_⟩
  · rw [h2, h3, show rest.length = n - 1 by rw [← hn, hq]; simp]
    have e : (itCells m.f.q).drop 3 = itCells rest := by rw [hq]; simp [itCells, It.cells]
    rw [e] at hT
    exact hT.chg hc (fun z hz hm => by
      have : g = z := by simpa [Value.ownBlock] using hz
      subst this
      rcases List.mem_cons.1 hm with e | hm
      · exact hne e.symm
      · exact hR _ hgf hm)
  · have : z = m.b ∨ z = g := by simpa [Fm.foot, h1, h3, Value.ownBlock] using hz
    rcases this with rfl | rfl
    · simp [Fm.foot]
    · exact hgf
theorem SM.chg {w w' : World} {ps bm : Nat} {role : Nat → Int} {Ms : List Fm} {LR LW : List Ld} {svR mvR svW mvW : Value} {FR FW G : List Nat} (h : SM w ps bm role Ms LR LW svR mvR svW mvW FR FW) (hc : Chg G w w') (h1 : ps ∉ G) (h2 : bm ∉ G) (h3 : ∀ z ∈ FR, z ∉ G) (h4 : ∀ z ∈ FW, z ∉ G) (h5 : ∀ m ∈ Ms, ∀ z ∈ m.foot, z ∉ G) :
    SM w' ps bm role Ms LR LW svR mvR svW mvW FR FW :=
  ⟨h.blk.chg hc h1, h.map.chg hc h2, h.hr.chg hc h3, h.hw.chg hc h4, fun m hm => (h.fl m hm).chg hc (h5 m hm), h.nd, h.ps_, h.bm_, h.rR, h.rW, h.rF⟩
/-- what 'Pick' does -/
def PickOut (w : World) (ps : Nat) (F : List Nat) (X : List Fl) (tag : Int) (e : Ending) (w' : World) : Prop :=
  (e = .returned (.tuple #[.int .i64 0, .agg #[.int .i64 0, .int .i64 0, .int .i64 0], .int .i64 0, .bool false]) ∧ (∀ f ∈ X, up f = true → mayL tag f = false) ∧ Below w.heap.size w w') ∨
  ∃ (i : Nat) (phase : Int) (f : Fl) (x : It) (rest : List It), Picks X tag i phase ∧ (∃ hi : i < X.length, X[i] = f) ∧ f.q = x :: rest ∧
    e = .returned (.tuple #[.int .i64 f.id, .agg #[.int .i64 x.name, .int .i64 x.delta, .int .i64 x.rho], .int .i64 phase, .bool true]) ∧ Turn w w' ps F (X.set i (popped f tag phase x rest))
theorem mayR_L {tag : Int} {f : Fl} (h : mayL tag f = false) : mayR tag f = false := by
  unfold mayR byReserve
  unfold mayL at h
  rw [h]
  rfl
set_option maxHeartbeats 16000000 in
set_option maxRecDepth 100000 in
theorem spick_calls (w : World) (ps : Nat) (F : List Nat) (X : List Fl) (now : Int) (h : SS w ps F X) (hX : X.length ≤ 900) :
    Calls Try.prog 15 #[.pointer (some ⟨ps, 0, none⟩), .int .i64 now] w (PickOut w ps F X (at_ now)) := by
  have HND := hide h.nodup
  have hids := h.ids
  obtain ⟨LR, LW, ⟨bm, role, Ms, svR, mvR, svW, mvW, FR, FW, h, rfl, hF⟩, hSR, hSW⟩ := h
  have HLR : Hid (LR.length ≤ 900) := hide (Nat.le_trans hSR.len hX)
  have HLW : Hid (LW.length ≤ 900) := hide (Nat.le_trans hSW.len hX)
  have HKR := hide (hSR.ids hids)
  have HKW := hide (hSW.ids hids)
  have HSR := hide hSR
  have HSW := hide hSW
  have HF := hide hF
  have HLTA := hide h.lt
  have HLT : Hid (∀ m ∈ Ms, ∀ z ∈ m.foot, z < w.heap.size) := hide h.lt.2.2.2.2
  have B0 := Blk.new (w := w) (cs := [.int .i64 0, .int .i64 0, .int .i64 0]) (t := 36) rfl
  have bb := (Below.refl w.heap.size w).alloc (Nat.le_refl _) (.cells [.int .i64 0, .int .i64 0, .int .i64 0].toArray 36)
  obtain ⟨w0, hw0⟩ : ∃ w0, w.alloc (.cells [.int .i64 0, .int .i64 0, .int .i64 0].toArray 36) = w0 := ⟨_, rfl⟩
  rw [hw0] at B0 bb
  have HW := hide hw0
  have h0 := h.below bb
  have HFR := hide (find_reserve w0 ps bm role Ms LR LW svR mvR svW mvW FR FW h0 (plR ps bm svW mvW) LR (ps :: FR) h0.atR kR hSR HLR.out (at_ now))
  have H0 := hide h0
  have HB0 := hide B0
  have HBB := hide bb
  clear h hF hids hSR hSW hX hw0 B0 bb h0
  go_enter Try.func15, Try.ntmps15
  go_wp2_with fail
  rw [show w.alloc (.cells #[.int .i64 0, .int .i64 0, .int .i64 0] 36) = w0 from HW.out]
  with_reducible refine (at_calls _ _).mono ?_
  rintro e w' ⟨rfl, rfl⟩
  go_wp2_with fail
  refine HFR.out.mono ?_
  rintro e w1 ⟨id, ok, rfl, hfo, hb1⟩
  have H1 := hide (H0.out.below hb1)
  have RB := hide (HB0.out.below hb1)
  have HB1 := hide hb1
  clear hb1 HFR
  rcases hfo with ⟨rfl, rfl, hnoR⟩ | ⟨rfl, hfo⟩
  · have HFR := hide (find_limit w1 ps bm role Ms LR LW svR mvR svW mvW FR FW H1.out (plW ps bm svR mvR) LW (ps :: FW) H1.out.atW kP HSW.out HLW.out (at_ now))
    have HNR := hide hnoR
    clear hnoR
    go_wp2_with fail
    refine HFR.out.mono ?_
    rintro e w2 ⟨id, ok, rfl, hfo, hb2⟩
    have H2 := hide (H1.out.below hb2)
    have RB2 := hide (RB.out.below hb2)
    have HB2 := hide hb2
    clear hb2 HFR
    rcases hfo with ⟨rfl, rfl, hnoL⟩ | ⟨rfl, hfo⟩
    · have HNL := hide hnoL
      clear hnoL
      have s0 : w2.cell? ⟨w.heap.size, 0, none⟩ = some (.int .i64 0) := RB2.out.cell 0
      have s1 : w2.cell? ⟨w.heap.size, 1, none⟩ = some (.int .i64 0) := RB2.out.cell 1
      have s2 : w2.cell? ⟨w.heap.size, 2, none⟩ = some (.int .i64 0) := RB2.out.cell 2
      have z0 : w2.frozen? ⟨w.heap.size, 0, none⟩ = false := RB2.out.frozen 0
      have z1 : w2.frozen? ⟨w.heap.size, 1, none⟩ = false := RB2.out.frozen 1
      have z2 : w2.frozen? ⟨w.heap.size, 2, none⟩ = false := RB2.out.frozen 2
      go_wp2
      exact bodyPost_ret (v := .tuple #[.int .i64 0, .agg #[.int .i64 0, .int .i64 0, .int .i64 0], .int .i64 0, .bool false]) (by simp [results, Try.results15, go_sem, *]) rfl (Or.inl ⟨rfl, HNL.out, by
        have hb := HBB.out.trans ((HB1.out.trans (HB2.out.mono HB1.out.size)).mono HBB.out.size)
        repeat (first | exact hb | refine Below.setCell ?_ (by simp <;> omega) _)⟩)
    · have HFO := hide hfo
      have HBV : Hid (Below w.heap.size w w2) := hide (HBB.out.trans ((HB1.out.trans (HB2.out.mono HB1.out.size)).mono HBB.out.size))
      have RB := RB2
      have H1 := H2
      clear hfo RB2 H2
      -- FindOut of the world w2 says: found
      obtain ⟨i, hiX, hid, hu, hmay, hbest⟩ := HFO.out
      have hi : i < Ms.length := by simpa using hiX
      obtain ⟨m, hm⟩ : ∃ m, Ms[i] = m := ⟨_, rfl⟩
      have hmm : m ∈ Ms := by rw [← hm]; exact List.getElem_mem hi
      have hfm : (Ms.map Fm.f)[i] = m.f := by rw [List.getElem_map, hm]
      rw [hfm] at hid hu hmay
      obtain rfl : m.f.id = id := hid
      obtain ⟨q0, q1, _⟩ := H1.out.rF m hmm
      have HOK : Hid (i64ok m.f.id) := hide ⟨by omega, q1⟩
      have HLK : Hid (look Ms m.f.id = some m.b) := hide (by have := look_at H1.out.nd hi; rw [hm] at this; exact this)
      have HUP : Hid (m.f.q ≠ []) := hide (by intro e; simp [up, e] at hu)
      have HMM := hide hmm
      have HIM : Hid (∃ h : i < Ms.length, Ms[i] = m) := hide ⟨hi, hm⟩
      have hPK : Hid (Picks (Ms.map Fm.f) (at_ now) i 2) := hide (Or.inr ⟨rfl, HNR.out, hiX, by rw [hfm]; exact hu, by rw [hfm]; exact hmay, hbest⟩)
      clear hi hm hmm hfm hu hmay hbest q0 q1 hiX HFO
      -- the world w2, the flow m found, in the phase 2
      obtain ⟨x, rest, hq⟩ : ∃ x rest, m.f.q = x :: rest := by
        cases hqq : m.f.q with
        | nil => exact absurd hqq HUP.out
        | cons x rest => exact ⟨x, rest, rfl⟩
      obtain ⟨n, hn⟩ : ∃ n, m.f.q.length = n := ⟨_, rfl⟩
      have hn0 : 0 < n := by rw [← hn, hq]; simp
      have M := H1.out.fl m HMM.out
      obtain ⟨g, o, cap, hqv, hnc, hcm, hgl, hcell⟩ := M.2.at_ (by rw [hn]; exact hn0)
      rw [hn] at hqv hnc
      have lk := H1.out.map.look HOK.out
      rw [HLK.out] at lk
      rw [show pv (some m.b) = .pointer (some ⟨m.b, 0, none⟩) from rfl] at lk
      have c0 : w2.cell? ⟨ps, 0, none⟩ = some (.map (some bm)) := H1.out.blk.cell 0
      have m8 : w2.cell? ⟨m.b, 8, none⟩ = some (.slice (some ⟨g, o, none⟩) n cap) := by
        have := M.1.cell 8
        rw [show m.cells[8]? = some m.qv from rfl, hqv] at this
        exact this
      have y8 : w2.frozen? ⟨m.b, 8, none⟩ = false := M.1.frozen 8
      have g0 : w2.cell? ⟨g, o, none⟩ = some (.int .i64 x.name) := hcell 0 _ (by rw [hq]; rfl)
      have g1 : w2.cell? ⟨g, o + 1, none⟩ = some (.int .i64 x.delta) := hcell 1 _ (by rw [hq]; rfl)
      have g2 : w2.cell? ⟨g, o + 2, none⟩ = some (.int .i64 x.rho) := hcell 2 _ (by rw [hq]; rfl)
      have s0 : w2.cell? ⟨w.heap.size, 0, none⟩ = some (.int .i64 0) := RB.out.cell 0
      have s1 : w2.cell? ⟨w.heap.size, 1, none⟩ = some (.int .i64 0) := RB.out.cell 1
      have s2 : w2.cell? ⟨w.heap.size, 2, none⟩ = some (.int .i64 0) := RB.out.cell 2
      have z0 : w2.frozen? ⟨w.heap.size, 0, none⟩ = false := RB.out.frozen 0
      have z1 : w2.frozen? ⟨w.heap.size, 1, none⟩ = false := RB.out.frozen 1
      have z2 : w2.frozen? ⟨w.heap.size, 2, none⟩ = false := RB.out.frozen 2
      have hne : m.b ≠ w.heap.size := by have := HLT.out m HMM.out m.b (by simp [Fm.foot]); omega
      have hne2 : w.heap.size ≠ m.b := fun e => hne e.symm
      have hgf : g ∈ m.foot := by simp [Fm.foot, hqv, Value.ownBlock]
      have hng : g ≠ w.heap.size := by have := HLT.out m HMM.out g hgf; omega
      have hng2 : w.heap.size ≠ g := fun e => hng e.symm
      have hbg : m.b ≠ g := foot_not_own M (by rw [hqv]; rfl)
      have hbg2 : g ≠ m.b := fun e => hbg e.symm
      have i1 : (1 : Int) ≤ n := by omega
      have i2 : (n : Int) ≤ cap := by omega
      have HQ := hide hq
      have HN := hide hn
      have HQV := hide hqv
      have HCM := hide hcm
      clear hcell hgf M hq hn hqv hgl
      go_wp2_with fail
      by_cases hc1 : cap = 1
      · have HC1 := hide hc1
        go_region
        have ch1 : Chg [w.heap.size] w2 (((w2.setCell ⟨w.heap.size, 0, none⟩ (.int .i64 x.name)).setCell ⟨w.heap.size, 1, none⟩ (.int .i64 x.delta)).setCell ⟨w.heap.size, 2, none⟩ (.int .i64 x.rho)) := (((Chg.refl [w.heap.size] w2).setCell (Or.inl (by simp)) _).setCell (Or.inl (by simp)) _).setCell (Or.inl (by simp)) _
        have R3 : Blk (((w2.setCell ⟨w.heap.size, 0, none⟩ (.int .i64 x.name)).setCell ⟨w.heap.size, 1, none⟩ (.int .i64 x.delta)).setCell ⟨w.heap.size, 2, none⟩ (.int .i64 x.rho)) w.heap.size 36 [.int .i64 x.name, .int .i64 x.delta, .int .i64 x.rho] := ((RB.out.set 0 (.int .i64 x.name)).set 1 (.int .i64 x.delta)).set 2 (.int .i64 x.rho)
        obtain ⟨v3, hv3⟩ : ∃ v3, ((w2.setCell ⟨w.heap.size, 0, none⟩ (.int .i64 x.name)).setCell ⟨w.heap.size, 1, none⟩ (.int .i64 x.delta)).setCell ⟨w.heap.size, 2, none⟩ (.int .i64 x.rho) = v3 := ⟨_, rfl⟩
        rw [hv3] at ch1 R3
        rw [hv3]
        obtain ⟨t1, t2, t3, t4, t5⟩ := HLTA.out
        have H3 := H1.out.chg ch1 (by rw [List.mem_singleton]; omega) (by rw [List.mem_singleton]; omega) (fun z hz => by rw [List.mem_singleton]; have := t3 z hz; omega) (fun z hz => by rw [List.mem_singleton]; have := t4 z hz; omega) (fun m' hm' z hz => by rw [List.mem_singleton]; have := t5 m' hm' z hz; omega)
        have ch2 : Chg [m.b] v3 (v3.setCell ⟨m.b, 8, none⟩ (.slice (some ⟨g, o, none⟩) (n - 1) 0)).drew := ((Chg.refl [m.b] v3).setCell (Or.inl (by simp)) _).drew
        have B4 : Blk (v3.setCell ⟨m.b, 8, none⟩ (.slice (some ⟨g, o, none⟩) (n - 1) 0)).drew m.b 87 (Fm.cells ⟨⟨m.f.id, m.f.ver, m.f.p, m.f.c, rest⟩, m.b, .slice (some ⟨g, o, none⟩) (n - 1) 0⟩) := (H3.fl m HMM.out).1.set 8 (.slice (some ⟨g, o, none⟩) (n - 1) 0)
        have R4 := R3.chg ch2 (by rw [List.mem_singleton]; exact hne2)
        have hpop := FmAt.pop (m2 := ⟨⟨m.f.id, m.f.ver, m.f.p, m.f.c, rest⟩, m.b, .slice (some ⟨g, o, none⟩) (n - 1) 0⟩) (R := []) (H3.fl m HMM.out) HQ.out HN.out HQV.out (Or.inr ⟨rfl, HC1.out⟩) (by have := HC1.out; omega) ch2 (fun _ _ h => by cases h) rfl rfl rfl B4
        have hszv : v3.heap.size = w2.heap.size := by rw [← hv3]; simp [World.setCell]
        obtain ⟨hi, hm⟩ := HIM.out
        have H4 := H3.flow (m' := ⟨⟨m.f.id, m.f.ver, m.f.p, m.f.c, rest⟩, m.b, .slice (some ⟨g, o, none⟩) (n - 1) 0⟩) hi (by rw [hm]) (by rw [hm]) hpop.1 (by rw [hm]; exact ch2.mono fun z hz => Or.inl (by rw [List.mem_singleton.1 hz]; simp [Fm.foot])) (fun z hz => Or.inl (by rw [hm]; exact hpop.2 z hz))
        have C4 : Chg F v3 (v3.setCell ⟨m.b, 8, none⟩ (.slice (some ⟨g, o, none⟩) (n - 1) 0)).drew := ch2.mono fun z hz => Or.inl (by rw [List.mem_singleton.1 hz]; exact HF.out.2.2.2.2.1 m HMM.out _ (by simp [Fm.foot]))
        have hF4 := hpop.2
        have FM4 := hpop.1
        obtain ⟨w4, hw4⟩ : ∃ w4, (v3.setCell ⟨m.b, 8, none⟩ (.slice (some ⟨g, o, none⟩) (n - 1) 0)).drew = w4 := ⟨_, rfl⟩
        rw [hw4] at H4 C4 R4 FM4
        rw [hw4]
        have d1 : ∀ w', Below w4.heap.size w4 w' → w'.cell? ⟨m.b, 1, none⟩ = some (.int .i64 m.f.p.r) := FM4.1.rule 1 _ rfl
        have d2 : ∀ w', Below w4.heap.size w4 w' → w'.cell? ⟨m.b, 2, none⟩ = some (.int .i64 m.f.p.w) := FM4.1.rule 2 _ rfl
        have d3 : ∀ w', Below w4.heap.size w4 w' → w'.cell? ⟨m.b, 3, none⟩ = some (.int .i64 m.f.p.l) := FM4.1.rule 3 _ rfl
        have d4 : ∀ w', Below w4.heap.size w4 w' → w'.cell? ⟨m.b, 4, none⟩ = some (.int .i64 m.f.p.b) := FM4.1.rule 4 _ rfl
        have d5 : ∀ w', Below w4.heap.size w4 w' → w'.cell? ⟨m.b, 5, none⟩ = some (.int .i64 m.f.c.r) := FM4.1.rule 5 _ rfl
        have d6 : ∀ w', Below w4.heap.size w4 w' → w'.cell? ⟨m.b, 6, none⟩ = some (.int .i64 m.f.c.p) := FM4.1.rule 6 _ rfl
        have d7 : ∀ w', Below w4.heap.size w4 w' → w'.cell? ⟨m.b, 7, none⟩ = some (.int .i64 m.f.c.l) := FM4.1.rule 7 _ rfl
        have f5 : ∀ w', Below w4.heap.size w4 w' → w'.frozen? ⟨m.b, 5, none⟩ = false := fun w' hb => (FM4.1.below hb).frozen 5
        have f6 : ∀ w', Below w4.heap.size w4 w' → w'.frozen? ⟨m.b, 6, none⟩ = false := fun w' hb => (FM4.1.below hb).frozen 6
        have f7 : ∀ w', Below w4.heap.size w4 w' → w'.frozen? ⟨m.b, 7, none⟩ = false := fun w' hb => (FM4.1.below hb).frozen 7
        have x1 : ∀ w', Below w4.heap.size w4 w' → w'.cell? ⟨w.heap.size, 1, none⟩ = some (.int .i64 x.delta) := R4.rule 1 _ rfl
        have x2 : ∀ w', Below w4.heap.size w4 w' → w'.cell? ⟨w.heap.size, 2, none⟩ = some (.int .i64 x.rho) := R4.rule 2 _ rfl
        have hat : -9223372036854775808 ≤ at_ now ∧ at_ now ≤ 9223372036854775807 := ⟨Int.le_trans (by decide) (times_lo _ _), Int.le_trans (times_hi _ _) (by decide)⟩
        have r4 := Below.refl w4.heap.size w4
        have HH4 := hide H4
        have HC4 := hide C4
        have HR4 := hide R4
        have HFM4 := hide FM4
        have HF4 := hide hF4
        have HV3 := hide (And.intro ch1 (And.intro hszv H3))
        clear H4 C4 R4 FM4 hF4 hpop B4 ch1 ch2 R3 hv3 hw4 H3 hi hm hszv lk c0 m8 y8 g0 g1 g2 s0 s1 s2 z0 z1 z2 i1 i2 t1 t2 t3 t4 t5 hc1
        go_wp2_with fail
        refine region_lexg (fun w' => Below w4.heap.size w4 w') [18] 0 [(2, 0), (2, 1), (2, 2), (2, 3), (0, 4), (2, 5), (2, 6), (2, 7), (0, 8), (2, 9), (2, 10), (2, 11), (0, 12), (2, 13), (0, 14), (1, 15), (2, 16), (2, 17), (3, 18)] #[true, true, true, true, true, true, true, true, true, true, true, true, true, true, true, true, true, true, true] (by kernel_rfl) (by kernel_rfl) (by decide) (by kernel_rfl) (by kernel_rfl) (fun _ _ _ _ _ h => h) (by (first | exact r4.drew | exact hb5)) (fun hS0 => ?_)
        simp only [List.map_cons, List.map_nil, List.getElem?_toArray, List.getElem?_cons_succ, List.getElem?_cons_zero]
        (apply lexg_pure (by rfl); (focus (intro w; go_simp; (try with_reducible rfl); done)); simp only [Act.put, List.setIfInBounds_toArray, List.set_cons_zero, List.set_cons_succ])
        (apply lexg_pure (by rfl); (focus (intro w; go_simp; (try with_reducible rfl); done)); simp only [Act.put, List.setIfInBounds_toArray, List.set_cons_zero, List.set_cons_succ])
        (apply lexg_pure (by rfl); (focus (intro w; go_simp; (try with_reducible rfl); done)); simp only [Act.put, List.setIfInBounds_toArray, List.set_cons_zero, List.set_cons_succ])
        (apply lexg_pure (by rfl); (focus (intro w; go_simp; (try with_reducible rfl); done)); simp only [Act.put, List.setIfInBounds_toArray, List.set_cons_zero, List.set_cons_succ])
        (apply lexg_take (by rfl); (focus (intro w hw; (try dsimp only at hw); go_simp; (try with_reducible rfl); done)); simp only [Act.put, List.setIfInBounds_toArray, List.set_cons_zero, List.set_cons_succ])
        (apply lexg_pure (by rfl); (focus (intro w; go_simp; (try with_reducible rfl); done)); simp only [Act.put, List.setIfInBounds_toArray, List.set_cons_zero, List.set_cons_succ])
        (apply lexg_pure (by rfl); (focus (intro w; go_simp; (try with_reducible rfl); done)); simp only [Act.put, List.setIfInBounds_toArray, List.set_cons_zero, List.set_cons_succ])
        (apply lexg_pure (by rfl); (focus (intro w; go_simp; (try with_reducible rfl); done)); simp only [Act.put, List.setIfInBounds_toArray, List.set_cons_zero, List.set_cons_succ])
        (apply lexg_take (by rfl); (focus (intro w hw; (try dsimp only at hw); go_simp; (try with_reducible rfl); done)); simp only [Act.put, List.setIfInBounds_toArray, List.set_cons_zero, List.set_cons_succ])
        (apply lexg_pure (by rfl); (focus (intro w; go_simp; (try with_reducible rfl); done)); simp only [Act.put, List.setIfInBounds_toArray, List.set_cons_zero, List.set_cons_succ])
        (apply lexg_pure (by rfl); (focus (intro w; go_simp; (try with_reducible rfl); done)); simp only [Act.put, List.setIfInBounds_toArray, List.set_cons_zero, List.set_cons_succ])
        (apply lexg_pure (by rfl); (focus (intro w; go_simp; (try with_reducible rfl); done)); simp only [Act.put, List.setIfInBounds_toArray, List.set_cons_zero, List.set_cons_succ])
        (apply lexg_take (by rfl); (focus (intro w hw; (try dsimp only at hw); go_simp; (try with_reducible rfl); done)); simp only [Act.put, List.setIfInBounds_toArray, List.set_cons_zero, List.set_cons_succ])
        (apply lexg_pure (by rfl); (focus (intro w; go_simp; (try with_reducible rfl); done)); simp only [Act.put, List.setIfInBounds_toArray, List.set_cons_zero, List.set_cons_succ])
        (apply lexg_take (by rfl); (focus (intro w hw; (try dsimp only at hw); go_simp; (try with_reducible rfl); done)); simp only [Act.put, List.setIfInBounds_toArray, List.set_cons_zero, List.set_cons_succ])
        (refine lexg_eff (by rfl) ?_; go_simp; ((go_at_call 37; (with_reducible refine (charge_calls m.f.p m.f.c (at_ now) 2 x.delta x.rho _ hat).mono ?_); rintro e w5 ⟨rfl, hb⟩; have hb5 : Below w4.heap.size w4 w5 := r4.drew.trans hb; clear hb; have g5 := d5 w5 hb5; have g6 := d6 w5 hb5; have g7 := d7 w5 hb5; have y5 := f5 w5 hb5; have y6 := f6 w5 hb5; have y7 := f7 w5 hb5)); refine lexg_both (by (first | exact r4.drew | exact hb5)) (fun hS1 => ?_))
        (apply lexg_pure (by rfl); (focus (intro w; go_simp; (try with_reducible rfl); done)); simp only [Act.put, List.setIfInBounds_toArray, List.set_cons_zero, List.set_cons_succ])
        (apply lexg_pure (by rfl); (focus (intro w; go_simp; (try with_reducible rfl); done)); simp only [Act.put, List.setIfInBounds_toArray, List.set_cons_zero, List.set_cons_succ])
        (refine lexg_effN (by rfl) ?_; go_simp)
        refine lexg_nil (fun _ => wpAnyG_done (by kernel_rfl) ?_ _)
        have ch5 : Chg [m.b] w5 (((w5.setCell ⟨m.b, 5, none⟩ (.int .i64 (charge m.f.p m.f.c (at_ now) 2 x.delta x.rho).r)).setCell ⟨m.b, 6, none⟩ (.int .i64 (charge m.f.p m.f.c (at_ now) 2 x.delta x.rho).p)).setCell ⟨m.b, 7, none⟩ (.int .i64 (charge m.f.p m.f.c (at_ now) 2 x.delta x.rho).l)) := (((Chg.refl [m.b] w5).setCell (Or.inl (by simp)) _).setCell (Or.inl (by simp)) _).setCell (Or.inl (by simp)) _
        have M5 := HFM4.out.chg (Chg.of_below (L := []) hb5) (fun _ _ hx => by cases hx)
        have B6 : Blk (((w5.setCell ⟨m.b, 5, none⟩ (.int .i64 (charge m.f.p m.f.c (at_ now) 2 x.delta x.rho).r)).setCell ⟨m.b, 6, none⟩ (.int .i64 (charge m.f.p m.f.c (at_ now) 2 x.delta x.rho).p)).setCell ⟨m.b, 7, none⟩ (.int .i64 (charge m.f.p m.f.c (at_ now) 2 x.delta x.rho).l)) m.b 87 (Fm.cells ⟨popped m.f (at_ now) 2 x rest, m.b, .slice (some ⟨g, o, none⟩) (n - 1) 0⟩) := ((M5.1.set 5 (.int .i64 (charge m.f.p m.f.c (at_ now) 2 x.delta x.rho).r)).set 6 (.int .i64 (charge m.f.p m.f.c (at_ now) 2 x.delta x.rho).p)).set 7 (.int .i64 (charge m.f.p m.f.c (at_ now) 2 x.delta x.rho).l)
        have FM6 := M5.store (m' := ⟨popped m.f (at_ now) 2 x rest, m.b, .slice (some ⟨g, o, none⟩) (n - 1) 0⟩) ch5 B6 rfl rfl rfl
        have ch46 : Chg [m.b] w4 (((w5.setCell ⟨m.b, 5, none⟩ (.int .i64 (charge m.f.p m.f.c (at_ now) 2 x.delta x.rho).r)).setCell ⟨m.b, 6, none⟩ (.int .i64 (charge m.f.p m.f.c (at_ now) 2 x.delta x.rho).p)).setCell ⟨m.b, 7, none⟩ (.int .i64 (charge m.f.p m.f.c (at_ now) 2 x.delta x.rho).l)) := (Chg.of_below (L := [m.b]) hb5).same ch5
        obtain ⟨hi, hm⟩ := HIM.out
        have hi4 : i < (Ms.set i ⟨⟨m.f.id, m.f.ver, m.f.p, m.f.c, rest⟩, m.b, .slice (some ⟨g, o, none⟩) (n - 1) 0⟩).length := by simpa using hi
        have hm4 : (Ms.set i ⟨⟨m.f.id, m.f.ver, m.f.p, m.f.c, rest⟩, m.b, .slice (some ⟨g, o, none⟩) (n - 1) 0⟩)[i] = ⟨⟨m.f.id, m.f.ver, m.f.p, m.f.c, rest⟩, m.b, .slice (some ⟨g, o, none⟩) (n - 1) 0⟩ := by simp
        have H6 := HH4.out.flow (m' := ⟨popped m.f (at_ now) 2 x rest, m.b, .slice (some ⟨g, o, none⟩) (n - 1) 0⟩) hi4 (by rw [hm4]; rfl) (by rw [hm4]) FM6 (by rw [hm4]; exact ch46.mono fun z hz => Or.inl (by rw [List.mem_singleton.1 hz]; simp [Fm.foot])) (fun z hz => Or.inl (by rw [hm4]; exact hz))
        rw [List.set_set] at H6
        have C6 := HC4.out.trans ch46 (fun z hz => Or.inl (by rw [List.mem_singleton.1 hz]; exact HF.out.2.2.2.2.1 m HMM.out _ (by simp [Fm.foot])))
        have R6 := HR4.out.chg ch46 (by rw [List.mem_singleton]; exact hne2)
        obtain ⟨w6, hw6⟩ : ∃ w6, (((w5.setCell ⟨m.b, 5, none⟩ (.int .i64 (charge m.f.p m.f.c (at_ now) 2 x.delta x.rho).r)).setCell ⟨m.b, 6, none⟩ (.int .i64 (charge m.f.p m.f.c (at_ now) 2 x.delta x.rho).p)).setCell ⟨m.b, 7, none⟩ (.int .i64 (charge m.f.p m.f.c (at_ now) 2 x.delta x.rho).l)) = w6 := ⟨_, rfl⟩
        rw [hw6] at H6 C6 R6
        rw [hw6]
        have hm6 : (Ms.set i ⟨popped m.f (at_ now) 2 x rest, m.b, .slice (some ⟨g, o, none⟩) (n - 1) 0⟩)[i]'(by simpa using hi) = ⟨popped m.f (at_ now) 2 x rest, m.b, .slice (some ⟨g, o, none⟩) (n - 1) 0⟩ := by simp
        have HM6 := hide hm6
        have HH6 := hide H6
        have HC6 := hide C6
        have HR6 := hide R6
        clear ch5 M5 B6 FM6 ch46 hm hm4 H6 C6 R6 hw6 hm6 d1 d2 d3 d4 d5 d6 d7 f5 f6 f7 x1 x2 g5 g6 g7 y5 y6 y7
        go_wp2_with fail
        refine (stand_calls w6 ps bm _ _ LR LW _ _ _ _ FR FW i _ HH6.out (by have := HIM.out.1; simpa using this) HM6.out HLR.out HLW.out HKR.out HKW.out).mono ?_
        rintro e w7 ⟨rfl, role7, LR7, LW7, svR7, mvR7, svW7, mvW7, FR7, FW7, h7, p7, q7, c7, g7, k7⟩
        obtain ⟨t1, t2, t3, t4, t5⟩ := HLTA.out
        have R7 := HR6.out.chg c7 (fun hz => by
          rcases List.mem_append.1 hz with hz | hz
          · rcases List.mem_cons.1 hz with hz | hz
            · omega
            · have := t3 _ hz; omega
          · have := t4 _ hz; omega)
        have C7 := HC6.out.trans c7 (fun z hz => Or.inl (by
          rcases List.mem_append.1 hz with hz | hz
          · rcases List.mem_cons.1 hz with rfl | hz
            · exact HF.out.1
            · exact HF.out.2.2.1 z hz
          · exact HF.out.2.2.2.1 z hz))
        have s0 : w7.cell? ⟨w.heap.size, 0, none⟩ = some (.int .i64 x.name) := R7.cell 0
        have s1 : w7.cell? ⟨w.heap.size, 1, none⟩ = some (.int .i64 x.delta) := R7.cell 1
        have s2 : w7.cell? ⟨w.heap.size, 2, none⟩ = some (.int .i64 x.rho) := R7.cell 2
        have z0 : w7.frozen? ⟨w.heap.size, 0, none⟩ = false := R7.frozen 0
        have z1 : w7.frozen? ⟨w.heap.size, 1, none⟩ = false := R7.frozen 1
        have z2 : w7.frozen? ⟨w.heap.size, 2, none⟩ = false := R7.frozen 2
        have HX7 := hide (And.intro h7 (And.intro p7 (And.intro q7 (And.intro C7 (And.intro g7 k7)))))
        clear h7 p7 q7 c7 g7 k7 C7 R7 t1 t2 t3 t4 t5
        go_wp2_with fail
        go_region
        go_wp2
        refine bodyPost_ret (v := .tuple #[.int .i64 m.f.id, .agg #[.int .i64 x.name, .int .i64 x.delta, .int .i64 x.rho], .int .i64 2, .bool true]) (by simp [results, Try.results15, go_sem, *]) rfl (Or.inr ⟨i, 2, m.f, x, rest, hPK.out, ?_, HQ.out, rfl, ?_⟩)
        · obtain ⟨hi, hm⟩ := HIM.out
          exact ⟨by simpa using hi, by rw [List.getElem_map, hm]⟩
        obtain ⟨h7, p7, q7, C7, g7, k7⟩ := HX7.out
        obtain ⟨ch1, hszv, H3⟩ := HV3.out
        have hF3 : FFoot F ps bm FR FW Ms v3.heap.size := by
          obtain ⟨f1, f2, f3, f4, f5, f6⟩ := HF.out
          exact ⟨f1, f2, f3, f4, f5, fun z hz => by have := f6 z hz; have := HBV.out.size; omega⟩
        obtain ⟨F8, s8, u8⟩ := SA.close (X' := (Ms.map Fm.f).set i (popped m.f (at_ now) 2 x rest)) h7 (by rw [List.map_set]) hF3 C7
          (fun z hz => (g7 z hz).imp id (fun h => Nat.le_trans HC6.out.size h)) (fun z hz => (k7 z hz).imp id (fun h => Nat.le_trans HC6.out.size h)) (fun m0 hm0 z hz => Or.inl (by
            rcases List.mem_or_eq_of_mem_set hm0 with h0 | h0
            · exact ⟨m0, h0, hz⟩
            · rw [h0] at hz
              exact ⟨m, HMM.out, HF4.out z hz⟩))
        obtain ⟨hi, hm⟩ := HIM.out
        have hsR := HSR.out.flow (f' := popped m.f (at_ now) 2 x rest) HND.out (i := i) (f := m.f) (by simpa using hi) (by rw [List.getElem_map, hm]) rfl p7
        have hsW := HSW.out.flow (f' := popped m.f (at_ now) 2 x rest) HND.out (i := i) (f := m.f) (by simpa using hi) (by rw [List.getElem_map, hm]) rfl q7
        have hS7 : SS w7 ps F8 _ := ⟨LR7, LW7, s8, hsR, hsW⟩
        have ch8 : Chg [w.heap.size] w7 (((w7.setCell ⟨w.heap.size, 0, none⟩ (.int .i64 x.name)).setCell ⟨w.heap.size, 1, none⟩ (.int .i64 x.delta)).setCell ⟨w.heap.size, 2, none⟩ (.int .i64 x.rho)).drew := ((((Chg.refl [w.heap.size] w7).setCell (Or.inl (by simp)) _).setCell (Or.inl (by simp)) _).setCell (Or.inl (by simp)) _).drew
        have hgt := HBV.out.size
        have hlt7 := RB.out.lt
        refine ⟨F8, hS7.chg ch8 (fun z hz hz2 => ?_), ?_, fun z hz => ?_⟩
        · rw [List.mem_singleton.1 hz] at hz2
          rcases u8.2 _ hz2 with h | h
          · have := HF.out.2.2.2.2.2 _ h; omega
          · omega
        · refine (((Chg.of_below (L := F) HBV.out).trans ch1 (fun z hz => Or.inr (by rw [List.mem_singleton.1 hz]; exact Nat.le_refl _))).same u8.1).trans ch8 (fun z hz => Or.inr (by rw [List.mem_singleton.1 hz]; exact Nat.le_refl _))
        · rcases u8.2 z hz with h | h
          · exact Or.inl h
          · exact Or.inr (by omega)
      · have HC1 := hide hc1
        go_region
        have ch1 : Chg [w.heap.size] w2 (((w2.setCell ⟨w.heap.size, 0, none⟩ (.int .i64 x.name)).setCell ⟨w.heap.size, 1, none⟩ (.int .i64 x.delta)).setCell ⟨w.heap.size, 2, none⟩ (.int .i64 x.rho)) := (((Chg.refl [w.heap.size] w2).setCell (Or.inl (by simp)) _).setCell (Or.inl (by simp)) _).setCell (Or.inl (by simp)) _
        have R3 : Blk (((w2.setCell ⟨w.heap.size, 0, none⟩ (.int .i64 x.name)).setCell ⟨w.heap.size, 1, none⟩ (.int .i64 x.delta)).setCell ⟨w.heap.size, 2, none⟩ (.int .i64 x.rho)) w.heap.size 36 [.int .i64 x.name, .int .i64 x.delta, .int .i64 x.rho] := ((RB.out.set 0 (.int .i64 x.name)).set 1 (.int .i64 x.delta)).set 2 (.int .i64 x.rho)
        obtain ⟨v3, hv3⟩ : ∃ v3, ((w2.setCell ⟨w.heap.size, 0, none⟩ (.int .i64 x.name)).setCell ⟨w.heap.size, 1, none⟩ (.int .i64 x.delta)).setCell ⟨w.heap.size, 2, none⟩ (.int .i64 x.rho) = v3 := ⟨_, rfl⟩
        rw [hv3] at ch1 R3
        rw [hv3]
        obtain ⟨t1, t2, t3, t4, t5⟩ := HLTA.out
        have H3 := H1.out.chg ch1 (by rw [List.mem_singleton]; omega) (by rw [List.mem_singleton]; omega) (fun z hz => by rw [List.mem_singleton]; have := t3 z hz; omega) (fun z hz => by rw [List.mem_singleton]; have := t4 z hz; omega) (fun m' hm' z hz => by rw [List.mem_singleton]; have := t5 m' hm' z hz; omega)
        have ch2 : Chg [m.b] v3 (v3.setCell ⟨m.b, 8, none⟩ (.slice (some ⟨g, (o + 3), none⟩) (n - 1) (cap - 1))).drew := ((Chg.refl [m.b] v3).setCell (Or.inl (by simp)) _).drew
        have B4 : Blk (v3.setCell ⟨m.b, 8, none⟩ (.slice (some ⟨g, (o + 3), none⟩) (n - 1) (cap - 1))).drew m.b 87 (Fm.cells ⟨⟨m.f.id, m.f.ver, m.f.p, m.f.c, rest⟩, m.b, .slice (some ⟨g, (o + 3), none⟩) (n - 1) (cap - 1)⟩) := (H3.fl m HMM.out).1.set 8 (.slice (some ⟨g, (o + 3), none⟩) (n - 1) (cap - 1))
        have R4 := R3.chg ch2 (by rw [List.mem_singleton]; exact hne2)
        have hpop := FmAt.pop (m2 := ⟨⟨m.f.id, m.f.ver, m.f.p, m.f.c, rest⟩, m.b, .slice (some ⟨g, (o + 3), none⟩) (n - 1) (cap - 1)⟩) (R := []) (H3.fl m HMM.out) HQ.out HN.out HQV.out (Or.inl rfl) (by have := HC1.out; omega) ch2 (fun _ _ h => by cases h) rfl rfl rfl B4
        have hszv : v3.heap.size = w2.heap.size := by rw [← hv3]; simp [World.setCell]
        obtain ⟨hi, hm⟩ := HIM.out
        have H4 := H3.flow (m' := ⟨⟨m.f.id, m.f.ver, m.f.p, m.f.c, rest⟩, m.b, .slice (some ⟨g, (o + 3), none⟩) (n - 1) (cap - 1)⟩) hi (by rw [hm]) (by rw [hm]) hpop.1 (by rw [hm]; exact ch2.mono fun z hz => Or.inl (by rw [List.mem_singleton.1 hz]; simp [Fm.foot])) (fun z hz => Or.inl (by rw [hm]; exact hpop.2 z hz))
        have C4 : Chg F v3 (v3.setCell ⟨m.b, 8, none⟩ (.slice (some ⟨g, (o + 3), none⟩) (n - 1) (cap - 1))).drew := ch2.mono fun z hz => Or.inl (by rw [List.mem_singleton.1 hz]; exact HF.out.2.2.2.2.1 m HMM.out _ (by simp [Fm.foot]))
        have hF4 := hpop.2
        have FM4 := hpop.1
        obtain ⟨w4, hw4⟩ : ∃ w4, (v3.setCell ⟨m.b, 8, none⟩ (.slice (some ⟨g, (o + 3), none⟩) (n - 1) (cap - 1))).drew = w4 := ⟨_, rfl⟩
        rw [hw4] at H4 C4 R4 FM4
        rw [hw4]
        have d1 : ∀ w', Below w4.heap.size w4 w' → w'.cell? ⟨m.b, 1, none⟩ = some (.int .i64 m.f.p.r) := FM4.1.rule 1 _ rfl
        have d2 : ∀ w', Below w4.heap.size w4 w' → w'.cell? ⟨m.b, 2, none⟩ = some (.int .i64 m.f.p.w) := FM4.1.rule 2 _ rfl
        have d3 : ∀ w', Below w4.heap.size w4 w' → w'.cell? ⟨m.b, 3, none⟩ = some (.int .i64 m.f.p.l) := FM4.1.rule 3 _ rfl
        have d4 : ∀ w', Below w4.heap.size w4 w' → w'.cell? ⟨m.b, 4, none⟩ = some (.int .i64 m.f.p.b) := FM4.1.rule 4 _ rfl
        have d5 : ∀ w', Below w4.heap.size w4 w' → w'.cell? ⟨m.b, 5, none⟩ = some (.int .i64 m.f.c.r) := FM4.1.rule 5 _ rfl
        have d6 : ∀ w', Below w4.heap.size w4 w' → w'.cell? ⟨m.b, 6, none⟩ = some (.int .i64 m.f.c.p) := FM4.1.rule 6 _ rfl
        have d7 : ∀ w', Below w4.heap.size w4 w' → w'.cell? ⟨m.b, 7, none⟩ = some (.int .i64 m.f.c.l) := FM4.1.rule 7 _ rfl
        have f5 : ∀ w', Below w4.heap.size w4 w' → w'.frozen? ⟨m.b, 5, none⟩ = false := fun w' hb => (FM4.1.below hb).frozen 5
        have f6 : ∀ w', Below w4.heap.size w4 w' → w'.frozen? ⟨m.b, 6, none⟩ = false := fun w' hb => (FM4.1.below hb).frozen 6
        have f7 : ∀ w', Below w4.heap.size w4 w' → w'.frozen? ⟨m.b, 7, none⟩ = false := fun w' hb => (FM4.1.below hb).frozen 7
        have x1 : ∀ w', Below w4.heap.size w4 w' → w'.cell? ⟨w.heap.size, 1, none⟩ = some (.int .i64 x.delta) := R4.rule 1 _ rfl
        have x2 : ∀ w', Below w4.heap.size w4 w' → w'.cell? ⟨w.heap.size, 2, none⟩ = some (.int .i64 x.rho) := R4.rule 2 _ rfl
        have hat : -9223372036854775808 ≤ at_ now ∧ at_ now ≤ 9223372036854775807 := ⟨Int.le_trans (by decide) (times_lo _ _), Int.le_trans (times_hi _ _) (by decide)⟩
        have r4 := Below.refl w4.heap.size w4
        have HH4 := hide H4
        have HC4 := hide C4
        have HR4 := hide R4
        have HFM4 := hide FM4
        have HF4 := hide hF4
        have HV3 := hide (And.intro ch1 (And.intro hszv H3))
        clear H4 C4 R4 FM4 hF4 hpop B4 ch1 ch2 R3 hv3 hw4 H3 hi hm hszv lk c0 m8 y8 g0 g1 g2 s0 s1 s2 z0 z1 z2 i1 i2 t1 t2 t3 t4 t5 hc1
        go_wp2_with fail
        refine region_lexg (fun w' => Below w4.heap.size w4 w') [18] 0 [(2, 0), (2, 1), (2, 2), (2, 3), (0, 4), (2, 5), (2, 6), (2, 7), (0, 8), (2, 9), (2, 10), (2, 11), (0, 12), (2, 13), (0, 14), (1, 15), (2, 16), (2, 17), (3, 18)] #[true, true, true, true, true, true, true, true, true, true, true, true, true, true, true, true, true, true, true] (by kernel_rfl) (by kernel_rfl) (by decide) (by kernel_rfl) (by kernel_rfl) (fun _ _ _ _ _ h => h) (by (first | exact r4.drew | exact hb5)) (fun hS0 => ?_)
        simp only [List.map_cons, List.map_nil, List.getElem?_toArray, List.getElem?_cons_succ, List.getElem?_cons_zero]
        (apply lexg_pure (by rfl); (focus (intro w; go_simp; (try with_reducible rfl); done)); simp only [Act.put, List.setIfInBounds_toArray, List.set_cons_zero, List.set_cons_succ])
        (apply lexg_pure (by rfl); (focus (intro w; go_simp; (try with_reducible rfl); done)); simp only [Act.put, List.setIfInBounds_toArray, List.set_cons_zero, List.set_cons_succ])
        (apply lexg_pure (by rfl); (focus (intro w; go_simp; (try with_reducible rfl); done)); simp only [Act.put, List.setIfInBounds_toArray, List.set_cons_zero, List.set_cons_succ])
        (apply lexg_pure (by rfl); (focus (intro w; go_simp; (try with_reducible rfl); done)); simp only [Act.put, List.setIfInBounds_toArray, List.set_cons_zero, List.set_cons_succ])
        (apply lexg_take (by rfl); (focus (intro w hw; (try dsimp only at hw); go_simp; (try with_reducible rfl); done)); simp only [Act.put, List.setIfInBounds_toArray, List.set_cons_zero, List.set_cons_succ])
        (apply lexg_pure (by rfl); (focus (intro w; go_simp; (try with_reducible rfl); done)); simp only [Act.put, List.setIfInBounds_toArray, List.set_cons_zero, List.set_cons_succ])
        (apply lexg_pure (by rfl); (focus (intro w; go_simp; (try with_reducible rfl); done)); simp only [Act.put, List.setIfInBounds_toArray, List.set_cons_zero, List.set_cons_succ])
        (apply lexg_pure (by rfl); (focus (intro w; go_simp; (try with_reducible rfl); done)); simp only [Act.put, List.setIfInBounds_toArray, List.set_cons_zero, List.set_cons_succ])
        (apply lexg_take (by rfl); (focus (intro w hw; (try dsimp only at hw); go_simp; (try with_reducible rfl); done)); simp only [Act.put, List.setIfInBounds_toArray, List.set_cons_zero, List.set_cons_succ])
        (apply lexg_pure (by rfl); (focus (intro w; go_simp; (try with_reducible rfl); done)); simp only [Act.put, List.setIfInBounds_toArray, List.set_cons_zero, List.set_cons_succ])
        (apply lexg_pure (by rfl); (focus (intro w; go_simp; (try with_reducible rfl); done)); simp only [Act.put, List.setIfInBounds_toArray, List.set_cons_zero, List.set_cons_succ])
        (apply lexg_pure (by rfl); (focus (intro w; go_simp; (try with_reducible rfl); done)); simp only [Act.put, List.setIfInBounds_toArray, List.set_cons_zero, List.set_cons_succ])
        (apply lexg_take (by rfl); (focus (intro w hw; (try dsimp only at hw); go_simp; (try with_reducible rfl); done)); simp only [Act.put, List.setIfInBounds_toArray, List.set_cons_zero, List.set_cons_succ])
        (apply lexg_pure (by rfl); (focus (intro w; go_simp; (try with_reducible rfl); done)); simp only [Act.put, List.setIfInBounds_toArray, List.set_cons_zero, List.set_cons_succ])
        (apply lexg_take (by rfl); (focus (intro w hw; (try dsimp only at hw); go_simp; (try with_reducible rfl); done)); simp only [Act.put, List.setIfInBounds_toArray, List.set_cons_zero, List.set_cons_succ])
        (refine lexg_eff (by rfl) ?_; go_simp; ((go_at_call 37; (with_reducible refine (charge_calls m.f.p m.f.c (at_ now) 2 x.delta x.rho _ hat).mono ?_); rintro e w5 ⟨rfl, hb⟩; have hb5 : Below w4.heap.size w4 w5 := r4.drew.trans hb; clear hb; have g5 := d5 w5 hb5; have g6 := d6 w5 hb5; have g7 := d7 w5 hb5; have y5 := f5 w5 hb5; have y6 := f6 w5 hb5; have y7 := f7 w5 hb5)); refine lexg_both (by (first | exact r4.drew | exact hb5)) (fun hS1 => ?_))
        (apply lexg_pure (by rfl); (focus (intro w; go_simp; (try with_reducible rfl); done)); simp only [Act.put, List.setIfInBounds_toArray, List.set_cons_zero, List.set_cons_succ])
        (apply lexg_pure (by rfl); (focus (intro w; go_simp; (try with_reducible rfl); done)); simp only [Act.put, List.setIfInBounds_toArray, List.set_cons_zero, List.set_cons_succ])
        (refine lexg_effN (by rfl) ?_; go_simp)
        refine lexg_nil (fun _ => wpAnyG_done (by kernel_rfl) ?_ _)
        have ch5 : Chg [m.b] w5 (((w5.setCell ⟨m.b, 5, none⟩ (.int .i64 (charge m.f.p m.f.c (at_ now) 2 x.delta x.rho).r)).setCell ⟨m.b, 6, none⟩ (.int .i64 (charge m.f.p m.f.c (at_ now) 2 x.delta x.rho).p)).setCell ⟨m.b, 7, none⟩ (.int .i64 (charge m.f.p m.f.c (at_ now) 2 x.delta x.rho).l)) := (((Chg.refl [m.b] w5).setCell (Or.inl (by simp)) _).setCell (Or.inl (by simp)) _).setCell (Or.inl (by simp)) _
        have M5 := HFM4.out.chg (Chg.of_below (L := []) hb5) (fun _ _ hx => by cases hx)
        have B6 : Blk (((w5.setCell ⟨m.b, 5, none⟩ (.int .i64 (charge m.f.p m.f.c (at_ now) 2 x.delta x.rho).r)).setCell ⟨m.b, 6, none⟩ (.int .i64 (charge m.f.p m.f.c (at_ now) 2 x.delta x.rho).p)).setCell ⟨m.b, 7, none⟩ (.int .i64 (charge m.f.p m.f.c (at_ now) 2 x.delta x.rho).l)) m.b 87 (Fm.cells ⟨popped m.f (at_ now) 2 x rest, m.b, .slice (some ⟨g, (o + 3), none⟩) (n - 1) (cap - 1)⟩) := ((M5.1.set 5 (.int .i64 (charge m.f.p m.f.c (at_ now) 2 x.delta x.rho).r)).set 6 (.int .i64 (charge m.f.p m.f.c (at_ now) 2 x.delta x.rho).p)).set 7 (.int .i64 (charge m.f.p m.f.c (at_ now) 2 x.delta x.rho).l)
        have FM6 := M5.store (m' := ⟨popped m.f (at_ now) 2 x rest, m.b, .slice (some ⟨g, (o + 3), none⟩) (n - 1) (cap - 1)⟩) ch5 B6 rfl rfl rfl
        have ch46 : Chg [m.b] w4 (((w5.setCell ⟨m.b, 5, none⟩ (.int .i64 (charge m.f.p m.f.c (at_ now) 2 x.delta x.rho).r)).setCell ⟨m.b, 6, none⟩ (.int .i64 (charge m.f.p m.f.c (at_ now) 2 x.delta x.rho).p)).setCell ⟨m.b, 7, none⟩ (.int .i64 (charge m.f.p m.f.c (at_ now) 2 x.delta x.rho).l)) := (Chg.of_below (L := [m.b]) hb5).same ch5
        obtain ⟨hi, hm⟩ := HIM.out
        have hi4 : i < (Ms.set i ⟨⟨m.f.id, m.f.ver, m.f.p, m.f.c, rest⟩, m.b, .slice (some ⟨g, (o + 3), none⟩) (n - 1) (cap - 1)⟩).length := by simpa using hi
        have hm4 : (Ms.set i ⟨⟨m.f.id, m.f.ver, m.f.p, m.f.c, rest⟩, m.b, .slice (some ⟨g, (o + 3), none⟩) (n - 1) (cap - 1)⟩)[i] = ⟨⟨m.f.id, m.f.ver, m.f.p, m.f.c, rest⟩, m.b, .slice (some ⟨g, (o + 3), none⟩) (n - 1) (cap - 1)⟩ := by simp
        have H6 := HH4.out.flow (m' := ⟨popped m.f (at_ now) 2 x rest, m.b, .slice (some ⟨g, (o + 3), none⟩) (n - 1) (cap - 1)⟩) hi4 (by rw [hm4]; rfl) (by rw [hm4]) FM6 (by rw [hm4]; exact ch46.mono fun z hz => Or.inl (by rw [List.mem_singleton.1 hz]; simp [Fm.foot])) (fun z hz => Or.inl (by rw [hm4]; exact hz))
        rw [List.set_set] at H6
        have C6 := HC4.out.trans ch46 (fun z hz => Or.inl (by rw [List.mem_singleton.1 hz]; exact HF.out.2.2.2.2.1 m HMM.out _ (by simp [Fm.foot])))
        have R6 := HR4.out.chg ch46 (by rw [List.mem_singleton]; exact hne2)
        obtain ⟨w6, hw6⟩ : ∃ w6, (((w5.setCell ⟨m.b, 5, none⟩ (.int .i64 (charge m.f.p m.f.c (at_ now) 2 x.delta x.rho).r)).setCell ⟨m.b, 6, none⟩ (.int .i64 (charge m.f.p m.f.c (at_ now) 2 x.delta x.rho).p)).setCell ⟨m.b, 7, none⟩ (.int .i64 (charge m.f.p m.f.c (at_ now) 2 x.delta x.rho).l)) = w6 := ⟨_, rfl⟩
        rw [hw6] at H6 C6 R6
        rw [hw6]
        have hm6 : (Ms.set i ⟨popped m.f (at_ now) 2 x rest, m.b, .slice (some ⟨g, (o + 3), none⟩) (n - 1) (cap - 1)⟩)[i]'(by simpa using hi) = ⟨popped m.f (at_ now) 2 x rest, m.b, .slice (some ⟨g, (o + 3), none⟩) (n - 1) (cap - 1)⟩ := by simp
        have HM6 := hide hm6
        have HH6 := hide H6
        have HC6 := hide C6
        have HR6 := hide R6
        clear ch5 M5 B6 FM6 ch46 hm hm4 H6 C6 R6 hw6 hm6 d1 d2 d3 d4 d5 d6 d7 f5 f6 f7 x1 x2 g5 g6 g7 y5 y6 y7
        go_wp2_with fail
        refine (stand_calls w6 ps bm _ _ LR LW _ _ _ _ FR FW i _ HH6.out (by have := HIM.out.1; simpa using this) HM6.out HLR.out HLW.out HKR.out HKW.out).mono ?_
        rintro e w7 ⟨rfl, role7, LR7, LW7, svR7, mvR7, svW7, mvW7, FR7, FW7, h7, p7, q7, c7, g7, k7⟩
        obtain ⟨t1, t2, t3, t4, t5⟩ := HLTA.out
        have R7 := HR6.out.chg c7 (fun hz => by
          rcases List.mem_append.1 hz with hz | hz
          · rcases List.mem_cons.1 hz with hz | hz
            · omega
            · have := t3 _ hz; omega
          · have := t4 _ hz; omega)
        have C7 := HC6.out.trans c7 (fun z hz => Or.inl (by
          rcases List.mem_append.1 hz with hz | hz
          · rcases List.mem_cons.1 hz with rfl | hz
            · exact HF.out.1
            · exact HF.out.2.2.1 z hz
          · exact HF.out.2.2.2.1 z hz))
        have s0 : w7.cell? ⟨w.heap.size, 0, none⟩ = some (.int .i64 x.name) := R7.cell 0
        have s1 : w7.cell? ⟨w.heap.size, 1, none⟩ = some (.int .i64 x.delta) := R7.cell 1
        have s2 : w7.cell? ⟨w.heap.size, 2, none⟩ = some (.int .i64 x.rho) := R7.cell 2
        have z0 : w7.frozen? ⟨w.heap.size, 0, none⟩ = false := R7.frozen 0
        have z1 : w7.frozen? ⟨w.heap.size, 1, none⟩ = false := R7.frozen 1
        have z2 : w7.frozen? ⟨w.heap.size, 2, none⟩ = false := R7.frozen 2
        have HX7 := hide (And.intro h7 (And.intro p7 (And.intro q7 (And.intro C7 (And.intro g7 k7)))))
        clear h7 p7 q7 c7 g7 k7 C7 R7 t1 t2 t3 t4 t5
        go_wp2_with fail
        go_region
        go_wp2
        refine bodyPost_ret (v := .tuple #[.int .i64 m.f.id, .agg #[.int .i64 x.name, .int .i64 x.delta, .int .i64 x.rho], .int .i64 2, .bool true]) (by simp [results, Try.results15, go_sem, *]) rfl (Or.inr ⟨i, 2, m.f, x, rest, hPK.out, ?_, HQ.out, rfl, ?_⟩)
        · obtain ⟨hi, hm⟩ := HIM.out
          exact ⟨by simpa using hi, by rw [List.getElem_map, hm]⟩
        obtain ⟨h7, p7, q7, C7, g7, k7⟩ := HX7.out
        obtain ⟨ch1, hszv, H3⟩ := HV3.out
        have hF3 : FFoot F ps bm FR FW Ms v3.heap.size := by
          obtain ⟨f1, f2, f3, f4, f5, f6⟩ := HF.out
          exact ⟨f1, f2, f3, f4, f5, fun z hz => by have := f6 z hz; have := HBV.out.size; omega⟩
        obtain ⟨F8, s8, u8⟩ := SA.close (X' := (Ms.map Fm.f).set i (popped m.f (at_ now) 2 x rest)) h7 (by rw [List.map_set]) hF3 C7
          (fun z hz => (g7 z hz).imp id (fun h => Nat.le_trans HC6.out.size h)) (fun z hz => (k7 z hz).imp id (fun h => Nat.le_trans HC6.out.size h)) (fun m0 hm0 z hz => Or.inl (by
            rcases List.mem_or_eq_of_mem_set hm0 with h0 | h0
            · exact ⟨m0, h0, hz⟩
            · rw [h0] at hz
              exact ⟨m, HMM.out, HF4.out z hz⟩))
        obtain ⟨hi, hm⟩ := HIM.out
        have hsR := HSR.out.flow (f' := popped m.f (at_ now) 2 x rest) HND.out (i := i) (f := m.f) (by simpa using hi) (by rw [List.getElem_map, hm]) rfl p7
        have hsW := HSW.out.flow (f' := popped m.f (at_ now) 2 x rest) HND.out (i := i) (f := m.f) (by simpa using hi) (by rw [List.getElem_map, hm]) rfl q7
        have hS7 : SS w7 ps F8 _ := ⟨LR7, LW7, s8, hsR, hsW⟩
        have ch8 : Chg [w.heap.size] w7 (((w7.setCell ⟨w.heap.size, 0, none⟩ (.int .i64 x.name)).setCell ⟨w.heap.size, 1, none⟩ (.int .i64 x.delta)).setCell ⟨w.heap.size, 2, none⟩ (.int .i64 x.rho)).drew := ((((Chg.refl [w.heap.size] w7).setCell (Or.inl (by simp)) _).setCell (Or.inl (by simp)) _).setCell (Or.inl (by simp)) _).drew
        have hgt := HBV.out.size
        have hlt7 := RB.out.lt
        refine ⟨F8, hS7.chg ch8 (fun z hz hz2 => ?_), ?_, fun z hz => ?_⟩
        · rw [List.mem_singleton.1 hz] at hz2
          rcases u8.2 _ hz2 with h | h
          · have := HF.out.2.2.2.2.2 _ h; omega
          · omega
        · refine (((Chg.of_below (L := F) HBV.out).trans ch1 (fun z hz => Or.inr (by rw [List.mem_singleton.1 hz]; exact Nat.le_refl _))).same u8.1).trans ch8 (fun z hz => Or.inr (by rw [List.mem_singleton.1 hz]; exact Nat.le_refl _))
        · rcases u8.2 z hz with h | h
          · exact Or.inl h
          · exact Or.inr (by omega)
  · have HFO := hide hfo
    have HBV : Hid (Below w.heap.size w w1) := hide (HBB.out.trans (HB1.out.mono HBB.out.size))
    clear hfo
    -- FindOut of the world w1 says: found
    obtain ⟨i, hiX, hid, hu, hmay, hbest⟩ := HFO.out
    have hi : i < Ms.length := by simpa using hiX
    obtain ⟨m, hm⟩ : ∃ m, Ms[i] = m := ⟨_, rfl⟩
    have hmm : m ∈ Ms := by rw [← hm]; exact List.getElem_mem hi
    have hfm : (Ms.map Fm.f)[i] = m.f := by rw [List.getElem_map, hm]
    rw [hfm] at hid hu hmay
    obtain rfl : m.f.id = id := hid
    obtain ⟨q0, q1, _⟩ := H1.out.rF m hmm
    have HOK : Hid (i64ok m.f.id) := hide ⟨by omega, q1⟩
    have HLK : Hid (look Ms m.f.id = some m.b) := hide (by have := look_at H1.out.nd hi; rw [hm] at this; exact this)
    have HUP : Hid (m.f.q ≠ []) := hide (by intro e; simp [up, e] at hu)
    have HMM := hide hmm
    have HIM : Hid (∃ h : i < Ms.length, Ms[i] = m) := hide ⟨hi, hm⟩
    have hPK : Hid (Picks (Ms.map Fm.f) (at_ now) i 1) := hide (Or.inl ⟨rfl, hiX, by rw [hfm]; exact hu, by rw [hfm]; exact hmay, hbest⟩)
    clear hi hm hmm hfm hu hmay hbest q0 q1 hiX HFO
    -- the world w1, the flow m found, in the phase 1
    obtain ⟨x, rest, hq⟩ : ∃ x rest, m.f.q = x :: rest := by
      cases hqq : m.f.q with
      | nil => exact absurd hqq HUP.out
      | cons x rest => exact ⟨x, rest, rfl⟩
    obtain ⟨n, hn⟩ : ∃ n, m.f.q.length = n := ⟨_, rfl⟩
    have hn0 : 0 < n := by rw [← hn, hq]; simp
    have M := H1.out.fl m HMM.out
    obtain ⟨g, o, cap, hqv, hnc, hcm, hgl, hcell⟩ := M.2.at_ (by rw [hn]; exact hn0)
    rw [hn] at hqv hnc
    have lk := H1.out.map.look HOK.out
    rw [HLK.out] at lk
    rw [show pv (some m.b) = .pointer (some ⟨m.b, 0, none⟩) from rfl] at lk
    have c0 : w1.cell? ⟨ps, 0, none⟩ = some (.map (some bm)) := H1.out.blk.cell 0
    have m8 : w1.cell? ⟨m.b, 8, none⟩ = some (.slice (some ⟨g, o, none⟩) n cap) := by
      have := M.1.cell 8
      rw [show m.cells[8]? = some m.qv from rfl, hqv] at this
      exact this
    have y8 : w1.frozen? ⟨m.b, 8, none⟩ = false := M.1.frozen 8
    have g0 : w1.cell? ⟨g, o, none⟩ = some (.int .i64 x.name) := hcell 0 _ (by rw [hq]; rfl)
    have g1 : w1.cell? ⟨g, o + 1, none⟩ = some (.int .i64 x.delta) := hcell 1 _ (by rw [hq]; rfl)
    have g2 : w1.cell? ⟨g, o + 2, none⟩ = some (.int .i64 x.rho) := hcell 2 _ (by rw [hq]; rfl)
    have s0 : w1.cell? ⟨w.heap.size, 0, none⟩ = some (.int .i64 0) := RB.out.cell 0
    have s1 : w1.cell? ⟨w.heap.size, 1, none⟩ = some (.int .i64 0) := RB.out.cell 1
    have s2 : w1.cell? ⟨w.heap.size, 2, none⟩ = some (.int .i64 0) := RB.out.cell 2
    have z0 : w1.frozen? ⟨w.heap.size, 0, none⟩ = false := RB.out.frozen 0
    have z1 : w1.frozen? ⟨w.heap.size, 1, none⟩ = false := RB.out.frozen 1
    have z2 : w1.frozen? ⟨w.heap.size, 2, none⟩ = false := RB.out.frozen 2
    have hne : m.b ≠ w.heap.size := by have := HLT.out m HMM.out m.b (by simp [Fm.foot]); omega
    have hne2 : w.heap.size ≠ m.b := fun e => hne e.symm
    have hgf : g ∈ m.foot := by simp [Fm.foot, hqv, Value.ownBlock]
    have hng : g ≠ w.heap.size := by have := HLT.out m HMM.out g hgf; omega
    have hng2 : w.heap.size ≠ g := fun e => hng e.symm
    have hbg : m.b ≠ g := foot_not_own M (by rw [hqv]; rfl)
    have hbg2 : g ≠ m.b := fun e => hbg e.symm
    have i1 : (1 : Int) ≤ n := by omega
    have i2 : (n : Int) ≤ cap := by omega
    have HQ := hide hq
    have HN := hide hn
    have HQV := hide hqv
    have HCM := hide hcm
    clear hcell hgf M hq hn hqv hgl
    go_wp2_with fail
    by_cases hc1 : cap = 1
    · have HC1 := hide hc1
      go_region
      have ch1 : Chg [w.heap.size] w1 (((w1.setCell ⟨w.heap.size, 0, none⟩ (.int .i64 x.name)).setCell ⟨w.heap.size, 1, none⟩ (.int .i64 x.delta)).setCell ⟨w.heap.size, 2, none⟩ (.int .i64 x.rho)) := (((Chg.refl [w.heap.size] w1).setCell (Or.inl (by simp)) _).setCell (Or.inl (by simp)) _).setCell (Or.inl (by simp)) _
      have R3 : Blk (((w1.setCell ⟨w.heap.size, 0, none⟩ (.int .i64 x.name)).setCell ⟨w.heap.size, 1, none⟩ (.int .i64 x.delta)).setCell ⟨w.heap.size, 2, none⟩ (.int .i64 x.rho)) w.heap.size 36 [.int .i64 x.name, .int .i64 x.delta, .int .i64 x.rho] := ((RB.out.set 0 (.int .i64 x.name)).set 1 (.int .i64 x.delta)).set 2 (.int .i64 x.rho)
      obtain ⟨v3, hv3⟩ : ∃ v3, ((w1.setCell ⟨w.heap.size, 0, none⟩ (.int .i64 x.name)).setCell ⟨w.heap.size, 1, none⟩ (.int .i64 x.delta)).setCell ⟨w.heap.size, 2, none⟩ (.int .i64 x.rho) = v3 := ⟨_, rfl⟩
      rw [hv3] at ch1 R3
      rw [hv3]
      obtain ⟨t1, t2, t3, t4, t5⟩ := HLTA.out
      have H3 := H1.out.chg ch1 (by rw [List.mem_singleton]; omega) (by rw [List.mem_singleton]; omega) (fun z hz => by rw [List.mem_singleton]; have := t3 z hz; omega) (fun z hz => by rw [List.mem_singleton]; have := t4 z hz; omega) (fun m' hm' z hz => by rw [List.mem_singleton]; have := t5 m' hm' z hz; omega)
      have ch2 : Chg [m.b] v3 (v3.setCell ⟨m.b, 8, none⟩ (.slice (some ⟨g, o, none⟩) (n - 1) 0)).drew := ((Chg.refl [m.b] v3).setCell (Or.inl (by simp)) _).drew
      have B4 : Blk (v3.setCell ⟨m.b, 8, none⟩ (.slice (some ⟨g, o, none⟩) (n - 1) 0)).drew m.b 87 (Fm.cells ⟨⟨m.f.id, m.f.ver, m.f.p, m.f.c, rest⟩, m.b, .slice (some ⟨g, o, none⟩) (n - 1) 0⟩) := (H3.fl m HMM.out).1.set 8 (.slice (some ⟨g, o, none⟩) (n - 1) 0)
      have R4 := R3.chg ch2 (by rw [List.mem_singleton]; exact hne2)
      have hpop := FmAt.pop (m2 := ⟨⟨m.f.id, m.f.ver, m.f.p, m.f.c, rest⟩, m.b, .slice (some ⟨g, o, none⟩) (n - 1) 0⟩) (R := []) (H3.fl m HMM.out) HQ.out HN.out HQV.out (Or.inr ⟨rfl, HC1.out⟩) (by have := HC1.out; omega) ch2 (fun _ _ h => by cases h) rfl rfl rfl B4
      have hszv : v3.heap.size = w1.heap.size := by rw [← hv3]; simp [World.setCell]
      obtain ⟨hi, hm⟩ := HIM.out
      have H4 := H3.flow (m' := ⟨⟨m.f.id, m.f.ver, m.f.p, m.f.c, rest⟩, m.b, .slice (some ⟨g, o, none⟩) (n - 1) 0⟩) hi (by rw [hm]) (by rw [hm]) hpop.1 (by rw [hm]; exact ch2.mono fun z hz => Or.inl (by rw [List.mem_singleton.1 hz]; simp [Fm.foot])) (fun z hz => Or.inl (by rw [hm]; exact hpop.2 z hz))
      have C4 : Chg F v3 (v3.setCell ⟨m.b, 8, none⟩ (.slice (some ⟨g, o, none⟩) (n - 1) 0)).drew := ch2.mono fun z hz => Or.inl (by rw [List.mem_singleton.1 hz]; exact HF.out.2.2.2.2.1 m HMM.out _ (by simp [Fm.foot]))
      have hF4 := hpop.2
      have FM4 := hpop.1
      obtain ⟨w4, hw4⟩ : ∃ w4, (v3.setCell ⟨m.b, 8, none⟩ (.slice (some ⟨g, o, none⟩) (n - 1) 0)).drew = w4 := ⟨_, rfl⟩
      rw [hw4] at H4 C4 R4 FM4
      rw [hw4]
      have d1 : ∀ w', Below w4.heap.size w4 w' → w'.cell? ⟨m.b, 1, none⟩ = some (.int .i64 m.f.p.r) := FM4.1.rule 1 _ rfl
      have d2 : ∀ w', Below w4.heap.size w4 w' → w'.cell? ⟨m.b, 2, none⟩ = some (.int .i64 m.f.p.w) := FM4.1.rule 2 _ rfl
      have d3 : ∀ w', Below w4.heap.size w4 w' → w'.cell? ⟨m.b, 3, none⟩ = some (.int .i64 m.f.p.l) := FM4.1.rule 3 _ rfl
      have d4 : ∀ w', Below w4.heap.size w4 w' → w'.cell? ⟨m.b, 4, none⟩ = some (.int .i64 m.f.p.b) := FM4.1.rule 4 _ rfl
      have d5 : ∀ w', Below w4.heap.size w4 w' → w'.cell? ⟨m.b, 5, none⟩ = some (.int .i64 m.f.c.r) := FM4.1.rule 5 _ rfl
      have d6 : ∀ w', Below w4.heap.size w4 w' → w'.cell? ⟨m.b, 6, none⟩ = some (.int .i64 m.f.c.p) := FM4.1.rule 6 _ rfl
      have d7 : ∀ w', Below w4.heap.size w4 w' → w'.cell? ⟨m.b, 7, none⟩ = some (.int .i64 m.f.c.l) := FM4.1.rule 7 _ rfl
      have f5 : ∀ w', Below w4.heap.size w4 w' → w'.frozen? ⟨m.b, 5, none⟩ = false := fun w' hb => (FM4.1.below hb).frozen 5
      have f6 : ∀ w', Below w4.heap.size w4 w' → w'.frozen? ⟨m.b, 6, none⟩ = false := fun w' hb => (FM4.1.below hb).frozen 6
      have f7 : ∀ w', Below w4.heap.size w4 w' → w'.frozen? ⟨m.b, 7, none⟩ = false := fun w' hb => (FM4.1.below hb).frozen 7
      have x1 : ∀ w', Below w4.heap.size w4 w' → w'.cell? ⟨w.heap.size, 1, none⟩ = some (.int .i64 x.delta) := R4.rule 1 _ rfl
      have x2 : ∀ w', Below w4.heap.size w4 w' → w'.cell? ⟨w.heap.size, 2, none⟩ = some (.int .i64 x.rho) := R4.rule 2 _ rfl
      have hat : -9223372036854775808 ≤ at_ now ∧ at_ now ≤ 9223372036854775807 := ⟨Int.le_trans (by decide) (times_lo _ _), Int.le_trans (times_hi _ _) (by decide)⟩
      have r4 := Below.refl w4.heap.size w4
      have HH4 := hide H4
      have HC4 := hide C4
      have HR4 := hide R4
      have HFM4 := hide FM4
      have HF4 := hide hF4
      have HV3 := hide (And.intro ch1 (And.intro hszv H3))
      clear H4 C4 R4 FM4 hF4 hpop B4 ch1 ch2 R3 hv3 hw4 H3 hi hm hszv lk c0 m8 y8 g0 g1 g2 s0 s1 s2 z0 z1 z2 i1 i2 t1 t2 t3 t4 t5 hc1
      go_wp2_with fail
      refine region_lexg (fun w' => Below w4.heap.size w4 w') [18] 0 [(2, 0), (2, 1), (2, 2), (2, 3), (0, 4), (2, 5), (2, 6), (2, 7), (0, 8), (2, 9), (2, 10), (2, 11), (0, 12), (2, 13), (0, 14), (1, 15), (2, 16), (2, 17), (3, 18)] #[true, true, true, true, true, true, true, true, true, true, true, true, true, true, true, true, true, true, true] (by kernel_rfl) (by kernel_rfl) (by decide) (by kernel_rfl) (by kernel_rfl) (fun _ _ _ _ _ h => h) (by (first | exact r4.drew | exact hb5)) (fun hS0 => ?_)
      simp only [List.map_cons, List.map_nil, List.getElem?_toArray, List.getElem?_cons_succ, List.getElem?_cons_zero]
      (apply lexg_pure (by rfl); (focus (intro w; go_simp; (try with_reducible rfl); done)); simp only [Act.put, List.setIfInBounds_toArray, List.set_cons_zero, List.set_cons_succ])
      (apply lexg_pure (by rfl); (focus (intro w; go_simp; (try with_reducible rfl); done)); simp only [Act.put, List.setIfInBounds_toArray, List.set_cons_zero, List.set_cons_succ])
      (apply lexg_pure (by rfl); (focus (intro w; go_simp; (try with_reducible rfl); done)); simp only [Act.put, List.setIfInBounds_toArray, List.set_cons_zero, List.set_cons_succ])
      (apply lexg_pure (by rfl); (focus (intro w; go_simp; (try with_reducible rfl); done)); simp only [Act.put, List.setIfInBounds_toArray, List.set_cons_zero, List.set_cons_succ])
      (apply lexg_take (by rfl); (focus (intro w hw; (try dsimp only at hw); go_simp; (try with_reducible rfl); done)); simp only [Act.put, List.setIfInBounds_toArray, List.set_cons_zero, List.set_cons_succ])
      (apply lexg_pure (by rfl); (focus (intro w; go_simp; (try with_reducible rfl); done)); simp only [Act.put, List.setIfInBounds_toArray, List.set_cons_zero, List.set_cons_succ])
      (apply lexg_pure (by rfl); (focus (intro w; go_simp; (try with_reducible rfl); done)); simp only [Act.put, List.setIfInBounds_toArray, List.set_cons_zero, List.set_cons_succ])
      (apply lexg_pure (by rfl); (focus (intro w; go_simp; (try with_reducible rfl); done)); simp only [Act.put, List.setIfInBounds_toArray, List.set_cons_zero, List.set_cons_succ])
      (apply lexg_take (by rfl); (focus (intro w hw; (try dsimp only at hw); go_simp; (try with_reducible rfl); done)); simp only [Act.put, List.setIfInBounds_toArray, List.set_cons_zero, List.set_cons_succ])
      (apply lexg_pure (by rfl); (focus (intro w; go_simp; (try with_reducible rfl); done)); simp only [Act.put, List.setIfInBounds_toArray, List.set_cons_zero, List.set_cons_succ])
      (apply lexg_pure (by rfl); (focus (intro w; go_simp; (try with_reducible rfl); done)); simp only [Act.put, List.setIfInBounds_toArray, List.set_cons_zero, List.set_cons_succ])
      (apply lexg_pure (by rfl); (focus (intro w; go_simp; (try with_reducible rfl); done)); simp only [Act.put, List.setIfInBounds_toArray, List.set_cons_zero, List.set_cons_succ])
      (apply lexg_take (by rfl); (focus (intro w hw; (try dsimp only at hw); go_simp; (try with_reducible rfl); done)); simp only [Act.put, List.setIfInBounds_toArray, List.set_cons_zero, List.set_cons_succ])
      (apply lexg_pure (by rfl); (focus (intro w; go_simp; (try with_reducible rfl); done)); simp only [Act.put, List.setIfInBounds_toArray, List.set_cons_zero, List.set_cons_succ])
      (apply lexg_take (by rfl); (focus (intro w hw; (try dsimp only at hw); go_simp; (try with_reducible rfl); done)); simp only [Act.put, List.setIfInBounds_toArray, List.set_cons_zero, List.set_cons_succ])
      (refine lexg_eff (by rfl) ?_; go_simp; ((go_at_call 37; (with_reducible refine (charge_calls m.f.p m.f.c (at_ now) 1 x.delta x.rho _ hat).mono ?_); rintro e w5 ⟨rfl, hb⟩; have hb5 : Below w4.heap.size w4 w5 := r4.drew.trans hb; clear hb; have g5 := d5 w5 hb5; have g6 := d6 w5 hb5; have g7 := d7 w5 hb5; have y5 := f5 w5 hb5; have y6 := f6 w5 hb5; have y7 := f7 w5 hb5)); refine lexg_both (by (first | exact r4.drew | exact hb5)) (fun hS1 => ?_))
      (apply lexg_pure (by rfl); (focus (intro w; go_simp; (try with_reducible rfl); done)); simp only [Act.put, List.setIfInBounds_toArray, List.set_cons_zero, List.set_cons_succ])
      (apply lexg_pure (by rfl); (focus (intro w; go_simp; (try with_reducible rfl); done)); simp only [Act.put, List.setIfInBounds_toArray, List.set_cons_zero, List.set_cons_succ])
      (refine lexg_effN (by rfl) ?_; go_simp)
      refine lexg_nil (fun _ => wpAnyG_done (by kernel_rfl) ?_ _)
      have ch5 : Chg [m.b] w5 (((w5.setCell ⟨m.b, 5, none⟩ (.int .i64 (charge m.f.p m.f.c (at_ now) 1 x.delta x.rho).r)).setCell ⟨m.b, 6, none⟩ (.int .i64 (charge m.f.p m.f.c (at_ now) 1 x.delta x.rho).p)).setCell ⟨m.b, 7, none⟩ (.int .i64 (charge m.f.p m.f.c (at_ now) 1 x.delta x.rho).l)) := (((Chg.refl [m.b] w5).setCell (Or.inl (by simp)) _).setCell (Or.inl (by simp)) _).setCell (Or.inl (by simp)) _
      have M5 := HFM4.out.chg (Chg.of_below (L := []) hb5) (fun _ _ hx => by cases hx)
      have B6 : Blk (((w5.setCell ⟨m.b, 5, none⟩ (.int .i64 (charge m.f.p m.f.c (at_ now) 1 x.delta x.rho).r)).setCell ⟨m.b, 6, none⟩ (.int .i64 (charge m.f.p m.f.c (at_ now) 1 x.delta x.rho).p)).setCell ⟨m.b, 7, none⟩ (.int .i64 (charge m.f.p m.f.c (at_ now) 1 x.delta x.rho).l)) m.b 87 (Fm.cells ⟨popped m.f (at_ now) 1 x rest, m.b, .slice (some ⟨g, o, none⟩) (n - 1) 0⟩) := ((M5.1.set 5 (.int .i64 (charge m.f.p m.f.c (at_ now) 1 x.delta x.rho).r)).set 6 (.int .i64 (charge m.f.p m.f.c (at_ now) 1 x.delta x.rho).p)).set 7 (.int .i64 (charge m.f.p m.f.c (at_ now) 1 x.delta x.rho).l)
      have FM6 := M5.store (m' := ⟨popped m.f (at_ now) 1 x rest, m.b, .slice (some ⟨g, o, none⟩) (n - 1) 0⟩) ch5 B6 rfl rfl rfl
      have ch46 : Chg [m.b] w4 (((w5.setCell ⟨m.b, 5, none⟩ (.int .i64 (charge m.f.p m.f.c (at_ now) 1 x.delta x.rho).r)).setCell ⟨m.b, 6, none⟩ (.int .i64 (charge m.f.p m.f.c (at_ now) 1 x.delta x.rho).p)).setCell ⟨m.b, 7, none⟩ (.int .i64 (charge m.f.p m.f.c (at_ now) 1 x.delta x.rho).l)) := (Chg.of_below (L := [m.b]) hb5).same ch5
      obtain ⟨hi, hm⟩ := HIM.out
      have hi4 : i < (Ms.set i ⟨⟨m.f.id, m.f.ver, m.f.p, m.f.c, rest⟩, m.b, .slice (some ⟨g, o, none⟩) (n - 1) 0⟩).length := by simpa using hi
      have hm4 : (Ms.set i ⟨⟨m.f.id, m.f.ver, m.f.p, m.f.c, rest⟩, m.b, .slice (some ⟨g, o, none⟩) (n - 1) 0⟩)[i] = ⟨⟨m.f.id, m.f.ver, m.f.p, m.f.c, rest⟩, m.b, .slice (some ⟨g, o, none⟩) (n - 1) 0⟩ := by simp
      have H6 := HH4.out.flow (m' := ⟨popped m.f (at_ now) 1 x rest, m.b, .slice (some ⟨g, o, none⟩) (n - 1) 0⟩) hi4 (by rw [hm4]; rfl) (by rw [hm4]) FM6 (by rw [hm4]; exact ch46.mono fun z hz => Or.inl (by rw [List.mem_singleton.1 hz]; simp [Fm.foot])) (fun z hz => Or.inl (by rw [hm4]; exact hz))
      rw [List.set_set] at H6
      have C6 := HC4.out.trans ch46 (fun z hz => Or.inl (by rw [List.mem_singleton.1 hz]; exact HF.out.2.2.2.2.1 m HMM.out _ (by simp [Fm.foot])))
      have R6 := HR4.out.chg ch46 (by rw [List.mem_singleton]; exact hne2)
      obtain ⟨w6, hw6⟩ : ∃ w6, (((w5.setCell ⟨m.b, 5, none⟩ (.int .i64 (charge m.f.p m.f.c (at_ now) 1 x.delta x.rho).r)).setCell ⟨m.b, 6, none⟩ (.int .i64 (charge m.f.p m.f.c (at_ now) 1 x.delta x.rho).p)).setCell ⟨m.b, 7, none⟩ (.int .i64 (charge m.f.p m.f.c (at_ now) 1 x.delta x.rho).l)) = w6 := ⟨_, rfl⟩
      rw [hw6] at H6 C6 R6
      rw [hw6]
      have hm6 : (Ms.set i ⟨popped m.f (at_ now) 1 x rest, m.b, .slice (some ⟨g, o, none⟩) (n - 1) 0⟩)[i]'(by simpa using hi) = ⟨popped m.f (at_ now) 1 x rest, m.b, .slice (some ⟨g, o, none⟩) (n - 1) 0⟩ := by simp
      have HM6 := hide hm6
      have HH6 := hide H6
      have HC6 := hide C6
      have HR6 := hide R6
      clear ch5 M5 B6 FM6 ch46 hm hm4 H6 C6 R6 hw6 hm6 d1 d2 d3 d4 d5 d6 d7 f5 f6 f7 x1 x2 g5 g6 g7 y5 y6 y7
      go_wp2_with fail
      refine (stand_calls w6 ps bm _ _ LR LW _ _ _ _ FR FW i _ HH6.out (by have := HIM.out.1; simpa using this) HM6.out HLR.out HLW.out HKR.out HKW.out).mono ?_
      rintro e w7 ⟨rfl, role7, LR7, LW7, svR7, mvR7, svW7, mvW7, FR7, FW7, h7, p7, q7, c7, g7, k7⟩
      obtain ⟨t1, t2, t3, t4, t5⟩ := HLTA.out
      have R7 := HR6.out.chg c7 (fun hz => by
        rcases List.mem_append.1 hz with hz | hz
        · rcases List.mem_cons.1 hz with hz | hz
          · omega
          · have := t3 _ hz; omega
        · have := t4 _ hz; omega)
      have C7 := HC6.out.trans c7 (fun z hz => Or.inl (by
        rcases List.mem_append.1 hz with hz | hz
        · rcases List.mem_cons.1 hz with rfl | hz
          · exact HF.out.1
          · exact HF.out.2.2.1 z hz
        · exact HF.out.2.2.2.1 z hz))
      have s0 : w7.cell? ⟨w.heap.size, 0, none⟩ = some (.int .i64 x.name) := R7.cell 0
      have s1 : w7.cell? ⟨w.heap.size, 1, none⟩ = some (.int .i64 x.delta) := R7.cell 1
      have s2 : w7.cell? ⟨w.heap.size, 2, none⟩ = some (.int .i64 x.rho) := R7.cell 2
      have z0 : w7.frozen? ⟨w.heap.size, 0, none⟩ = false := R7.frozen 0
      have z1 : w7.frozen? ⟨w.heap.size, 1, none⟩ = false := R7.frozen 1
      have z2 : w7.frozen? ⟨w.heap.size, 2, none⟩ = false := R7.frozen 2
      have HX7 := hide (And.intro h7 (And.intro p7 (And.intro q7 (And.intro C7 (And.intro g7 k7)))))
      clear h7 p7 q7 c7 g7 k7 C7 R7 t1 t2 t3 t4 t5
      go_wp2_with fail
      go_region
      go_wp2
      refine bodyPost_ret (v := .tuple #[.int .i64 m.f.id, .agg #[.int .i64 x.name, .int .i64 x.delta, .int .i64 x.rho], .int .i64 1, .bool true]) (by simp [results, Try.results15, go_sem, *]) rfl (Or.inr ⟨i, 1, m.f, x, rest, hPK.out, ?_, HQ.out, rfl, ?_⟩)
      · obtain ⟨hi, hm⟩ := HIM.out
        exact ⟨by simpa using hi, by rw [List.getElem_map, hm]⟩
      obtain ⟨h7, p7, q7, C7, g7, k7⟩ := HX7.out
      obtain ⟨ch1, hszv, H3⟩ := HV3.out
      have hF3 : FFoot F ps bm FR FW Ms v3.heap.size := by
        obtain ⟨f1, f2, f3, f4, f5, f6⟩ := HF.out
        exact ⟨f1, f2, f3, f4, f5, fun z hz => by have := f6 z hz; have := HBV.out.size; omega⟩
      obtain ⟨F8, s8, u8⟩ := SA.close (X' := (Ms.map Fm.f).set i (popped m.f (at_ now) 1 x rest)) h7 (by rw [List.map_set]) hF3 C7
        (fun z hz => (g7 z hz).imp id (fun h => Nat.le_trans HC6.out.size h)) (fun z hz => (k7 z hz).imp id (fun h => Nat.le_trans HC6.out.size h)) (fun m0 hm0 z hz => Or.inl (by
          rcases List.mem_or_eq_of_mem_set hm0 with h0 | h0
          · exact ⟨m0, h0, hz⟩
          · rw [h0] at hz
            exact ⟨m, HMM.out, HF4.out z hz⟩))
      obtain ⟨hi, hm⟩ := HIM.out
      have hsR := HSR.out.flow (f' := popped m.f (at_ now) 1 x rest) HND.out (i := i) (f := m.f) (by simpa using hi) (by rw [List.getElem_map, hm]) rfl p7
      have hsW := HSW.out.flow (f' := popped m.f (at_ now) 1 x rest) HND.out (i := i) (f := m.f) (by simpa using hi) (by rw [List.getElem_map, hm]) rfl q7
      have hS7 : SS w7 ps F8 _ := ⟨LR7, LW7, s8, hsR, hsW⟩
      have ch8 : Chg [w.heap.size] w7 (((w7.setCell ⟨w.heap.size, 0, none⟩ (.int .i64 x.name)).setCell ⟨w.heap.size, 1, none⟩ (.int .i64 x.delta)).setCell ⟨w.heap.size, 2, none⟩ (.int .i64 x.rho)).drew := ((((Chg.refl [w.heap.size] w7).setCell (Or.inl (by simp)) _).setCell (Or.inl (by simp)) _).setCell (Or.inl (by simp)) _).drew
      have hgt := HBV.out.size
      have hlt7 := RB.out.lt
      refine ⟨F8, hS7.chg ch8 (fun z hz hz2 => ?_), ?_, fun z hz => ?_⟩
      · rw [List.mem_singleton.1 hz] at hz2
        rcases u8.2 _ hz2 with h | h
        · have := HF.out.2.2.2.2.2 _ h; omega
        · omega
      · refine (((Chg.of_below (L := F) HBV.out).trans ch1 (fun z hz => Or.inr (by rw [List.mem_singleton.1 hz]; exact Nat.le_refl _))).same u8.1).trans ch8 (fun z hz => Or.inr (by rw [List.mem_singleton.1 hz]; exact Nat.le_refl _))
      · rcases u8.2 z hz with h | h
        · exact Or.inl h
        · exact Or.inr (by omega)
    · have HC1 := hide hc1
      go_region
      have ch1 : Chg [w.heap.size] w1 (((w1.setCell ⟨w.heap.size, 0, none⟩ (.int .i64 x.name)).setCell ⟨w.heap.size, 1, none⟩ (.int .i64 x.delta)).setCell ⟨w.heap.size, 2, none⟩ (.int .i64 x.rho)) := (((Chg.refl [w.heap.size] w1).setCell (Or.inl (by simp)) _).setCell (Or.inl (by simp)) _).setCell (Or.inl (by simp)) _
      have R3 : Blk (((w1.setCell ⟨w.heap.size, 0, none⟩ (.int .i64 x.name)).setCell ⟨w.heap.size, 1, none⟩ (.int .i64 x.delta)).setCell ⟨w.heap.size, 2, none⟩ (.int .i64 x.rho)) w.heap.size 36 [.int .i64 x.name, .int .i64 x.delta, .int .i64 x.rho] := ((RB.out.set 0 (.int .i64 x.name)).set 1 (.int .i64 x.delta)).set 2 (.int .i64 x.rho)
      obtain ⟨v3, hv3⟩ : ∃ v3, ((w1.setCell ⟨w.heap.size, 0, none⟩ (.int .i64 x.name)).setCell ⟨w.heap.size, 1, none⟩ (.int .i64 x.delta)).setCell ⟨w.heap.size, 2, none⟩ (.int .i64 x.rho) = v3 := ⟨_, rfl⟩
      rw [hv3] at ch1 R3
      rw [hv3]
      obtain ⟨t1, t2, t3, t4, t5⟩ := HLTA.out
      have H3 := H1.out.chg ch1 (by rw [List.mem_singleton]; omega) (by rw [List.mem_singleton]; omega) (fun z hz => by rw [List.mem_singleton]; have := t3 z hz; omega) (fun z hz => by rw [List.mem_singleton]; have := t4 z hz; omega) (fun m' hm' z hz => by rw [List.mem_singleton]; have := t5 m' hm' z hz; omega)
      have ch2 : Chg [m.b] v3 (v3.setCell ⟨m.b, 8, none⟩ (.slice (some ⟨g, (o + 3), none⟩) (n - 1) (cap - 1))).drew := ((Chg.refl [m.b] v3).setCell (Or.inl (by simp)) _).drew
      have B4 : Blk (v3.setCell ⟨m.b, 8, none⟩ (.slice (some ⟨g, (o + 3), none⟩) (n - 1) (cap - 1))).drew m.b 87 (Fm.cells ⟨⟨m.f.id, m.f.ver, m.f.p, m.f.c, rest⟩, m.b, .slice (some ⟨g, (o + 3), none⟩) (n - 1) (cap - 1)⟩) := (H3.fl m HMM.out).1.set 8 (.slice (some ⟨g, (o + 3), none⟩) (n - 1) (cap - 1))
      have R4 := R3.chg ch2 (by rw [List.mem_singleton]; exact hne2)
      have hpop := FmAt.pop (m2 := ⟨⟨m.f.id, m.f.ver, m.f.p, m.f.c, rest⟩, m.b, .slice (some ⟨g, (o + 3), none⟩) (n - 1) (cap - 1)⟩) (R := []) (H3.fl m HMM.out) HQ.out HN.out HQV.out (Or.inl rfl) (by have := HC1.out; omega) ch2 (fun _ _ h => by cases h) rfl rfl rfl B4
      have hszv : v3.heap.size = w1.heap.size := by rw [← hv3]; simp [World.setCell]
      obtain ⟨hi, hm⟩ := HIM.out
      have H4 := H3.flow (m' := ⟨⟨m.f.id, m.f.ver, m.f.p, m.f.c, rest⟩, m.b, .slice (some ⟨g, (o + 3), none⟩) (n - 1) (cap - 1)⟩) hi (by rw [hm]) (by rw [hm]) hpop.1 (by rw [hm]; exact ch2.mono fun z hz => Or.inl (by rw [List.mem_singleton.1 hz]; simp [Fm.foot])) (fun z hz => Or.inl (by rw [hm]; exact hpop.2 z hz))
      have C4 : Chg F v3 (v3.setCell ⟨m.b, 8, none⟩ (.slice (some ⟨g, (o + 3), none⟩) (n - 1) (cap - 1))).drew := ch2.mono fun z hz => Or.inl (by rw [List.mem_singleton.1 hz]; exact HF.out.2.2.2.2.1 m HMM.out _ (by simp [Fm.foot]))
      have hF4 := hpop.2
      have FM4 := hpop.1
      obtain ⟨w4, hw4⟩ : ∃ w4, (v3.setCell ⟨m.b, 8, none⟩ (.slice (some ⟨g, (o + 3), none⟩) (n - 1) (cap - 1))).drew = w4 := ⟨_, rfl⟩
      rw [hw4] at H4 C4 R4 FM4
      rw [hw4]
      have d1 : ∀ w', Below w4.heap.size w4 w' → w'.cell? ⟨m.b, 1, none⟩ = some (.int .i64 m.f.p.r) := FM4.1.rule 1 _ rfl
      have d2 : ∀ w', Below w4.heap.size w4 w' → w'.cell? ⟨m.b, 2, none⟩ = some (.int .i64 m.f.p.w) := FM4.1.rule 2 _ rfl
      have d3 : ∀ w', Below w4.heap.size w4 w' → w'.cell? ⟨m.b, 3, none⟩ = some (.int .i64 m.f.p.l) := FM4.1.rule 3 _ rfl
      have d4 : ∀ w', Below w4.heap.size w4 w' → w'.cell? ⟨m.b, 4, none⟩ = some (.int .i64 m.f.p.b) := FM4.1.rule 4 _ rfl
      have d5 : ∀ w', Below w4.heap.size w4 w' → w'.cell? ⟨m.b, 5, none⟩ = some (.int .i64 m.f.c.r) := FM4.1.rule 5 _ rfl
      have d6 : ∀ w', Below w4.heap.size w4 w' → w'.cell? ⟨m.b, 6, none⟩ = some (.int .i64 m.f.c.p) := FM4.1.rule 6 _ rfl
      have d7 : ∀ w', Below w4.heap.size w4 w' → w'.cell? ⟨m.b, 7, none⟩ = some (.int .i64 m.f.c.l) := FM4.1.rule 7 _ rfl
      have f5 : ∀ w', Below w4.heap.size w4 w' → w'.frozen? ⟨m.b, 5, none⟩ = false := fun w' hb => (FM4.1.below hb).frozen 5
      have f6 : ∀ w', Below w4.heap.size w4 w' → w'.frozen? ⟨m.b, 6, none⟩ = false := fun w' hb => (FM4.1.below hb).frozen 6
      have f7 : ∀ w', Below w4.heap.size w4 w' → w'.frozen? ⟨m.b, 7, none⟩ = false := fun w' hb => (FM4.1.below hb).frozen 7
      have x1 : ∀ w', Below w4.heap.size w4 w' → w'.cell? ⟨w.heap.size, 1, none⟩ = some (.int .i64 x.delta) := R4.rule 1 _ rfl
      have x2 : ∀ w', Below w4.heap.size w4 w' → w'.cell? ⟨w.heap.size, 2, none⟩ = some (.int .i64 x.rho) := R4.rule 2 _ rfl
      have hat : -9223372036854775808 ≤ at_ now ∧ at_ now ≤ 9223372036854775807 := ⟨Int.le_trans (by decide) (times_lo _ _), Int.le_trans (times_hi _ _) (by decide)⟩
      have r4 := Below.refl w4.heap.size w4
      have HH4 := hide H4
      have HC4 := hide C4
      have HR4 := hide R4
      have HFM4 := hide FM4
      have HF4 := hide hF4
      have HV3 := hide (And.intro ch1 (And.intro hszv H3))
      clear H4 C4 R4 FM4 hF4 hpop B4 ch1 ch2 R3 hv3 hw4 H3 hi hm hszv lk c0 m8 y8 g0 g1 g2 s0 s1 s2 z0 z1 z2 i1 i2 t1 t2 t3 t4 t5 hc1
      go_wp2_with fail
      refine region_lexg (fun w' => Below w4.heap.size w4 w') [18] 0 [(2, 0), (2, 1), (2, 2), (2, 3), (0, 4), (2, 5), (2, 6), (2, 7), (0, 8), (2, 9), (2, 10), (2, 11), (0, 12), (2, 13), (0, 14), (1, 15), (2, 16), (2, 17), (3, 18)] #[true, true, true, true, true, true, true, true, true, true, true, true, true, true, true, true, true, true, true] (by kernel_rfl) (by kernel_rfl) (by decide) (by kernel_rfl) (by kernel_rfl) (fun _ _ _ _ _ h => h) (by (first | exact r4.drew | exact hb5)) (fun hS0 => ?_)
      simp only [List.map_cons, List.map_nil, List.getElem?_toArray, List.getElem?_cons_succ, List.getElem?_cons_zero]
      (apply lexg_pure (by rfl); (focus (intro w; go_simp; (try with_reducible rfl); done)); simp only [Act.put, List.setIfInBounds_toArray, List.set_cons_zero, List.set_cons_succ])
      (apply lexg_pure (by rfl); (focus (intro w; go_simp; (try with_reducible rfl); done)); simp only [Act.put, List.setIfInBounds_toArray, List.set_cons_zero, List.set_cons_succ])
      (apply lexg_pure (by rfl); (focus (intro w; go_simp; (try with_reducible rfl); done)); simp only [Act.put, List.setIfInBounds_toArray, List.set_cons_zero, List.set_cons_succ])
      (apply lexg_pure (by rfl); (focus (intro w; go_simp; (try with_reducible rfl); done)); simp only [Act.put, List.setIfInBounds_toArray, List.set_cons_zero, List.set_cons_succ])
      (apply lexg_take (by rfl); (focus (intro w hw; (try dsimp only at hw); go_simp; (try with_reducible rfl); done)); simp only [Act.put, List.setIfInBounds_toArray, List.set_cons_zero, List.set_cons_succ])
      (apply lexg_pure (by rfl); (focus (intro w; go_simp; (try with_reducible rfl); done)); simp only [Act.put, List.setIfInBounds_toArray, List.set_cons_zero, List.set_cons_succ])
      (apply lexg_pure (by rfl); (focus (intro w; go_simp; (try with_reducible rfl); done)); simp only [Act.put, List.setIfInBounds_toArray, List.set_cons_zero, List.set_cons_succ])
      (apply lexg_pure (by rfl); (focus (intro w; go_simp; (try with_reducible rfl); done)); simp only [Act.put, List.setIfInBounds_toArray, List.set_cons_zero, List.set_cons_succ])
      (apply lexg_take (by rfl); (focus (intro w hw; (try dsimp only at hw); go_simp; (try with_reducible rfl); done)); simp only [Act.put, List.setIfInBounds_toArray, List.set_cons_zero, List.set_cons_succ])
      (apply lexg_pure (by rfl); (focus (intro w; go_simp; (try with_reducible rfl); done)); simp only [Act.put, List.setIfInBounds_toArray, List.set_cons_zero, List.set_cons_succ])
      (apply lexg_pure (by rfl); (focus (intro w; go_simp; (try with_reducible rfl); done)); simp only [Act.put, List.setIfInBounds_toArray, List.set_cons_zero, List.set_cons_succ])
      (apply lexg_pure (by rfl); (focus (intro w; go_simp; (try with_reducible rfl); done)); simp only [Act.put, List.setIfInBounds_toArray, List.set_cons_zero, List.set_cons_succ])
      (apply lexg_take (by rfl); (focus (intro w hw; (try dsimp only at hw); go_simp; (try with_reducible rfl); done)); simp only [Act.put, List.setIfInBounds_toArray, List.set_cons_zero, List.set_cons_succ])
      (apply lexg_pure (by rfl); (focus (intro w; go_simp; (try with_reducible rfl); done)); simp only [Act.put, List.setIfInBounds_toArray, List.set_cons_zero, List.set_cons_succ])
      (apply lexg_take (by rfl); (focus (intro w hw; (try dsimp only at hw); go_simp; (try with_reducible rfl); done)); simp only [Act.put, List.setIfInBounds_toArray, List.set_cons_zero, List.set_cons_succ])
      (refine lexg_eff (by rfl) ?_; go_simp; ((go_at_call 37; (with_reducible refine (charge_calls m.f.p m.f.c (at_ now) 1 x.delta x.rho _ hat).mono ?_); rintro e w5 ⟨rfl, hb⟩; have hb5 : Below w4.heap.size w4 w5 := r4.drew.trans hb; clear hb; have g5 := d5 w5 hb5; have g6 := d6 w5 hb5; have g7 := d7 w5 hb5; have y5 := f5 w5 hb5; have y6 := f6 w5 hb5; have y7 := f7 w5 hb5)); refine lexg_both (by (first | exact r4.drew | exact hb5)) (fun hS1 => ?_))
      (apply lexg_pure (by rfl); (focus (intro w; go_simp; (try with_reducible rfl); done)); simp only [Act.put, List.setIfInBounds_toArray, List.set_cons_zero, List.set_cons_succ])
      (apply lexg_pure (by rfl); (focus (intro w; go_simp; (try with_reducible rfl); done)); simp only [Act.put, List.setIfInBounds_toArray, List.set_cons_zero, List.set_cons_succ])
      (refine lexg_effN (by rfl) ?_; go_simp)
      refine lexg_nil (fun _ => wpAnyG_done (by kernel_rfl) ?_ _)
      have ch5 : Chg [m.b] w5 (((w5.setCell ⟨m.b, 5, none⟩ (.int .i64 (charge m.f.p m.f.c (at_ now) 1 x.delta x.rho).r)).setCell ⟨m.b, 6, none⟩ (.int .i64 (charge m.f.p m.f.c (at_ now) 1 x.delta x.rho).p)).setCell ⟨m.b, 7, none⟩ (.int .i64 (charge m.f.p m.f.c (at_ now) 1 x.delta x.rho).l)) := (((Chg.refl [m.b] w5).setCell (Or.inl (by simp)) _).setCell (Or.inl (by simp)) _).setCell (Or.inl (by simp)) _
      have M5 := HFM4.out.chg (Chg.of_below (L := []) hb5) (fun _ _ hx => by cases hx)
      have B6 : Blk (((w5.setCell ⟨m.b, 5, none⟩ (.int .i64 (charge m.f.p m.f.c (at_ now) 1 x.delta x.rho).r)).setCell ⟨m.b, 6, none⟩ (.int .i64 (charge m.f.p m.f.c (at_ now) 1 x.delta x.rho).p)).setCell ⟨m.b, 7, none⟩ (.int .i64 (charge m.f.p m.f.c (at_ now) 1 x.delta x.rho).l)) m.b 87 (Fm.cells ⟨popped m.f (at_ now) 1 x rest, m.b, .slice (some ⟨g, (o + 3), none⟩) (n - 1) (cap - 1)⟩) := ((M5.1.set 5 (.int .i64 (charge m.f.p m.f.c (at_ now) 1 x.delta x.rho).r)).set 6 (.int .i64 (charge m.f.p m.f.c (at_ now) 1 x.delta x.rho).p)).set 7 (.int .i64 (charge m.f.p m.f.c (at_ now) 1 x.delta x.rho).l)
      have FM6 := M5.store (m' := ⟨popped m.f (at_ now) 1 x rest, m.b, .slice (some ⟨g, (o + 3), none⟩) (n - 1) (cap - 1)⟩) ch5 B6 rfl rfl rfl
      have ch46 : Chg [m.b] w4 (((w5.setCell ⟨m.b, 5, none⟩ (.int .i64 (charge m.f.p m.f.c (at_ now) 1 x.delta x.rho).r)).setCell ⟨m.b, 6, none⟩ (.int .i64 (charge m.f.p m.f.c (at_ now) 1 x.delta x.rho).p)).setCell ⟨m.b, 7, none⟩ (.int .i64 (charge m.f.p m.f.c (at_ now) 1 x.delta x.rho).l)) := (Chg.of_below (L := [m.b]) hb5).same ch5
      obtain ⟨hi, hm⟩ := HIM.out
      have hi4 : i < (Ms.set i ⟨⟨m.f.id, m.f.ver, m.f.p, m.f.c, rest⟩, m.b, .slice (some ⟨g, (o + 3), none⟩) (n - 1) (cap - 1)⟩).length := by simpa using hi
      have hm4 : (Ms.set i ⟨⟨m.f.id, m.f.ver, m.f.p, m.f.c, rest⟩, m.b, .slice (some ⟨g, (o + 3), none⟩) (n - 1) (cap - 1)⟩)[i] = ⟨⟨m.f.id, m.f.ver, m.f.p, m.f.c, rest⟩, m.b, .slice (some ⟨g, (o + 3), none⟩) (n - 1) (cap - 1)⟩ := by simp
      have H6 := HH4.out.flow (m' := ⟨popped m.f (at_ now) 1 x rest, m.b, .slice (some ⟨g, (o + 3), none⟩) (n - 1) (cap - 1)⟩) hi4 (by rw [hm4]; rfl) (by rw [hm4]) FM6 (by rw [hm4]; exact ch46.mono fun z hz => Or.inl (by rw [List.mem_singleton.1 hz]; simp [Fm.foot])) (fun z hz => Or.inl (by rw [hm4]; exact hz))
      rw [List.set_set] at H6
      have C6 := HC4.out.trans ch46 (fun z hz => Or.inl (by rw [List.mem_singleton.1 hz]; exact HF.out.2.2.2.2.1 m HMM.out _ (by simp [Fm.foot])))
      have R6 := HR4.out.chg ch46 (by rw [List.mem_singleton]; exact hne2)
      obtain ⟨w6, hw6⟩ : ∃ w6, (((w5.setCell ⟨m.b, 5, none⟩ (.int .i64 (charge m.f.p m.f.c (at_ now) 1 x.delta x.rho).r)).setCell ⟨m.b, 6, none⟩ (.int .i64 (charge m.f.p m.f.c (at_ now) 1 x.delta x.rho).p)).setCell ⟨m.b, 7, none⟩ (.int .i64 (charge m.f.p m.f.c (at_ now) 1 x.delta x.rho).l)) = w6 := ⟨_, rfl⟩
      rw [hw6] at H6 C6 R6
      rw [hw6]
      have hm6 : (Ms.set i ⟨popped m.f (at_ now) 1 x rest, m.b, .slice (some ⟨g, (o + 3), none⟩) (n - 1) (cap - 1)⟩)[i]'(by simpa using hi) = ⟨popped m.f (at_ now) 1 x rest, m.b, .slice (some ⟨g, (o + 3), none⟩) (n - 1) (cap - 1)⟩ := by simp
      have HM6 := hide hm6
      have HH6 := hide H6
      have HC6 := hide C6
      have HR6 := hide R6
      clear ch5 M5 B6 FM6 ch46 hm hm4 H6 C6 R6 hw6 hm6 d1 d2 d3 d4 d5 d6 d7 f5 f6 f7 x1 x2 g5 g6 g7 y5 y6 y7
      go_wp2_with fail
      refine (stand_calls w6 ps bm _ _ LR LW _ _ _ _ FR FW i _ HH6.out (by have := HIM.out.1; simpa using this) HM6.out HLR.out HLW.out HKR.out HKW.out).mono ?_
      rintro e w7 ⟨rfl, role7, LR7, LW7, svR7, mvR7, svW7, mvW7, FR7, FW7, h7, p7, q7, c7, g7, k7⟩
      obtain ⟨t1, t2, t3, t4, t5⟩ := HLTA.out
      have R7 := HR6.out.chg c7 (fun hz => by
        rcases List.mem_append.1 hz with hz | hz
        · rcases List.mem_cons.1 hz with hz | hz
          · omega
          · have := t3 _ hz; omega
        · have := t4 _ hz; omega)
      have C7 := HC6.out.trans c7 (fun z hz => Or.inl (by
        rcases List.mem_append.1 hz with hz | hz
        · rcases List.mem_cons.1 hz with rfl | hz
          · exact HF.out.1
          · exact HF.out.2.2.1 z hz
        · exact HF.out.2.2.2.1 z hz))
      have s0 : w7.cell? ⟨w.heap.size, 0, none⟩ = some (.int .i64 x.name) := R7.cell 0
      have s1 : w7.cell? ⟨w.heap.size, 1, none⟩ = some (.int .i64 x.delta) := R7.cell 1
      have s2 : w7.cell? ⟨w.heap.size, 2, none⟩ = some (.int .i64 x.rho) := R7.cell 2
      have z0 : w7.frozen? ⟨w.heap.size, 0, none⟩ = false := R7.frozen 0
      have z1 : w7.frozen? ⟨w.heap.size, 1, none⟩ = false := R7.frozen 1
      have z2 : w7.frozen? ⟨w.heap.size, 2, none⟩ = false := R7.frozen 2
      have HX7 := hide (And.intro h7 (And.intro p7 (And.intro q7 (And.intro C7 (And.intro g7 k7)))))
      clear h7 p7 q7 c7 g7 k7 C7 R7 t1 t2 t3 t4 t5
      go_wp2_with fail
      go_region
      go_wp2
      refine bodyPost_ret (v := .tuple #[.int .i64 m.f.id, .agg #[.int .i64 x.name, .int .i64 x.delta, .int .i64 x.rho], .int .i64 1, .bool true]) (by simp [results, Try.results15, go_sem, *]) rfl (Or.inr ⟨i, 1, m.f, x, rest, hPK.out, ?_, HQ.out, rfl, ?_⟩)
      · obtain ⟨hi, hm⟩ := HIM.out
        exact ⟨by simpa using hi, by rw [List.getElem_map, hm]⟩
      obtain ⟨h7, p7, q7, C7, g7, k7⟩ := HX7.out
      obtain ⟨ch1, hszv, H3⟩ := HV3.out
      have hF3 : FFoot F ps bm FR FW Ms v3.heap.size := by
        obtain ⟨f1, f2, f3, f4, f5, f6⟩ := HF.out
        exact ⟨f1, f2, f3, f4, f5, fun z hz => by have := f6 z hz; have := HBV.out.size; omega⟩
      obtain ⟨F8, s8, u8⟩ := SA.close (X' := (Ms.map Fm.f).set i (popped m.f (at_ now) 1 x rest)) h7 (by rw [List.map_set]) hF3 C7
        (fun z hz => (g7 z hz).imp id (fun h => Nat.le_trans HC6.out.size h)) (fun z hz => (k7 z hz).imp id (fun h => Nat.le_trans HC6.out.size h)) (fun m0 hm0 z hz => Or.inl (by
          rcases List.mem_or_eq_of_mem_set hm0 with h0 | h0
          · exact ⟨m0, h0, hz⟩
          · rw [h0] at hz
            exact ⟨m, HMM.out, HF4.out z hz⟩))
      obtain ⟨hi, hm⟩ := HIM.out
      have hsR := HSR.out.flow (f' := popped m.f (at_ now) 1 x rest) HND.out (i := i) (f := m.f) (by simpa using hi) (by rw [List.getElem_map, hm]) rfl p7
      have hsW := HSW.out.flow (f' := popped m.f (at_ now) 1 x rest) HND.out (i := i) (f := m.f) (by simpa using hi) (by rw [List.getElem_map, hm]) rfl q7
      have hS7 : SS w7 ps F8 _ := ⟨LR7, LW7, s8, hsR, hsW⟩
      have ch8 : Chg [w.heap.size] w7 (((w7.setCell ⟨w.heap.size, 0, none⟩ (.int .i64 x.name)).setCell ⟨w.heap.size, 1, none⟩ (.int .i64 x.delta)).setCell ⟨w.heap.size, 2, none⟩ (.int .i64 x.rho)).drew := ((((Chg.refl [w.heap.size] w7).setCell (Or.inl (by simp)) _).setCell (Or.inl (by simp)) _).setCell (Or.inl (by simp)) _).drew
      have hgt := HBV.out.size
      have hlt7 := RB.out.lt
      refine ⟨F8, hS7.chg ch8 (fun z hz hz2 => ?_), ?_, fun z hz => ?_⟩
      · rw [List.mem_singleton.1 hz] at hz2
        rcases u8.2 _ hz2 with h | h
        · have := HF.out.2.2.2.2.2 _ h; omega
        · omega
      · refine (((Chg.of_below (L := F) HBV.out).trans ch1 (fun z hz => Or.inr (by rw [List.mem_singleton.1 hz]; exact Nat.le_refl _))).same u8.1).trans ch8 (fun z hz => Or.inr (by rw [List.mem_singleton.1 hz]; exact Nat.le_refl _))
      · rcases u8.2 z hz with h | h
        · exact Or.inl h
        · exact Or.inr (by omega)
end Go.Proofs.Ytjdkafamaoeifaa
