/- The law SchedPlays of layer 12: for every input it answers true. No conditions. -/
import Derived.Test.YtjdkafamaoeifaaTops
import Derived.Deep.CutRange
import Derived.Deep.CutBlock
namespace Go.Proofs.Ytjdkafamaoeifaa
open Go.ChangeShapes Go.WideShapes Go.ChangeAt Go.RowKit Go.Proofs Go.Joins Go.Maps Go.Deep
set_option linter.unusedVariables false
set_option linter.unusedSimpArgs false

theorem Doc.rows {w : World} {G : List Nat} {A : Option Addr} {n c : Nat} {D : List Dl} {j : Nat} (h : Doc w G (.slice A n c) D) (hj : j < D.length) :
    ∃ b o, A = some ⟨b, o, none⟩ ∧ ∀ i, i < 10 → ∀ w', Below w.heap.size w w' → w'.cell? ⟨b, o + (j * 10 + i), none⟩ = D[j].cells[i]? := by
  obtain ⟨b, o, c', e, _, _, hb, hc⟩ := h.at_ hj
  injection e with e1 _ _
  exact ⟨b, o, e1, fun i hi w' hb' => (hb'.cell (p := ⟨b, o + (j * 10 + i), none⟩) hb).trans (hc i hi)⟩
set_option maxHeartbeats 16000000 in
set_option maxRecDepth 100000 in
/-- THE WALK of SchedPlays: whatever comes in, it answers true, and nothing that was there turns. -/
theorem schedPlays_walk {H : Type} {enc : TypeId × Value → H} (W : World) (base : Nat) (v0 : Value) (d0 : DataW H) (p0 : List MemPlace)
    (ok0 : Value.okWide Try.prog W .any base 61 v0) (h0 : DataW.Trod enc Try.prog W 0 (fun _ => true) true 61 v0 d0 p0) :
    Calls Try.prog 9 #[v0] W fun e w' => e = .returned (.bool true) ∧ Below W.heap.size W w' := by
  obtain ⟨A0, c0, al, rfl, l0, m0, fw, R0⟩ := open_acts ok0 h0
  clear ok0 h0
  unfold maxLen at m0
  have HR0 := hide R0
  have HFW := hide fw
  clear R0 fw
  by_cases n0 : al.length ≤ 100
  · have hn : ¬ (100 < (al.length : Int)) := by omega
    have HN := hide (snew_s (Inv.refl W))
    go_enter Try.func9, Try.ntmps9
    go_wp2_with fail
    refine HN.out.mono ?_
    rintro e w3 ⟨ps, rfl, h3⟩
    have H3 := hide (PlaySt.start h3)
    clear h3 HN
    go_wp2_with fail
    go_loopw [4, 5, 6, 7, 8, 9, 10, 11, 12, 13, 14, 15, 16, 17, 18, 19, 20, 21, 22] (fun x i _ _ _ _ _ _ _ _ _ _ _ _ _ _ _ _ _ wr => ∃ (k n c : Nat) (A : Option Addr) (X : List Fl) (G : List Nat) (D : List Dl), k ≤ al.length ∧ i = .int .i64 k ∧ x = .slice A n c ∧ D.length = n ∧ PlaySt W [] wr ps X G (.slice A n c) D ∧ PlayInv X D k) (fun _ i _ _ _ _ _ _ _ _ _ _ _ _ _ _ _ _ _ _ => al.length - (intOf i).toNat)
    case atStart => exact ⟨0, 0, 0, none, [], [], [], by omega, rfl, rfl, rfl, H3.out, PlayInv.start⟩
    case round =>
      obtain ⟨k, n, c, A, X, G, D, hk, rfl, rfl, hDn, hP, hI⟩ := hrel
      have HP := hide hP
      have HI := hide hI
      have HD := hide hDn
      have hnk : n ≤ k := by rw [← hDn]; exact hI.len
      clear hP hI hDn H3
      by_cases hlt : k < al.length
      · obtain ⟨b, o, rfl, hbB, hcell⟩ := HR0.out.at_ (by omega)
        have hfw := HFW.out al[k] (List.getElem_mem hlt)
        have G0 : Hid (∀ j, j < 11 → wr.cell? ⟨b, o + (k * 11 + j), none⟩ = al[k].cells[j]?) := hide (fun j (hj : j < 11) => (HP.out.base.cell (p := ⟨b, o + (k * 11 + j), none⟩) hbB).trans ((hcell (k * 11 + j) (al[k].cells[j]'hj) (by rw [actCells_get al k j hlt hj]; exact List.getElem?_eq_getElem hj)).trans (List.getElem?_eq_getElem hj).symm))
        obtain ⟨y, hy⟩ : ∃ y, al[k] = y := ⟨_, rfl⟩
        simp only [hy] at G0
        rw [hy] at hfw
        clear hy
        obtain ⟨dz, fl, vr, nw, ⟨pr, pw, pl, pb⟩, ⟨xn, xd, xr⟩⟩ := y
        clear hcell
        have g0 : wr.cell? ⟨b, o + k * 11, none⟩ = some (.int .i64 dz) := G0.out 0 (by omega)
        have g1 : wr.cell? ⟨b, o + k * 11 + 1, none⟩ = some (.int .i64 fl) := G0.out 1 (by omega)
        have g2 : wr.cell? ⟨b, o + k * 11 + 2, none⟩ = some (.int .i64 vr) := G0.out 2 (by omega)
        have g3 : wr.cell? ⟨b, o + k * 11 + 3, none⟩ = some (.int .i64 nw) := G0.out 3 (by omega)
        have g4 : wr.cell? ⟨b, o + k * 11 + 4, none⟩ = some (.int .i64 pr) := G0.out 4 (by omega)
        have g5 : wr.cell? ⟨b, o + k * 11 + 5, none⟩ = some (.int .i64 pw) := G0.out 5 (by omega)
        have g6 : wr.cell? ⟨b, o + k * 11 + 6, none⟩ = some (.int .i64 pl) := G0.out 6 (by omega)
        have g7 : wr.cell? ⟨b, o + k * 11 + 7, none⟩ = some (.int .i64 pb) := G0.out 7 (by omega)
        have g8 : wr.cell? ⟨b, o + k * 11 + 8, none⟩ = some (.int .i64 xn) := G0.out 8 (by omega)
        have g9 : wr.cell? ⟨b, o + k * 11 + 9, none⟩ = some (.int .i64 xd) := G0.out 9 (by omega)
        have g10 : wr.cell? ⟨b, o + k * 11 + 10, none⟩ = some (.int .i64 xr) := G0.out 10 (by omega)
        have i1 : (k : Int) < al.length := by omega
        have HFL := hide hfw
        have HS := hide (HP.out.new (b := wr.heap.size) (t := 64) (cs := #[.int .i64 dz, .int .i64 fl, .int .i64 vr, .int .i64 nw, .int .i64 pr, .int .i64 pw, .int .i64 pl, .int .i64 pb, .int .i64 xn, .int .i64 xd, .int .i64 xr]) rfl)
        clear hfw G0
        go_upto_block 2 with fail
        clear HP g0 g1 g2 g3 g4 g5 g6 g7 g8 g9 g10
        go_cut [4, 7, 8, 9, 10, 11, 12, 13, 14, 15, 16, 17] from 28 to 229 (fun x _ _ _ _ _ _ _ _ _ _ _ wx => ∃ (A : Option Addr) (n c : Nat) (X : List Fl) (G : List Nat) (D : List Dl), x = .slice A n c ∧ D.length = n ∧ PlaySt W [(wr.heap.size, 64, #[.int .i64 dz, .int .i64 fl, .int .i64 vr, .int .i64 nw, .int .i64 pr, .int .i64 pw, .int .i64 pl, .int .i64 pb, .int .i64 xn, .int .i64 xd, .int .i64 xr])] wx ps X G (.slice A n c) D ∧ PlayInv X D (k + 1))
        case first =>
          obtain ⟨w0, hw0⟩ : ∃ w0, wr.alloc (.cells #[.int .i64 dz, .int .i64 fl, .int .i64 vr, .int .i64 nw, .int .i64 pr, .int .i64 pw, .int .i64 pl, .int .i64 pb, .int .i64 xn, .int .i64 xd, .int .i64 xr] 64) = w0 := ⟨_, rfl⟩
          have hs := HS.out
          rw [hw0] at hs
          rw [hw0]
          have HS0 := hide hs
          have HX := hide hw0
          clear hs hw0 HS
          have b1 : w0.cell? ⟨wr.heap.size, 1, none⟩ = some (.int .i64 fl) := HS0.out.inv.cell (List.Mem.head _) 1
          have b2 : w0.cell? ⟨wr.heap.size, 2, none⟩ = some (.int .i64 vr) := HS0.out.inv.cell (List.Mem.head _) 2
          have b3 : w0.cell? ⟨wr.heap.size, 3, none⟩ = some (.int .i64 nw) := HS0.out.inv.cell (List.Mem.head _) 3
          have b4 : w0.cell? ⟨wr.heap.size, 4, none⟩ = some (.int .i64 pr) := HS0.out.inv.cell (List.Mem.head _) 4
          have b5 : w0.cell? ⟨wr.heap.size, 5, none⟩ = some (.int .i64 pw) := HS0.out.inv.cell (List.Mem.head _) 5
          have b6 : w0.cell? ⟨wr.heap.size, 6, none⟩ = some (.int .i64 pl) := HS0.out.inv.cell (List.Mem.head _) 6
          have b7 : w0.cell? ⟨wr.heap.size, 7, none⟩ = some (.int .i64 pb) := HS0.out.inv.cell (List.Mem.head _) 7
          have b8 : w0.cell? ⟨wr.heap.size, 8, none⟩ = some (.int .i64 xn) := HS0.out.inv.cell (List.Mem.head _) 8
          have b9 : w0.cell? ⟨wr.heap.size, 9, none⟩ = some (.int .i64 xd) := HS0.out.inv.cell (List.Mem.head _) 9
          have b10 : w0.cell? ⟨wr.heap.size, 10, none⟩ = some (.int .i64 xr) := HS0.out.inv.cell (List.Mem.head _) 10
          by_cases d0 : dz = 0
          · as_aux_lemma =>
              have t0 : (dz == 0) = true := by simp [d0]
              have HC := hide (play_set HS0.out HD.out HI.out (by omega) fl vr ⟨pr, pw, pl, pb⟩ HFL.out.1 HFL.out.2.1)
              clear d0
              go_wp2_with fail
              refine HC.out.mono ?_
              rintro e w1 ⟨A1, n1, c1, z, G1, D1, rfl, hl1, h1, hg1⟩
              have H1 := hide h1
              have HG1 := hide (hg1 _ _ h1)
              have HL1 := hide hl1
              clear h1 hg1 hl1 HC b1 b2 b3 b4 b5 b6 b7 b8 b9 b10
              have b1 : w1.cell? ⟨wr.heap.size, 1, none⟩ = some (.int .i64 fl) := H1.out.inv.cell (List.Mem.head _) 1
              have b2 : w1.cell? ⟨wr.heap.size, 2, none⟩ = some (.int .i64 vr) := H1.out.inv.cell (List.Mem.head _) 2
              have b3 : w1.cell? ⟨wr.heap.size, 3, none⟩ = some (.int .i64 nw) := H1.out.inv.cell (List.Mem.head _) 3
              have b4 : w1.cell? ⟨wr.heap.size, 4, none⟩ = some (.int .i64 pr) := H1.out.inv.cell (List.Mem.head _) 4
              have b5 : w1.cell? ⟨wr.heap.size, 5, none⟩ = some (.int .i64 pw) := H1.out.inv.cell (List.Mem.head _) 5
              have b6 : w1.cell? ⟨wr.heap.size, 6, none⟩ = some (.int .i64 pl) := H1.out.inv.cell (List.Mem.head _) 6
              have b7 : w1.cell? ⟨wr.heap.size, 7, none⟩ = some (.int .i64 pb) := H1.out.inv.cell (List.Mem.head _) 7
              have b8 : w1.cell? ⟨wr.heap.size, 8, none⟩ = some (.int .i64 xn) := H1.out.inv.cell (List.Mem.head _) 8
              have b9 : w1.cell? ⟨wr.heap.size, 9, none⟩ = some (.int .i64 xd) := H1.out.inv.cell (List.Mem.head _) 9
              have b10 : w1.cell? ⟨wr.heap.size, 10, none⟩ = some (.int .i64 xr) := H1.out.inv.cell (List.Mem.head _) 10
              go_wp2_with fail
              refine HG1.out.mono ?_
              rintro e w2 ⟨rfl, X2, h2, hk2⟩
              have H2 := hide (And.intro h2 hk2)
              clear h2 hk2 HG1
              go_wp2
              go_meet
              case rel => exact ⟨A1, n1, c1, X2, G1, D1, rfl, HL1.out, H2.out.1, H2.out.2⟩
          have t0 : (dz == 0) = false := by simp [d0]
          by_cases d1 : dz = 1
          · as_aux_lemma =>
              have t1 : (dz == 1) = true := by simp [d1]
              have HC := hide (play_push HS0.out HD.out HI.out (by omega) fl nw ⟨xn, xd, xr⟩ HFL.out.1)
              clear d0 d1
              go_wp2_with fail
              refine HC.out.mono ?_
              rintro e w1 ⟨A1, n1, c1, z, G1, D1, rfl, hl1, h1, hg1⟩
              have H1 := hide h1
              have HG1 := hide (hg1 _ _ h1)
              have HL1 := hide hl1
              clear h1 hg1 hl1 HC b1 b2 b3 b4 b5 b6 b7 b8 b9 b10
              have b1 : w1.cell? ⟨wr.heap.size, 1, none⟩ = some (.int .i64 fl) := H1.out.inv.cell (List.Mem.head _) 1
              have b2 : w1.cell? ⟨wr.heap.size, 2, none⟩ = some (.int .i64 vr) := H1.out.inv.cell (List.Mem.head _) 2
              have b3 : w1.cell? ⟨wr.heap.size, 3, none⟩ = some (.int .i64 nw) := H1.out.inv.cell (List.Mem.head _) 3
              have b4 : w1.cell? ⟨wr.heap.size, 4, none⟩ = some (.int .i64 pr) := H1.out.inv.cell (List.Mem.head _) 4
              have b5 : w1.cell? ⟨wr.heap.size, 5, none⟩ = some (.int .i64 pw) := H1.out.inv.cell (List.Mem.head _) 5
              have b6 : w1.cell? ⟨wr.heap.size, 6, none⟩ = some (.int .i64 pl) := H1.out.inv.cell (List.Mem.head _) 6
              have b7 : w1.cell? ⟨wr.heap.size, 7, none⟩ = some (.int .i64 pb) := H1.out.inv.cell (List.Mem.head _) 7
              have b8 : w1.cell? ⟨wr.heap.size, 8, none⟩ = some (.int .i64 xn) := H1.out.inv.cell (List.Mem.head _) 8
              have b9 : w1.cell? ⟨wr.heap.size, 9, none⟩ = some (.int .i64 xd) := H1.out.inv.cell (List.Mem.head _) 9
              have b10 : w1.cell? ⟨wr.heap.size, 10, none⟩ = some (.int .i64 xr) := H1.out.inv.cell (List.Mem.head _) 10
              go_wp2_with fail
              refine HG1.out.mono ?_
              rintro e w2 ⟨rfl, X2, h2, hk2⟩
              have H2 := hide (And.intro h2 hk2)
              clear h2 hk2 HG1
              go_wp2
              go_meet
              case rel => exact ⟨A1, n1, c1, X2, G1, D1, rfl, HL1.out, H2.out.1, H2.out.2⟩
          have t1 : (dz == 1) = false := by simp [d1]
          by_cases d2 : dz = 2
          · as_aux_lemma =>
              have t2 : (dz == 2) = true := by simp [d2]
              have HC := hide (play_pick HS0.out HD.out HI.out (by omega) nw)
              clear d0 d1 d2
              go_wp2_with fail
              refine HC.out.mono ?_
              rintro e w1 ⟨A1, n1, c1, id, x, ph, G1, D1, rfl, hl1, h1, hg1⟩
              have h1' := h1.new (b := w1.heap.size) (t := 69) (cs := #[.slice A1 n1 c1, .int .i64 id, .int .i64 x.name, .int .i64 x.delta, .int .i64 x.rho, .int .i64 ph]) rfl
              have H1 := hide h1
              have HG1 := hide (hg1 _ _ h1')
              have HL1 := hide hl1
              clear h1 hg1 hl1 HC b1 b2 b3 b4 b5 b6 b7 b8 b9 b10 h1'
              have b1 : w1.cell? ⟨wr.heap.size, 1, none⟩ = some (.int .i64 fl) := H1.out.inv.cell (List.Mem.head _) 1
              have b2 : w1.cell? ⟨wr.heap.size, 2, none⟩ = some (.int .i64 vr) := H1.out.inv.cell (List.Mem.head _) 2
              have b3 : w1.cell? ⟨wr.heap.size, 3, none⟩ = some (.int .i64 nw) := H1.out.inv.cell (List.Mem.head _) 3
              have b4 : w1.cell? ⟨wr.heap.size, 4, none⟩ = some (.int .i64 pr) := H1.out.inv.cell (List.Mem.head _) 4
              have b5 : w1.cell? ⟨wr.heap.size, 5, none⟩ = some (.int .i64 pw) := H1.out.inv.cell (List.Mem.head _) 5
              have b6 : w1.cell? ⟨wr.heap.size, 6, none⟩ = some (.int .i64 pl) := H1.out.inv.cell (List.Mem.head _) 6
              have b7 : w1.cell? ⟨wr.heap.size, 7, none⟩ = some (.int .i64 pb) := H1.out.inv.cell (List.Mem.head _) 7
              have b8 : w1.cell? ⟨wr.heap.size, 8, none⟩ = some (.int .i64 xn) := H1.out.inv.cell (List.Mem.head _) 8
              have b9 : w1.cell? ⟨wr.heap.size, 9, none⟩ = some (.int .i64 xd) := H1.out.inv.cell (List.Mem.head _) 9
              have b10 : w1.cell? ⟨wr.heap.size, 10, none⟩ = some (.int .i64 xr) := H1.out.inv.cell (List.Mem.head _) 10
              have nu0 : wr.heap.size < w1.heap.size := H1.out.inv.lt (List.Mem.head _)
              go_wp2_with fail
              refine HG1.out.mono ?_
              rintro e w3 ⟨rfl, X2, h3, hk3⟩
              have p0 : w3.cell? ⟨w1.heap.size, 0, none⟩ = some (.slice A1 n1 c1) := h3.inv.cell (List.Mem.head _) 0
              have p1 : w3.cell? ⟨w1.heap.size, 1, none⟩ = some (.int .i64 id) := h3.inv.cell (List.Mem.head _) 1
              have p2 : w3.cell? ⟨w1.heap.size, 2, none⟩ = some (.int .i64 x.name) := h3.inv.cell (List.Mem.head _) 2
              have p3 : w3.cell? ⟨w1.heap.size, 3, none⟩ = some (.int .i64 x.delta) := h3.inv.cell (List.Mem.head _) 3
              have p4 : w3.cell? ⟨w1.heap.size, 4, none⟩ = some (.int .i64 x.rho) := h3.inv.cell (List.Mem.head _) 4
              have p5 : w3.cell? ⟨w1.heap.size, 5, none⟩ = some (.int .i64 ph) := h3.inv.cell (List.Mem.head _) 5
              have nu1 : w1.heap.size < w3.heap.size := h3.inv.lt (List.Mem.head _)
              have nu2 : ¬ (w1.heap.size = w3.heap.size) := by omega
              have nu3 : ¬ (w3.heap.size = w1.heap.size) := by omega
              have H3 := hide (And.intro ((h3.sub (fun p hp => List.mem_cons_of_mem _ hp)).below ((Below.refl w3.heap.size w3).alloc (Nat.le_refl _) (.cells #[.int .i64 x.name, .int .i64 x.delta, .int .i64 x.rho] 36))) hk3)
              clear h3 hk3 HG1 b1 b2 b3 b4 b5 b6 b7 b8 b9 b10
              go_wp2
              go_meet
              case rel => exact ⟨A1, n1, c1, X2, G1, D1, rfl, HL1.out, H3.out.1, H3.out.2⟩
          have t2 : (dz == 2) = false := by simp [d2]
          by_cases d3 : dz = 3
          · as_aux_lemma =>
              have t3 : (dz == 3) = true := by simp [d3]
              clear d0 d1 d2 d3
              go_wp2_with fail
              refine (at12_calls fl HS0.out.doc HD.out (by omega)).mono ?_
              rintro e w1 ⟨⟨z, rfl, hz⟩, rfl⟩
              rcases hz with ⟨rfl, hno⟩ | ⟨j, hj, rfl, hid⟩
              · have HDR := hide (play_drop HS0.out HI.out fl HFL.out.1 hno)
                clear hno
                go_wp2_with fail
                refine HDR.out.mono ?_
                rintro e w2 ⟨rfl, h2, hk2⟩
                have H2 := hide (And.intro h2 hk2)
                clear h2 hk2 HDR
                go_wp2
                go_meet
                case rel => exact ⟨A, n, c, X, G, D, rfl, HD.out, H2.out.1, H2.out.2⟩
              · have hpo := play_out HS0.out HD.out HI.out (by omega) fl hj hid
                obtain ⟨bd, od, rfl, hrow⟩ := HS0.out.doc.rows hj
                have k9 : w0.cell? ⟨bd, od + j * 10 + 9, none⟩ = some (.slice D[j].A D[j].f.q.length D[j].c) := hrow 9 (by decide) w0 (Below.refl _ _)
                have hjn : (j : Int) < n := by have := HD.out; omega
                obtain ⟨dj, hdj⟩ : ∃ dj, D[j] = dj := ⟨_, rfl⟩
                simp only [hdj] at k9 hpo
                have HPO := hide hpo
                clear hid hrow hpo hdj
                go_wp2_with fail
                refine HPO.out.mono ?_
                rintro e w1 ⟨A1, n1, c1, G1, D1, rfl, hl1, h1, hg1⟩
                have H1 := hide h1
                have HG1 := hide (hg1 _ _ h1)
                have HL1 := hide hl1
                clear h1 hg1 hl1 HPO b1 b2 b3 b4 b5 b6 b7 b8 b9 b10 k9
                have b1 : w1.cell? ⟨wr.heap.size, 1, none⟩ = some (.int .i64 fl) := H1.out.inv.cell (List.Mem.head _) 1
                have b2 : w1.cell? ⟨wr.heap.size, 2, none⟩ = some (.int .i64 vr) := H1.out.inv.cell (List.Mem.head _) 2
                have b3 : w1.cell? ⟨wr.heap.size, 3, none⟩ = some (.int .i64 nw) := H1.out.inv.cell (List.Mem.head _) 3
                have b4 : w1.cell? ⟨wr.heap.size, 4, none⟩ = some (.int .i64 pr) := H1.out.inv.cell (List.Mem.head _) 4
                have b5 : w1.cell? ⟨wr.heap.size, 5, none⟩ = some (.int .i64 pw) := H1.out.inv.cell (List.Mem.head _) 5
                have b6 : w1.cell? ⟨wr.heap.size, 6, none⟩ = some (.int .i64 pl) := H1.out.inv.cell (List.Mem.head _) 6
                have b7 : w1.cell? ⟨wr.heap.size, 7, none⟩ = some (.int .i64 pb) := H1.out.inv.cell (List.Mem.head _) 7
                have b8 : w1.cell? ⟨wr.heap.size, 8, none⟩ = some (.int .i64 xn) := H1.out.inv.cell (List.Mem.head _) 8
                have b9 : w1.cell? ⟨wr.heap.size, 9, none⟩ = some (.int .i64 xd) := H1.out.inv.cell (List.Mem.head _) 9
                have b10 : w1.cell? ⟨wr.heap.size, 10, none⟩ = some (.int .i64 xr) := H1.out.inv.cell (List.Mem.head _) 10
                go_wp2_with fail
                refine HG1.out.mono ?_
                rintro e w2 ⟨rfl, X2, h2, hk2⟩
                have H2 := hide (And.intro h2 hk2)
                clear h2 hk2 HG1
                go_wp2
                go_meet
                case rel => exact ⟨A1, n1, c1, X2, G1, D1, rfl, HL1.out, H2.out.1, H2.out.2⟩
          · as_aux_lemma =>
              have t3 : (dz == 3) = false := by simp [d3]
              clear d0 d1 d2 d3
              go_wp2
              go_meet
              case rel => exact ⟨A, n, c, X, G, D, rfl, HD.out, HS0.out, HI.out.more⟩
        case rest =>
          obtain ⟨A, n, c, X, G, D, rfl, hDn, hP, hI⟩ := hcut
          clear HS HI HD
          have hnk : n ≤ k + 1 := by rw [← hDn]; exact hI.len
          have hXn : X.length = n := by rw [← hDn]; exact hI.same.len
          have HP := hide hP
          have HI := hide hI
          have HD := hide hDn
          have HXN := hide hXn
          have hXl : X.length ≤ 900 := by omega
          have HXL := hide hXl
          clear hP hI hDn hXn hXl
          have b1 : wc.cell? ⟨wr.heap.size, 1, none⟩ = some (.int .i64 fl) := HP.out.inv.cell (List.Mem.head _) 1
          have b2 : wc.cell? ⟨wr.heap.size, 2, none⟩ = some (.int .i64 vr) := HP.out.inv.cell (List.Mem.head _) 2
          have b3 : wc.cell? ⟨wr.heap.size, 3, none⟩ = some (.int .i64 nw) := HP.out.inv.cell (List.Mem.head _) 3
          have b4 : wc.cell? ⟨wr.heap.size, 4, none⟩ = some (.int .i64 pr) := HP.out.inv.cell (List.Mem.head _) 4
          have b5 : wc.cell? ⟨wr.heap.size, 5, none⟩ = some (.int .i64 pw) := HP.out.inv.cell (List.Mem.head _) 5
          have b6 : wc.cell? ⟨wr.heap.size, 6, none⟩ = some (.int .i64 pl) := HP.out.inv.cell (List.Mem.head _) 6
          have b7 : wc.cell? ⟨wr.heap.size, 7, none⟩ = some (.int .i64 pb) := HP.out.inv.cell (List.Mem.head _) 7
          have b8 : wc.cell? ⟨wr.heap.size, 8, none⟩ = some (.int .i64 xn) := HP.out.inv.cell (List.Mem.head _) 8
          have b9 : wc.cell? ⟨wr.heap.size, 9, none⟩ = some (.int .i64 xd) := HP.out.inv.cell (List.Mem.head _) 9
          have b10 : wc.cell? ⟨wr.heap.size, 10, none⟩ = some (.int .i64 xr) := HP.out.inv.cell (List.Mem.head _) 10
          obtain ⟨F, hss, _⟩ := HP.out.sched
          have HF := hide hss
          clear hss
          go_wp2_with fail
          refine (at12_calls fl HP.out.doc HD.out (by omega)).mono ?_
          rintro e w1 ⟨⟨z, rfl, hz⟩, rfl⟩
          rcases hz with ⟨rfl, hno⟩ | ⟨j, hj, rfl, hid⟩
          · as_aux_lemma =>
              have HNX := hide (HI.out.same.none.2 hno)
              clear hno
              go_wp2_with fail
              refine (sget_none wc ps F X fl HF.out HFL.out.1 HNX.out).mono ?_
              rintro e w2 ⟨rfl, hb2⟩
              have h3 := ((HP.out.below hb2).new (b := w2.heap.size) (t := 29) (cs := #[.int .i64 0, .int .i64 0, .int .i64 0, .int .i64 0]) rfl).new (b := w2.heap.size + 1) (t := 51) (cs := #[.int .i64 0, .int .i64 0, .int .i64 0]) (by simp)
              have HB2 := hide hb2
              have H3 := hide h3
              clear hb2 h3 b1 b2 b3 b4 b5 b6 b7 b8 b9 b10
              go_upto_region 36 with fail
              obtain ⟨wd, hwd⟩ : ∃ wd, (w2.alloc (.cells #[.int .i64 0, .int .i64 0, .int .i64 0, .int .i64 0] 29)).alloc (.cells #[.int .i64 0, .int .i64 0, .int .i64 0] 51) = wd := ⟨_, rfl⟩
              rw [hwd] at H3
              rw [hwd]
              have hbd : Below wc.heap.size wc wd := by
                rw [← hwd]
                exact (HB2.out.alloc HB2.out.size _).alloc (by have := HB2.out.size; simp; omega) _
              have HBD := hide hbd
              have HFD := hide ((HF.out.below hbd).below (Below.refl _ _).drew)
              have hfl := flows_calls wd.drew ps F X HFD.out HXL.out
              rw [HXN.out] at hfl
              have HFW2 := hide hfl
              clear hwd hbd hfl
              have r1 : ∀ w', Below wd.heap.size wd w' → w'.cell? ⟨wr.heap.size, 1, none⟩ = some (.int .i64 fl) := fun w' hb => (H3.out.inv.below hb).cell (List.Mem.tail _ (List.Mem.tail _ (List.Mem.head _))) 1
              have r20 : ∀ w', Below wd.heap.size wd w' → w'.cell? ⟨w2.heap.size, 0, none⟩ = some (.int .i64 0) := fun w' hb => (H3.out.inv.below hb).cell (List.Mem.tail _ (List.Mem.head _)) 0
              have r21 : ∀ w', Below wd.heap.size wd w' → w'.cell? ⟨w2.heap.size, 1, none⟩ = some (.int .i64 0) := fun w' hb => (H3.out.inv.below hb).cell (List.Mem.tail _ (List.Mem.head _)) 1
              have r22 : ∀ w', Below wd.heap.size wd w' → w'.cell? ⟨w2.heap.size, 2, none⟩ = some (.int .i64 0) := fun w' hb => (H3.out.inv.below hb).cell (List.Mem.tail _ (List.Mem.head _)) 2
              have r23 : ∀ w', Below wd.heap.size wd w' → w'.cell? ⟨w2.heap.size, 3, none⟩ = some (.int .i64 0) := fun w' hb => (H3.out.inv.below hb).cell (List.Mem.tail _ (List.Mem.head _)) 3
              have r30 : ∀ w', Below wd.heap.size wd w' → w'.cell? ⟨w2.heap.size + 1, 0, none⟩ = some (.int .i64 0) := fun w' hb => (H3.out.inv.below hb).cell (List.Mem.head _) 0
              have r31 : ∀ w', Below wd.heap.size wd w' → w'.cell? ⟨w2.heap.size + 1, 1, none⟩ = some (.int .i64 0) := fun w' hb => (H3.out.inv.below hb).cell (List.Mem.head _) 1
              have r32 : ∀ w', Below wd.heap.size wd w' → w'.cell? ⟨w2.heap.size + 1, 2, none⟩ = some (.int .i64 0) := fun w' hb => (H3.out.inv.below hb).cell (List.Mem.head _) 2
              have hbz : Below wd.heap.size wd wd.drew := (Below.refl _ _).drew
              refine region_lq (fun w' => Below wd.heap.size wd w') [(2, 0), (2, 1), (2, 2), (2, 3), (2, 4), (2, 5), (2, 6), (2, 7), (2, 8), (2, 9), (2, 10), (2, 11), (0, 12), (2, 13), (2, 14), (0, 15), (2, 16), (2, 17), (2, 18), (2, 19), (0, 20), (2, 21), (2, 22), (2, 23), (0, 24), (2, 25), (2, 26), (2, 27), (2, 28), (0, 29), (2, 30), (2, 31), (2, 32), (2, 33), (2, 34), (0, 35), (2, 37), (2, 38), (2, 39), (2, 40), (0, 41), (2, 42), (1, 36), (2, 43), (2, 44), (2, 45), (2, 46), (2, 47), (2, 48), (2, 49), (2, 50), (2, 51), (2, 52), (0, 53), (1, 54), (2, 55), (2, 56), (2, 57), (2, 58), (2, 59), (2, 62), (2, 63), (1, 60), (2, 61), (2, 64), (2, 65)] #[true, true, true, true, true, true, true, true, true, true, true, true, true, true, true, true, true, true, true, true, true, true, true, true, true, true, true, true, true, true, true, true, true, true, true, true, true, true, true, true, true, true, true, true, true, true, true, true, true, true, true, true, true, true, true, true, true, true, true, true, true, true, true, true, true, true] (by kernel_rfl) (by kernel_rfl) (by kernel_rfl) (by kernel_rfl) (by kernel_rfl) (by kernel_rfl) (fun _ _ _ _ _ h => h) (by (exact hbz)) (hL := rfl) ?_
              (apply lq_pure (by rfl); (focus (intro w; go_simp; (try with_reducible rfl); done)); intro K hK; simp only [Act.put, List.setIfInBounds_toArray, List.set_cons_zero, List.set_cons_succ]; refine hK _ ?_; clear hK K)
              (apply lq_pure (by rfl); (focus (intro w; go_simp; (try with_reducible rfl); done)); intro K hK; simp only [Act.put, List.setIfInBounds_toArray, List.set_cons_zero, List.set_cons_succ]; refine hK _ ?_; clear hK K)
              (apply lq_pure (by rfl); (focus (intro w; go_simp; (try with_reducible rfl); done)); intro K hK; simp only [Act.put, List.setIfInBounds_toArray, List.set_cons_zero, List.set_cons_succ]; refine hK _ ?_; clear hK K)
              (apply lq_pure (by rfl); (focus (intro w; go_simp; (try with_reducible rfl); done)); intro K hK; simp only [Act.put, List.setIfInBounds_toArray, List.set_cons_zero, List.set_cons_succ]; refine hK _ ?_; clear hK K)
              (apply lq_pure (by rfl); (focus (intro w; go_simp; (try with_reducible rfl); done)); intro K hK; simp only [Act.put, List.setIfInBounds_toArray, List.set_cons_zero, List.set_cons_succ]; refine hK _ ?_; clear hK K)
              (apply lq_pure (by kernel_rfl); (focus (intro w; go_simp; (try with_reducible rfl); done)); intro K hK; simp only [Act.put, List.setIfInBounds_toArray, List.set_cons_zero, List.set_cons_succ]; refine hK _ ?_; clear hK K)
              (apply lq_pure (by kernel_rfl); (focus (intro w; go_simp; (try with_reducible rfl); done)); intro K hK; simp only [Act.put, List.setIfInBounds_toArray, List.set_cons_zero, List.set_cons_succ]; refine hK _ ?_; clear hK K)
              (refine lq_skipP (by kernel_rfl) ?_; intro K hK; simp only [Act.put, List.setIfInBounds_toArray, List.set_cons_zero, List.set_cons_succ]; refine hK _ ?_; clear hK K)
              (refine lq_skipP (by kernel_rfl) ?_; intro K hK; simp only [Act.put, List.setIfInBounds_toArray, List.set_cons_zero, List.set_cons_succ]; refine hK _ ?_; clear hK K)
              (refine lq_skipP (by kernel_rfl) ?_; intro K hK; simp only [Act.put, List.setIfInBounds_toArray, List.set_cons_zero, List.set_cons_succ]; refine hK _ ?_; clear hK K)
              (refine lq_skipP (by kernel_rfl) ?_; intro K hK; simp only [Act.put, List.setIfInBounds_toArray, List.set_cons_zero, List.set_cons_succ]; refine hK _ ?_; clear hK K)
              (refine lq_skipP (by kernel_rfl) ?_; intro K hK; simp only [Act.put, List.setIfInBounds_toArray, List.set_cons_zero, List.set_cons_succ]; refine hK _ ?_; clear hK K)
              (refine lq_skip (by kernel_rfl) ?_; intro K hK; simp only [Act.put, List.setIfInBounds_toArray, List.set_cons_zero, List.set_cons_succ]; refine hK _ ?_; clear hK K)
              (refine lq_skipP (by kernel_rfl) ?_; intro K hK; simp only [Act.put, List.setIfInBounds_toArray, List.set_cons_zero, List.set_cons_succ]; refine hK _ ?_; clear hK K)
              (refine lq_skipP (by kernel_rfl) ?_; intro K hK; simp only [Act.put, List.setIfInBounds_toArray, List.set_cons_zero, List.set_cons_succ]; refine hK _ ?_; clear hK K)
              (refine lq_skip (by kernel_rfl) ?_; intro K hK; simp only [Act.put, List.setIfInBounds_toArray, List.set_cons_zero, List.set_cons_succ]; refine hK _ ?_; clear hK K)
              (refine lq_skipP (by kernel_rfl) ?_; intro K hK; simp only [Act.put, List.setIfInBounds_toArray, List.set_cons_zero, List.set_cons_succ]; refine hK _ ?_; clear hK K)
              (refine lq_skipP (by kernel_rfl) ?_; intro K hK; simp only [Act.put, List.setIfInBounds_toArray, List.set_cons_zero, List.set_cons_succ]; refine hK _ ?_; clear hK K)
              (refine lq_skipP (by kernel_rfl) ?_; intro K hK; simp only [Act.put, List.setIfInBounds_toArray, List.set_cons_zero, List.set_cons_succ]; refine hK _ ?_; clear hK K)
              (refine lq_skipP (by kernel_rfl) ?_; intro K hK; simp only [Act.put, List.setIfInBounds_toArray, List.set_cons_zero, List.set_cons_succ]; refine hK _ ?_; clear hK K)
              (refine lq_skip (by kernel_rfl) ?_; intro K hK; simp only [Act.put, List.setIfInBounds_toArray, List.set_cons_zero, List.set_cons_succ]; refine hK _ ?_; clear hK K)
              (refine lq_skipP (by kernel_rfl) ?_; intro K hK; simp only [Act.put, List.setIfInBounds_toArray, List.set_cons_zero, List.set_cons_succ]; refine hK _ ?_; clear hK K)
              (refine lq_skipP (by kernel_rfl) ?_; intro K hK; simp only [Act.put, List.setIfInBounds_toArray, List.set_cons_zero, List.set_cons_succ]; refine hK _ ?_; clear hK K)
              (refine lq_skipP (by kernel_rfl) ?_; intro K hK; simp only [Act.put, List.setIfInBounds_toArray, List.set_cons_zero, List.set_cons_succ]; refine hK _ ?_; clear hK K)
              (refine lq_skip (by kernel_rfl) ?_; intro K hK; simp only [Act.put, List.setIfInBounds_toArray, List.set_cons_zero, List.set_cons_succ]; refine hK _ ?_; clear hK K)
              (refine lq_skipP (by kernel_rfl) ?_; intro K hK; simp only [Act.put, List.setIfInBounds_toArray, List.set_cons_zero, List.set_cons_succ]; refine hK _ ?_; clear hK K)
              (refine lq_skipP (by kernel_rfl) ?_; intro K hK; simp only [Act.put, List.setIfInBounds_toArray, List.set_cons_zero, List.set_cons_succ]; refine hK _ ?_; clear hK K)
              (refine lq_skipP (by kernel_rfl) ?_; intro K hK; simp only [Act.put, List.setIfInBounds_toArray, List.set_cons_zero, List.set_cons_succ]; refine hK _ ?_; clear hK K)
              (refine lq_skipP (by kernel_rfl) ?_; intro K hK; simp only [Act.put, List.setIfInBounds_toArray, List.set_cons_zero, List.set_cons_succ]; refine hK _ ?_; clear hK K)
              (refine lq_skip (by kernel_rfl) ?_; intro K hK; simp only [Act.put, List.setIfInBounds_toArray, List.set_cons_zero, List.set_cons_succ]; refine hK _ ?_; clear hK K)
              (refine lq_skipP (by kernel_rfl) ?_; intro K hK; simp only [Act.put, List.setIfInBounds_toArray, List.set_cons_zero, List.set_cons_succ]; refine hK _ ?_; clear hK K)
              (refine lq_skipP (by kernel_rfl) ?_; intro K hK; simp only [Act.put, List.setIfInBounds_toArray, List.set_cons_zero, List.set_cons_succ]; refine hK _ ?_; clear hK K)
              (refine lq_skipP (by kernel_rfl) ?_; intro K hK; simp only [Act.put, List.setIfInBounds_toArray, List.set_cons_zero, List.set_cons_succ]; refine hK _ ?_; clear hK K)
              (refine lq_skipP (by kernel_rfl) ?_; intro K hK; simp only [Act.put, List.setIfInBounds_toArray, List.set_cons_zero, List.set_cons_succ]; refine hK _ ?_; clear hK K)
              (refine lq_skipP (by kernel_rfl) ?_; intro K hK; simp only [Act.put, List.setIfInBounds_toArray, List.set_cons_zero, List.set_cons_succ]; refine hK _ ?_; clear hK K)
              (refine lq_skip (by kernel_rfl) ?_; intro K hK; simp only [Act.put, List.setIfInBounds_toArray, List.set_cons_zero, List.set_cons_succ]; refine hK _ ?_; clear hK K)
              (refine lq_skipP (by kernel_rfl) ?_; intro K hK; simp only [Act.put, List.setIfInBounds_toArray, List.set_cons_zero, List.set_cons_succ]; refine hK _ ?_; clear hK K)
              (refine lq_skipP (by kernel_rfl) ?_; intro K hK; simp only [Act.put, List.setIfInBounds_toArray, List.set_cons_zero, List.set_cons_succ]; refine hK _ ?_; clear hK K)
              (refine lq_skipP (by kernel_rfl) ?_; intro K hK; simp only [Act.put, List.setIfInBounds_toArray, List.set_cons_zero, List.set_cons_succ]; refine hK _ ?_; clear hK K)
              (refine lq_skipP (by kernel_rfl) ?_; intro K hK; simp only [Act.put, List.setIfInBounds_toArray, List.set_cons_zero, List.set_cons_succ]; refine hK _ ?_; clear hK K)
              (refine lq_skip (by kernel_rfl) ?_; intro K hK; simp only [Act.put, List.setIfInBounds_toArray, List.set_cons_zero, List.set_cons_succ]; refine hK _ ?_; clear hK K)
              (refine lq_skipP (by kernel_rfl) ?_; intro K hK; simp only [Act.put, List.setIfInBounds_toArray, List.set_cons_zero, List.set_cons_succ]; refine hK _ ?_; clear hK K)
              (refine lq_effskip (by kernel_rfl) (by (exact hbz)) ?_; intro K hK; simp only [Act.put, List.setIfInBounds_toArray, List.set_cons_zero, List.set_cons_succ]; refine hK _ ?_; clear hK K)
              (refine lq_skipP (by kernel_rfl) ?_; intro K hK; simp only [Act.put, List.setIfInBounds_toArray, List.set_cons_zero, List.set_cons_succ]; refine hK _ ?_; clear hK K)
              (refine lq_skipP (by kernel_rfl) ?_; intro K hK; simp only [Act.put, List.setIfInBounds_toArray, List.set_cons_zero, List.set_cons_succ]; refine hK _ ?_; clear hK K)
              (apply lq_pure (by kernel_rfl); (focus (intro w; go_simp; (try with_reducible rfl); done)); intro K hK; simp only [Act.put, List.setIfInBounds_toArray, List.set_cons_zero, List.set_cons_succ]; refine hK _ ?_; clear hK K)
              (apply lq_pure (by rfl); (focus (intro w; go_simp; (try with_reducible rfl); done)); intro K hK; simp only [Act.put, List.setIfInBounds_toArray, List.set_cons_zero, List.set_cons_succ]; refine hK _ ?_; clear hK K)
              (apply lq_pure (by rfl); (focus (intro w; go_simp; (try with_reducible rfl); done)); intro K hK; simp only [Act.put, List.setIfInBounds_toArray, List.set_cons_zero, List.set_cons_succ]; refine hK _ ?_; clear hK K)
              (apply lq_pure (by kernel_rfl); (focus (intro w; go_simp; (try with_reducible rfl); done)); intro K hK; simp only [Act.put, List.setIfInBounds_toArray, List.set_cons_zero, List.set_cons_succ]; refine hK _ ?_; clear hK K)
              (apply lq_pure (by kernel_rfl); (focus (intro w; go_simp; (try with_reducible rfl); done)); intro K hK; simp only [Act.put, List.setIfInBounds_toArray, List.set_cons_zero, List.set_cons_succ]; refine hK _ ?_; clear hK K)
              (apply lq_pure (by kernel_rfl); (focus (intro w; go_simp; (try with_reducible rfl); done)); intro K hK; simp only [Act.put, List.setIfInBounds_toArray, List.set_cons_zero, List.set_cons_succ]; refine hK _ ?_; clear hK K)
              (apply lq_pure (by kernel_rfl); (focus (intro w; go_simp; (try with_reducible rfl); done)); intro K hK; simp only [Act.put, List.setIfInBounds_toArray, List.set_cons_zero, List.set_cons_succ]; refine hK _ ?_; clear hK K)
              (apply lq_pure (by kernel_rfl); (focus (intro w; go_simp; (try with_reducible rfl); done)); intro K hK; simp only [Act.put, List.setIfInBounds_toArray, List.set_cons_zero, List.set_cons_succ]; refine hK _ ?_; clear hK K)
              (apply lq_take (by kernel_rfl); (focus (intro w hw; (try dsimp only at hw); go_simp; (try with_reducible rfl); done)); intro K hK; simp only [Act.put, List.setIfInBounds_toArray, List.set_cons_zero, List.set_cons_succ]; refine hK _ ?_; clear hK K)
              refine lq_eff (by kernel_rfl) ?_
              intro K Q1 hQ1 hK; clear hQ1; go_simp; (go_at_call 30; refine (slen_none wd.drew ps F X fl HFD.out HFL.out.1 HNX.out).mono ?_; rintro e w9 ⟨rfl, rfl⟩; have hS9 := hbz); simp only [Act.put, List.setIfInBounds_toArray, List.set_cons_zero, List.set_cons_succ]; refine hK _ _ hS9 ?_; clear hK K Q1 hS9
              (apply lq_pure (by kernel_rfl); (focus (intro w; go_simp; (try with_reducible rfl); done)); intro K hK; simp only [Act.put, List.setIfInBounds_toArray, List.set_cons_zero, List.set_cons_succ]; refine hK _ ?_; clear hK K)
              (apply lq_pure (by kernel_rfl); (focus (intro w; go_simp; (try with_reducible rfl); done)); intro K hK; simp only [Act.put, List.setIfInBounds_toArray, List.set_cons_zero, List.set_cons_succ]; refine hK _ ?_; clear hK K)
              (apply lq_pure (by rfl); (focus (intro w; go_simp; (try with_reducible rfl); done)); intro K hK; simp only [Act.put, List.setIfInBounds_toArray, List.set_cons_zero, List.set_cons_succ]; refine hK _ ?_; clear hK K)
              (apply lq_pure (by rfl); (focus (intro w; go_simp; (try with_reducible rfl); done)); intro K hK; simp only [Act.put, List.setIfInBounds_toArray, List.set_cons_zero, List.set_cons_succ]; refine hK _ ?_; clear hK K)
              (apply lq_pure (by kernel_rfl); (focus (intro w; go_simp; (try with_reducible rfl); done)); intro K hK; simp only [Act.put, List.setIfInBounds_toArray, List.set_cons_zero, List.set_cons_succ]; refine hK _ ?_; clear hK K)
              (apply lq_pure (by kernel_rfl); (focus (intro w; go_simp; (try with_reducible rfl); done)); intro K hK; simp only [Act.put, List.setIfInBounds_toArray, List.set_cons_zero, List.set_cons_succ]; refine hK _ ?_; clear hK K)
              (apply lq_pure (by kernel_rfl); (focus (intro w; go_simp; (try with_reducible rfl); done)); intro K hK; simp only [Act.put, List.setIfInBounds_toArray, List.set_cons_zero, List.set_cons_succ]; refine hK _ ?_; clear hK K)
              refine lq_eff (by kernel_rfl) ?_
              intro K Q1 hQ1 hK; clear hQ1; go_simp; (go_at_call 31; refine HFW2.out.mono ?_; rintro e w9 ⟨⟨A9, c9, rfl⟩, hb9⟩; have hS9 : Below wd.heap.size wd w9 := hbz.trans hb9); simp only [Act.put, List.setIfInBounds_toArray, List.set_cons_zero, List.set_cons_succ]; refine hK _ _ hS9 ?_; clear hK K Q1 hS9
              (apply lq_pure (by kernel_rfl); (focus (intro w; go_simp; (try with_reducible rfl); done)); intro K hK; simp only [Act.put, List.setIfInBounds_toArray, List.set_cons_zero, List.set_cons_succ]; refine hK _ ?_; clear hK K)
              (apply lq_pure (by kernel_rfl); (focus (intro w; go_simp; (try with_reducible rfl); done)); intro K hK; simp only [Act.put, List.setIfInBounds_toArray, List.set_cons_zero, List.set_cons_succ]; refine hK _ ?_; clear hK K)
              (apply lq_pure (by rfl); (focus (intro w; go_simp; (try with_reducible rfl); done)); intro K hK; simp only [Act.put, List.setIfInBounds_toArray, List.set_cons_zero, List.set_cons_succ]; refine hK _ ?_; clear hK K)
              refine lq_nil ?_
              intro hS9
              go_wp2
              go_roundw
              case rel => exact ⟨k + 1, n, c, A, X, G, D, by omega, by go_num, rfl, HD.out, (H3.out.below hS9).sub (by simp), HI.out⟩
              case measure => simp [intOf]; omega
          · as_aux_lemma =>
              obtain ⟨i, hi, e1⟩ := HI.out.same.toX hj
              obtain ⟨bd, od, rfl, hrow⟩ := HP.out.doc.rows hj
              obtain ⟨d, hd⟩ : ∃ d, D[j] = d := ⟨_, rfl⟩
              rw [hd] at e1 hid
              simp only [hd] at hrow
              have hjn : (j : Int) < n := by have := HD.out; omega
              have HROW := hide hrow
              have HXI := hide (show ∃ h : i < X.length, X[i] = d.f from ⟨hi, e1⟩)
              have HGET := hide (sget_yes wc ps F X i d.f fl HF.out hi e1 hid)
              have HID := hide hid
              clear hrow e1 hi hid hd hj
              go_wp2_with fail
              refine HGET.out.mono ?_
              rintro e w2 ⟨rfl, hb2⟩
              have h3 := ((HP.out.below hb2).new (b := w2.heap.size) (t := 29) (cs := #[.int .i64 d.f.p.r, .int .i64 d.f.p.w, .int .i64 d.f.p.l, .int .i64 d.f.p.b]) rfl).new (b := w2.heap.size + 1) (t := 51) (cs := #[.int .i64 d.f.c.r, .int .i64 d.f.c.p, .int .i64 d.f.c.l]) (by simp)
              have HB2 := hide hb2
              have H3 := hide h3
              clear hb2 h3 b1 b2 b3 b4 b5 b6 b7 b8 b9 b10
              go_upto_region 36 with fail
              obtain ⟨wd, hwd⟩ : ∃ wd, (w2.alloc (.cells #[.int .i64 d.f.p.r, .int .i64 d.f.p.w, .int .i64 d.f.p.l, .int .i64 d.f.p.b] 29)).alloc (.cells #[.int .i64 d.f.c.r, .int .i64 d.f.c.p, .int .i64 d.f.c.l] 51) = wd := ⟨_, rfl⟩
              rw [hwd] at H3
              rw [hwd]
              have hbd : Below wc.heap.size wc wd := by
                rw [← hwd]
                exact (HB2.out.alloc HB2.out.size _).alloc (by have := HB2.out.size; simp; omega) _
              have HBD := hide hbd
              have HFD := hide ((HF.out.below hbd).below (Below.refl _ _).drew)
              have hfl := flows_calls wd.drew ps F X HFD.out HXL.out
              rw [HXN.out] at hfl
              have HFW2 := hide hfl
              clear hwd hbd hfl
              have r1 : ∀ w', Below wd.heap.size wd w' → w'.cell? ⟨wr.heap.size, 1, none⟩ = some (.int .i64 fl) := fun w' hb => (H3.out.inv.below hb).cell (List.Mem.tail _ (List.Mem.tail _ (List.Mem.head _))) 1
              have r20 : ∀ w', Below wd.heap.size wd w' → w'.cell? ⟨w2.heap.size, 0, none⟩ = some (.int .i64 d.f.p.r) := fun w' hb => (H3.out.inv.below hb).cell (List.Mem.tail _ (List.Mem.head _)) 0
              have r21 : ∀ w', Below wd.heap.size wd w' → w'.cell? ⟨w2.heap.size, 1, none⟩ = some (.int .i64 d.f.p.w) := fun w' hb => (H3.out.inv.below hb).cell (List.Mem.tail _ (List.Mem.head _)) 1
              have r22 : ∀ w', Below wd.heap.size wd w' → w'.cell? ⟨w2.heap.size, 2, none⟩ = some (.int .i64 d.f.p.l) := fun w' hb => (H3.out.inv.below hb).cell (List.Mem.tail _ (List.Mem.head _)) 2
              have r23 : ∀ w', Below wd.heap.size wd w' → w'.cell? ⟨w2.heap.size, 3, none⟩ = some (.int .i64 d.f.p.b) := fun w' hb => (H3.out.inv.below hb).cell (List.Mem.tail _ (List.Mem.head _)) 3
              have r30 : ∀ w', Below wd.heap.size wd w' → w'.cell? ⟨w2.heap.size + 1, 0, none⟩ = some (.int .i64 d.f.c.r) := fun w' hb => (H3.out.inv.below hb).cell (List.Mem.head _) 0
              have r31 : ∀ w', Below wd.heap.size wd w' → w'.cell? ⟨w2.heap.size + 1, 1, none⟩ = some (.int .i64 d.f.c.p) := fun w' hb => (H3.out.inv.below hb).cell (List.Mem.head _) 1
              have r32 : ∀ w', Below wd.heap.size wd w' → w'.cell? ⟨w2.heap.size + 1, 2, none⟩ = some (.int .i64 d.f.c.l) := fun w' hb => (H3.out.inv.below hb).cell (List.Mem.head _) 2
              have k1 : ∀ w', Below wd.heap.size wd w' → w'.cell? ⟨bd, od + j * 10 + 1, none⟩ = some (.int .i64 d.f.ver) := fun w' hb => HROW.out 1 (by decide) w' (HBD.out.trans (hb.mono HBD.out.size))
              have k2 : ∀ w', Below wd.heap.size wd w' → w'.cell? ⟨bd, od + j * 10 + 2, none⟩ = some (.int .i64 d.f.p.r) := fun w' hb => HROW.out 2 (by decide) w' (HBD.out.trans (hb.mono HBD.out.size))
              have k3 : ∀ w', Below wd.heap.size wd w' → w'.cell? ⟨bd, od + j * 10 + 3, none⟩ = some (.int .i64 d.f.p.w) := fun w' hb => HROW.out 3 (by decide) w' (HBD.out.trans (hb.mono HBD.out.size))
              have k4 : ∀ w', Below wd.heap.size wd w' → w'.cell? ⟨bd, od + j * 10 + 4, none⟩ = some (.int .i64 d.f.p.l) := fun w' hb => HROW.out 4 (by decide) w' (HBD.out.trans (hb.mono HBD.out.size))
              have k5 : ∀ w', Below wd.heap.size wd w' → w'.cell? ⟨bd, od + j * 10 + 5, none⟩ = some (.int .i64 d.f.p.b) := fun w' hb => HROW.out 5 (by decide) w' (HBD.out.trans (hb.mono HBD.out.size))
              have k6 : ∀ w', Below wd.heap.size wd w' → w'.cell? ⟨bd, od + j * 10 + 6, none⟩ = some (.int .i64 d.f.c.r) := fun w' hb => HROW.out 6 (by decide) w' (HBD.out.trans (hb.mono HBD.out.size))
              have k7 : ∀ w', Below wd.heap.size wd w' → w'.cell? ⟨bd, od + j * 10 + 7, none⟩ = some (.int .i64 d.f.c.p) := fun w' hb => HROW.out 7 (by decide) w' (HBD.out.trans (hb.mono HBD.out.size))
              have k8 : ∀ w', Below wd.heap.size wd w' → w'.cell? ⟨bd, od + j * 10 + 8, none⟩ = some (.int .i64 d.f.c.l) := fun w' hb => HROW.out 8 (by decide) w' (HBD.out.trans (hb.mono HBD.out.size))
              have k9 : ∀ w', Below wd.heap.size wd w' → w'.cell? ⟨bd, od + j * 10 + 9, none⟩ = some (.slice d.A d.f.q.length d.c) := fun w' hb => HROW.out 9 (by decide) w' (HBD.out.trans (hb.mono HBD.out.size))
              have hbz : Below wd.heap.size wd wd.drew := (Below.refl _ _).drew
              refine region_lq (fun w' => Below wd.heap.size wd w') [(2, 0), (2, 1), (2, 2), (2, 3), (2, 4), (2, 5), (2, 6), (2, 7), (2, 8), (2, 9), (2, 10), (2, 11), (0, 12), (2, 13), (2, 14), (0, 15), (2, 16), (2, 17), (2, 18), (2, 19), (0, 20), (2, 21), (2, 22), (2, 23), (0, 24), (2, 25), (2, 26), (2, 27), (2, 28), (0, 29), (2, 30), (2, 31), (2, 32), (2, 33), (2, 34), (0, 35), (2, 37), (2, 38), (2, 39), (2, 40), (0, 41), (2, 42), (1, 36), (2, 43), (2, 44), (2, 45), (2, 46), (2, 47), (2, 48), (2, 49), (2, 50), (2, 51), (2, 52), (0, 53), (1, 54), (2, 55), (2, 56), (2, 57), (2, 58), (2, 59), (2, 62), (2, 63), (1, 60), (2, 61), (2, 64), (2, 65)] #[true, true, true, true, true, true, true, true, true, true, true, true, true, true, true, true, true, true, true, true, true, true, true, true, true, true, true, true, true, true, true, true, true, true, true, true, true, true, true, true, true, true, true, true, true, true, true, true, true, true, true, true, true, true, true, true, true, true, true, true, true, true, true, true, true, true] (by kernel_rfl) (by kernel_rfl) (by kernel_rfl) (by kernel_rfl) (by kernel_rfl) (by kernel_rfl) (fun _ _ _ _ _ h => h) (by (exact hbz)) (hL := rfl) ?_
              (apply lq_pure (by rfl); (focus (intro w; go_simp; (try with_reducible rfl); done)); intro K hK; simp only [Act.put, List.setIfInBounds_toArray, List.set_cons_zero, List.set_cons_succ]; refine hK _ ?_; clear hK K)
              (apply lq_pure (by rfl); (focus (intro w; go_simp; (try with_reducible rfl); done)); intro K hK; simp only [Act.put, List.setIfInBounds_toArray, List.set_cons_zero, List.set_cons_succ]; refine hK _ ?_; clear hK K)
              (apply lq_pure (by rfl); (focus (intro w; go_simp; (try with_reducible rfl); done)); intro K hK; simp only [Act.put, List.setIfInBounds_toArray, List.set_cons_zero, List.set_cons_succ]; refine hK _ ?_; clear hK K)
              (apply lq_pure (by rfl); (focus (intro w; go_simp; (try with_reducible rfl); done)); intro K hK; simp only [Act.put, List.setIfInBounds_toArray, List.set_cons_zero, List.set_cons_succ]; refine hK _ ?_; clear hK K)
              (apply lq_pure (by rfl); (focus (intro w; go_simp; (try with_reducible rfl); done)); intro K hK; simp only [Act.put, List.setIfInBounds_toArray, List.set_cons_zero, List.set_cons_succ]; refine hK _ ?_; clear hK K)
              (apply lq_pure (by kernel_rfl); (focus (intro w; go_simp; (try with_reducible rfl); done)); intro K hK; simp only [Act.put, List.setIfInBounds_toArray, List.set_cons_zero, List.set_cons_succ]; refine hK _ ?_; clear hK K)
              (apply lq_pure (by kernel_rfl); (focus (intro w; go_simp; (try with_reducible rfl); done)); intro K hK; simp only [Act.put, List.setIfInBounds_toArray, List.set_cons_zero, List.set_cons_succ]; refine hK _ ?_; clear hK K)
              (apply lq_pure (by kernel_rfl); (focus (intro w; go_simp; (try with_reducible rfl); done)); intro K hK; simp only [Act.put, List.setIfInBounds_toArray, List.set_cons_zero, List.set_cons_succ]; refine hK _ ?_; clear hK K)
              (apply lq_pure (by kernel_rfl); (focus (intro w; go_simp; (try with_reducible rfl); done)); intro K hK; simp only [Act.put, List.setIfInBounds_toArray, List.set_cons_zero, List.set_cons_succ]; refine hK _ ?_; clear hK K)
              (apply lq_pure (by kernel_rfl); (focus (intro w; go_simp; (try with_reducible rfl); done)); intro K hK; simp only [Act.put, List.setIfInBounds_toArray, List.set_cons_zero, List.set_cons_succ]; refine hK _ ?_; clear hK K)
              (apply lq_pure (by kernel_rfl); (focus (intro w; go_simp; (try with_reducible rfl); done)); intro K hK; simp only [Act.put, List.setIfInBounds_toArray, List.set_cons_zero, List.set_cons_succ]; refine hK _ ?_; clear hK K)
              (apply lq_pure (by kernel_rfl); (focus (intro w; go_simp; (try with_reducible rfl); done)); intro K hK; simp only [Act.put, List.setIfInBounds_toArray, List.set_cons_zero, List.set_cons_succ]; refine hK _ ?_; clear hK K)
              (apply lq_take (by kernel_rfl); (focus (intro w hw; (try dsimp only at hw); go_simp; (try with_reducible rfl); done)); intro K hK; simp only [Act.put, List.setIfInBounds_toArray, List.set_cons_zero, List.set_cons_succ]; refine hK _ ?_; clear hK K)
              (apply lq_pure (by kernel_rfl); (focus (intro w; go_simp; (try with_reducible rfl); done)); intro K hK; simp only [Act.put, List.setIfInBounds_toArray, List.set_cons_zero, List.set_cons_succ]; refine hK _ ?_; clear hK K)
              (apply lq_pure (by kernel_rfl); (focus (intro w; go_simp; (try with_reducible rfl); done)); intro K hK; simp only [Act.put, List.setIfInBounds_toArray, List.set_cons_zero, List.set_cons_succ]; refine hK _ ?_; clear hK K)
              (apply lq_take (by kernel_rfl); (focus (intro w hw; (try dsimp only at hw); go_simp; (try with_reducible rfl); done)); intro K hK; simp only [Act.put, List.setIfInBounds_toArray, List.set_cons_zero, List.set_cons_succ]; refine hK _ ?_; clear hK K)
              (apply lq_pure (by kernel_rfl); (focus (intro w; go_simp; (try with_reducible rfl); done)); intro K hK; simp only [Act.put, List.setIfInBounds_toArray, List.set_cons_zero, List.set_cons_succ]; refine hK _ ?_; clear hK K)
              (apply lq_pure (by kernel_rfl); (focus (intro w; go_simp; (try with_reducible rfl); done)); intro K hK; simp only [Act.put, List.setIfInBounds_toArray, List.set_cons_zero, List.set_cons_succ]; refine hK _ ?_; clear hK K)
              (apply lq_pure (by kernel_rfl); (focus (intro w; go_simp; (try with_reducible rfl); done)); intro K hK; simp only [Act.put, List.setIfInBounds_toArray, List.set_cons_zero, List.set_cons_succ]; refine hK _ ?_; clear hK K)
              (apply lq_pure (by kernel_rfl); (focus (intro w; go_simp; (try with_reducible rfl); done)); intro K hK; simp only [Act.put, List.setIfInBounds_toArray, List.set_cons_zero, List.set_cons_succ]; refine hK _ ?_; clear hK K)
              (apply lq_take (by kernel_rfl); (focus (intro w hw; (try dsimp only at hw); go_simp; (try with_reducible rfl); done)); intro K hK; simp only [Act.put, List.setIfInBounds_toArray, List.set_cons_zero, List.set_cons_succ]; refine hK _ ?_; clear hK K)
              (apply lq_pure (by kernel_rfl); (focus (intro w; go_simp; (try with_reducible rfl); done)); intro K hK; simp only [Act.put, List.setIfInBounds_toArray, List.set_cons_zero, List.set_cons_succ]; refine hK _ ?_; clear hK K)
              (apply lq_pure (by kernel_rfl); (focus (intro w; go_simp; (try with_reducible rfl); done)); intro K hK; simp only [Act.put, List.setIfInBounds_toArray, List.set_cons_zero, List.set_cons_succ]; refine hK _ ?_; clear hK K)
              (apply lq_pure (by kernel_rfl); (focus (intro w; go_simp; (try with_reducible rfl); done)); intro K hK; simp only [Act.put, List.setIfInBounds_toArray, List.set_cons_zero, List.set_cons_succ]; refine hK _ ?_; clear hK K)
              (apply lq_take (by kernel_rfl); (focus (intro w hw; (try dsimp only at hw); go_simp; (try with_reducible rfl); done)); intro K hK; simp only [Act.put, List.setIfInBounds_toArray, List.set_cons_zero, List.set_cons_succ]; refine hK _ ?_; clear hK K)
              (apply lq_pure (by kernel_rfl); (focus (intro w; go_simp; (try with_reducible rfl); done)); intro K hK; simp only [Act.put, List.setIfInBounds_toArray, List.set_cons_zero, List.set_cons_succ]; refine hK _ ?_; clear hK K)
              (apply lq_pure (by kernel_rfl); (focus (intro w; go_simp; (try with_reducible rfl); done)); intro K hK; simp only [Act.put, List.setIfInBounds_toArray, List.set_cons_zero, List.set_cons_succ]; refine hK _ ?_; clear hK K)
              (apply lq_pure (by kernel_rfl); (focus (intro w; go_simp; (try with_reducible rfl); done)); intro K hK; simp only [Act.put, List.setIfInBounds_toArray, List.set_cons_zero, List.set_cons_succ]; refine hK _ ?_; clear hK K)
              (apply lq_pure (by kernel_rfl); (focus (intro w; go_simp; (try with_reducible rfl); done)); intro K hK; simp only [Act.put, List.setIfInBounds_toArray, List.set_cons_zero, List.set_cons_succ]; refine hK _ ?_; clear hK K)
              (apply lq_take (by kernel_rfl); (focus (intro w hw; (try dsimp only at hw); go_simp; (try with_reducible rfl); done)); intro K hK; simp only [Act.put, List.setIfInBounds_toArray, List.set_cons_zero, List.set_cons_succ]; refine hK _ ?_; clear hK K)
              (apply lq_pure (by kernel_rfl); (focus (intro w; go_simp; (try with_reducible rfl); done)); intro K hK; simp only [Act.put, List.setIfInBounds_toArray, List.set_cons_zero, List.set_cons_succ]; refine hK _ ?_; clear hK K)
              (apply lq_pure (by kernel_rfl); (focus (intro w; go_simp; (try with_reducible rfl); done)); intro K hK; simp only [Act.put, List.setIfInBounds_toArray, List.set_cons_zero, List.set_cons_succ]; refine hK _ ?_; clear hK K)
              (apply lq_pure (by kernel_rfl); (focus (intro w; go_simp; (try with_reducible rfl); done)); intro K hK; simp only [Act.put, List.setIfInBounds_toArray, List.set_cons_zero, List.set_cons_succ]; refine hK _ ?_; clear hK K)
              (apply lq_pure (by kernel_rfl); (focus (intro w; go_simp; (try with_reducible rfl); done)); intro K hK; simp only [Act.put, List.setIfInBounds_toArray, List.set_cons_zero, List.set_cons_succ]; refine hK _ ?_; clear hK K)
              (apply lq_pure (by kernel_rfl); (focus (intro w; go_simp; (try with_reducible rfl); done)); intro K hK; simp only [Act.put, List.setIfInBounds_toArray, List.set_cons_zero, List.set_cons_succ]; refine hK _ ?_; clear hK K)
              (apply lq_take (by kernel_rfl); (focus (intro w hw; (try dsimp only at hw); go_simp; (try with_reducible rfl); done)); intro K hK; simp only [Act.put, List.setIfInBounds_toArray, List.set_cons_zero, List.set_cons_succ]; refine hK _ ?_; clear hK K)
              (apply lq_pure (by kernel_rfl); (focus (intro w; go_simp; (try with_reducible rfl); done)); intro K hK; simp only [Act.put, List.setIfInBounds_toArray, List.set_cons_zero, List.set_cons_succ]; refine hK _ ?_; clear hK K)
              (apply lq_pure (by kernel_rfl); (focus (intro w; go_simp; (try with_reducible rfl); done)); intro K hK; simp only [Act.put, List.setIfInBounds_toArray, List.set_cons_zero, List.set_cons_succ]; refine hK _ ?_; clear hK K)
              (apply lq_pure (by kernel_rfl); (focus (intro w; go_simp; (try with_reducible rfl); done)); intro K hK; simp only [Act.put, List.setIfInBounds_toArray, List.set_cons_zero, List.set_cons_succ]; refine hK _ ?_; clear hK K)
              (apply lq_pure (by kernel_rfl); (focus (intro w; go_simp; (try with_reducible rfl); done)); intro K hK; simp only [Act.put, List.setIfInBounds_toArray, List.set_cons_zero, List.set_cons_succ]; refine hK _ ?_; clear hK K)
              (apply lq_take (by kernel_rfl); (focus (intro w hw; (try dsimp only at hw); go_simp; (try with_reducible rfl); done)); intro K hK; simp only [Act.put, List.setIfInBounds_toArray, List.set_cons_zero, List.set_cons_succ]; refine hK _ ?_; clear hK K)
              (apply lq_pure (by kernel_rfl); (focus (intro w; go_simp; (try with_reducible rfl); done)); intro K hK; simp only [Act.put, List.setIfInBounds_toArray, List.set_cons_zero, List.set_cons_succ]; refine hK _ ?_; clear hK K)
              refine lq_eff (by kernel_rfl) ?_
              intro K Q1 hQ1 hK; clear hQ1; go_simp; (go_at_call 30; refine (slen_yes wd.drew ps F X i d.f fl HFD.out HXI.out.choose HXI.out.choose_spec HID.out).mono ?_; rintro e w9 ⟨rfl, rfl⟩; have hS9 := hbz); simp only [Act.put, List.setIfInBounds_toArray, List.set_cons_zero, List.set_cons_succ]; refine hK _ _ hS9 ?_; clear hK K Q1 hS9
              (apply lq_pure (by kernel_rfl); (focus (intro w; go_simp; (try with_reducible rfl); done)); intro K hK; simp only [Act.put, List.setIfInBounds_toArray, List.set_cons_zero, List.set_cons_succ]; refine hK _ ?_; clear hK K)
              (apply lq_pure (by kernel_rfl); (focus (intro w; go_simp; (try with_reducible rfl); done)); intro K hK; simp only [Act.put, List.setIfInBounds_toArray, List.set_cons_zero, List.set_cons_succ]; refine hK _ ?_; clear hK K)
              (apply lq_pure (by kernel_rfl); (focus (intro w; go_simp; (try with_reducible rfl); done)); intro K hK; simp only [Act.put, List.setIfInBounds_toArray, List.set_cons_zero, List.set_cons_succ]; refine hK _ ?_; clear hK K)
              (apply lq_pure (by rfl); (focus (intro w; go_simp; (try with_reducible rfl); done)); intro K hK; simp only [Act.put, List.setIfInBounds_toArray, List.set_cons_zero, List.set_cons_succ]; refine hK _ ?_; clear hK K)
              (apply lq_pure (by rfl); (focus (intro w; go_simp; (try with_reducible rfl); done)); intro K hK; simp only [Act.put, List.setIfInBounds_toArray, List.set_cons_zero, List.set_cons_succ]; refine hK _ ?_; clear hK K)
              (apply lq_pure (by kernel_rfl); (focus (intro w; go_simp; (try with_reducible rfl); done)); intro K hK; simp only [Act.put, List.setIfInBounds_toArray, List.set_cons_zero, List.set_cons_succ]; refine hK _ ?_; clear hK K)
              (apply lq_pure (by kernel_rfl); (focus (intro w; go_simp; (try with_reducible rfl); done)); intro K hK; simp only [Act.put, List.setIfInBounds_toArray, List.set_cons_zero, List.set_cons_succ]; refine hK _ ?_; clear hK K)
              (apply lq_pure (by kernel_rfl); (focus (intro w; go_simp; (try with_reducible rfl); done)); intro K hK; simp only [Act.put, List.setIfInBounds_toArray, List.set_cons_zero, List.set_cons_succ]; refine hK _ ?_; clear hK K)
              (refine lq_skipP (by kernel_rfl) ?_; intro K hK; simp only [Act.put, List.setIfInBounds_toArray, List.set_cons_zero, List.set_cons_succ]; refine hK _ ?_; clear hK K)
              (refine lq_skipP (by kernel_rfl) ?_; intro K hK; simp only [Act.put, List.setIfInBounds_toArray, List.set_cons_zero, List.set_cons_succ]; refine hK _ ?_; clear hK K)
              (refine lq_skip (by kernel_rfl) ?_; intro K hK; simp only [Act.put, List.setIfInBounds_toArray, List.set_cons_zero, List.set_cons_succ]; refine hK _ ?_; clear hK K)
              (refine lq_effskip (by kernel_rfl) (by (exact hbz)) ?_; intro K hK; simp only [Act.put, List.setIfInBounds_toArray, List.set_cons_zero, List.set_cons_succ]; refine hK _ ?_; clear hK K)
              (refine lq_skipP (by kernel_rfl) ?_; intro K hK; simp only [Act.put, List.setIfInBounds_toArray, List.set_cons_zero, List.set_cons_succ]; refine hK _ ?_; clear hK K)
              (apply lq_pure (by kernel_rfl); (focus (intro w; go_simp; (try with_reducible rfl); done)); intro K hK; simp only [Act.put, List.setIfInBounds_toArray, List.set_cons_zero, List.set_cons_succ]; refine hK _ ?_; clear hK K)
              (apply lq_pure (by rfl); (focus (intro w; go_simp; (try with_reducible rfl); done)); intro K hK; simp only [Act.put, List.setIfInBounds_toArray, List.set_cons_zero, List.set_cons_succ]; refine hK _ ?_; clear hK K)
              (apply lq_pure (by rfl); (focus (intro w; go_simp; (try with_reducible rfl); done)); intro K hK; simp only [Act.put, List.setIfInBounds_toArray, List.set_cons_zero, List.set_cons_succ]; refine hK _ ?_; clear hK K)
              (apply lq_pure (by kernel_rfl); (focus (intro w; go_simp; (try with_reducible rfl); done)); intro K hK; simp only [Act.put, List.setIfInBounds_toArray, List.set_cons_zero, List.set_cons_succ]; refine hK _ ?_; clear hK K)
              (apply lq_pure (by kernel_rfl); (focus (intro w; go_simp; (try with_reducible rfl); done)); intro K hK; simp only [Act.put, List.setIfInBounds_toArray, List.set_cons_zero, List.set_cons_succ]; refine hK _ ?_; clear hK K)
              (apply lq_pure (by kernel_rfl); (focus (intro w; go_simp; (try with_reducible rfl); done)); intro K hK; simp only [Act.put, List.setIfInBounds_toArray, List.set_cons_zero, List.set_cons_succ]; refine hK _ ?_; clear hK K)
              refine lq_eff (by kernel_rfl) ?_
              intro K Q1 hQ1 hK; clear hQ1; go_simp; (go_at_call 31; refine HFW2.out.mono ?_; rintro e w9 ⟨⟨A9, c9, rfl⟩, hb9⟩; have hS9 : Below wd.heap.size wd w9 := hbz.trans hb9); simp only [Act.put, List.setIfInBounds_toArray, List.set_cons_zero, List.set_cons_succ]; refine hK _ _ hS9 ?_; clear hK K Q1 hS9
              (apply lq_pure (by kernel_rfl); (focus (intro w; go_simp; (try with_reducible rfl); done)); intro K hK; simp only [Act.put, List.setIfInBounds_toArray, List.set_cons_zero, List.set_cons_succ]; refine hK _ ?_; clear hK K)
              (apply lq_pure (by kernel_rfl); (focus (intro w; go_simp; (try with_reducible rfl); done)); intro K hK; simp only [Act.put, List.setIfInBounds_toArray, List.set_cons_zero, List.set_cons_succ]; refine hK _ ?_; clear hK K)
              (apply lq_pure (by rfl); (focus (intro w; go_simp; (try with_reducible rfl); done)); intro K hK; simp only [Act.put, List.setIfInBounds_toArray, List.set_cons_zero, List.set_cons_succ]; refine hK _ ?_; clear hK K)
              refine lq_nil ?_
              intro hS9
              go_wp2
              go_roundw
              case rel => exact ⟨k + 1, n, c, (some ⟨bd, od, none⟩), X, G, D, by omega, by go_num, rfl, HD.out, (H3.out.below hS9).sub (by simp), HI.out⟩
              case measure => simp [intOf]; omega
      · have e : k = al.length := by omega
        subst e
        have bI := HP.out.base
        go_wp2_with fail
        refine (awake12_calls _).mono ?_
        rintro e wa ⟨rfl, hba⟩
        go_wp2
        go_ret
        exact ⟨rfl, bI.trans (hba.mono bI.size)⟩
  · have hn : (100 : Int) < al.length := by omega
    have bI := Below.refl W.heap.size W
    go_enter Try.func9, Try.ntmps9
    go_wp2_with fail
    refine (awake12_calls _).mono ?_
    rintro e wa ⟨rfl, hba⟩
    go_wp2
    go_ret
    exact ⟨rfl, bI.trans (hba.mono bI.size)⟩
end Go.Proofs.Ytjdkafamaoeifaa
