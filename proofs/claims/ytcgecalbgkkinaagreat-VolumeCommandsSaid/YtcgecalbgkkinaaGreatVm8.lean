/- The walk through State.loads. -/
import Derived.Test.YtcgecalbgkkinaaGreatVm7
namespace Go.Proofs.YtcgecalbgkkinaaGreat
open Go.RowKit Go.Proofs Go.Maps
set_option linter.unusedVariables false
set_option linter.unusedSimpArgs false

theorem VM.cnt {w : World} {no : List Nat} {b m1 m2 m3 : Nat} {S : Vst} {V : List VoM} {C : List CkM} (h : VM w no b m1 m2 m3 S V C) (s : Int) : (C.filter fun x => x.k.has s).length = S.cnt s := by
  unfold Vst.cnt
  rw [← h.eC, List.filter_map, List.length_map]
  rfl
theorem ldCells_app (a b : List Ld) : ldCells (a ++ b) = ldCells a ++ ldCells b := by simp [ldCells]
theorem ldCells_len (a : List Ld) : (ldCells a).length = a.length * 2 := flat_length Ld.cells 2 (fun _ => rfl) a
set_option maxHeartbeats 4000000 in
theorem loads_calls (w : World) (no : List Nat) (b m1 m2 m3 : Nat) (S : Vst) (V : List VoM) (C : List CkM) (h : VM w no b m1 m2 m3 S V C) (hsv : S.sv.length ≤ 1000000) (hcs : S.cs.length ≤ 1000000) :
    Calls Tryz.prog 101 #[.pointer (some ⟨b, 0, none⟩)] w fun e w' => ∃ A c, e = .returned (.slice A S.loads.length c) ∧ w'.ownsRow 0 76 2 (.slice A S.loads.length c) S.loads.length (ldCells S.loads) ∧
      (∀ g, A.map Addr.block = some g → w.heap.size ≤ g) ∧ Below w.heap.size w w' := by
  obtain ⟨i0, hi, hz0, hz1, hz2⟩ := info_parts Tryz.infoLd
  have c0 : w.cell? ⟨b, 0, none⟩ = some (.map (some m1)) := h.blk.cell 0
  have hb0 := (Below.refl w.heap.size w).alloc (Nat.le_refl _) (.cells #[.map (some m1)] 60)
  have hcell : (w.alloc (.cells #[.map (some m1)] 60)).cell? ⟨w.heap.size, 0, none⟩ = some (.map (some m1)) := (Blk.new (cs := [.map (some m1)]) rfl).cell 0
  have hS := hide (sortedInt_calls w.heap.size (w.alloc (.cells #[.map (some m1)] 60)) hcell (by simp) (h.t1.below hb0) hsv)
  have H := hide h
  have hCl : C.length = S.cs.length := by have := congrArg List.length h.eC; rwa [List.length_map] at this
  clear h hcell
  go_enter Tryz.func101, Tryz.ntmps101
  go_wp2_with fail
  refine (keysInt_calls _ _).mono ?_
  rintro e w1 ⟨rfl, rfl⟩
  go_wp2_with fail
  refine hS.out.mono ?_
  rintro e w1 ⟨A, c, rfl, ho, hb1⟩
  have HB := hide (hb0.trans (hb1.mono hb0.size))
  have H1 := hide (H.out.below HB.out)
  obtain ⟨A', c', e', _, _, _, _, hrd⟩ := own_view ho.1
  cases e'
  have hr := hide (hrd w1.heap.size (fun g hg => own_lt ho.1 hg))
  have hll : S.loads.length = S.sv.length := by unfold Vst.loads; rw [List.length_map]
  have HLL := hide hll
  clear hS H ho hb0 hb1 hrd c0 hll
  go_wp2_with fail
  go_loopw [3, 5, 6, 8, 16] (fun v _ _ _ i wr => ∃ (k : Nat) (A2 : Option Addr) (c2 : Nat), k ≤ S.sv.length ∧ i = .int .i64 k ∧ v = .slice A2 k c2 ∧ wr.ownsRow 0 76 2 v k (ldCells (S.loads.take k)) ∧ (∀ g, A2.map Addr.block = some g → w1.heap.size ≤ g) ∧ Below w1.heap.size w1 wr) (fun _ _ _ _ i _ => S.sv.length - (intOf i).toNat)
  case atStart => exact ⟨0, none, 0, Nat.zero_le _, rfl, rfl, World.ownsRow_nil _ _ _ _, (fun g hg => by cases hg), Below.refl _ _⟩
  case round =>
    obtain ⟨k, A2, c2, hk, rfl, rfl, hown, hgb, hb⟩ := hrel
    have HB1 := hide hb
    have HOW := hide hown
    have HGB := hide hgb
    by_cases hlt : k < S.sv.length
    · obtain ⟨bA, oA, rfl, hbA, hcell⟩ := hr.out.at_ (by simp; omega)
      have g0 : wr.cell? ⟨bA, oA + k, none⟩ = some (.int .i64 S.sv[k].1) := (hb.cell (p := ⟨bA, oA + k, none⟩) hbA).trans (hcell k _ (by simp [hlt]))
      have i1 : (k : Int) < S.sv.length := by omega
      have hLk : S.loads[k]'(by rw [HLL.out]; exact hlt) = ⟨S.sv[k].1, S.cnt S.sv[k].1⟩ := by simp [Vst.loads]
      obtain ⟨s, hs⟩ : ∃ s, S.sv[k].1 = s := ⟨_, rfl⟩
      rw [hs] at g0 hLk
      have HLK := hide hLk
      have HRE := hide hr.out
      clear hcell hr hs hLk hb hown hgb
      have c2' : wr.cell? ⟨b, 2, none⟩ = some (.map (some m3)) := (H1.out.below HB1.out).cell 2
      go_wp2_with (at_range; refine Tab.wpl_range rfl _ rfl Tryz.underlying62 rfl (H1.out.below HB1.out).t3 ?_; intro w2 lf hrg hlf hb2 hs2)
      go_frame
      have HQ2 := hide hb2
      have HRG := hide hrg
      have HN0 := hide (cntV_start (fun x => x.k.has s) hlf)
      clear hb2 hrg hlf c2' g0 hs2
      obtain ⟨wo, rfl⟩ : ∃ wo, wo = wr := ⟨_, rfl⟩
      go_loopw [6, 8] (fun n _ wq => ∃ lf cnt, Ranges CkM.key CkM.val wq m3 wo.heap.size C lf cnt ∧ Below wo.heap.size wo wq ∧ n = .int .i64 (cntV CkM.key lf (fun x => x.k.has s) C)) (fun _ _ wq => wq.rangeLeft m3 wo.heap.size)
      case atStart => exact ⟨lf, _, HRG.out, HQ2.out, by rw [HN0.out]; rfl⟩
      case round =>
        obtain ⟨lf2, cnt, hrg, hb, rfl⟩ := hrel
        have HR := hide hrg
        have HB3 := hide hb
        have HCL := hide (show cntV CkM.key lf2 (fun x => x.k.has s) C ≤ 1000000 from Nat.le_trans (List.length_filter_le _ _) (by omega))
        clear hrg hb
        go_wp2_with (at_next; refine Ranges.wpl_next rfl _ rfl rfl HR.out ?_ ?_)
        · intro h0
          have HC : Hid (cntV CkM.key lf2 (fun x => x.k.has s) C = S.cnt s) := hide (by rw [cntV_end _ h0]; exact H1.out.cnt s)
          clear h0
          rw [HC.out] at HCL ⊢
          obtain ⟨q, hq⟩ : ∃ q, S.cnt s = q := ⟨_, rfl⟩
          rw [hq] at HLK HCL ⊢
          have HB4 := hide (HB1.out.trans (HB3.out.mono HB1.out.size))
          have HQ := hide (own_chg (own_chg HOW.out (Chg.of_below (L := []) HB3.out) (fun _ _ hx => by cases hx)) (Chg.of_below (L := []) ((Below.refl wr.heap.size wr).alloc (Nat.le_refl _) (.cells #[.int .i64 s, .int .i64 q] 76))) (fun _ _ hx => by cases hx))
          clear HC hq
          go_wp2_with (at_builtin; refine app_law rfl _ _ 71 rfl 76 i0 _ 2 16 Tryz.underlying71 hi hz0 hz1 hz2 rfl (by decide) _ _ _ rfl HQ.out wr.heap.size 1 1 [.int .i64 s, .int .i64 q] rfl (Blk.new rfl) rfl ?c1 (by decide) ?c3 ?c4 ?_)
          case c1 => intro u hu; simp at hu; rcases hu with rfl | rfl <;> rfl
          case c3 => unfold maxLen; omega
          case c4 => omega
          intro g cap w6 hown6 hch6 hor hg6
          have q6 := HB4.out.alloc HB4.out.size (.cells #[.int .i64 s, .int .i64 q] 76)
          rw [ownBlock_slice] at hch6 hor
          have R6 := Chg.onto q6 q6.size hch6 (fun x hx => HGB.out x (by simpa using hx))
          have hg : w1.heap.size ≤ g := by
            rcases hor with h | h
            · exact HGB.out g h
            · have := HB4.out.size; first | omega | (simp at h; omega)
          have HR6 := hide R6
          have HE6 : Hid (w6.ownsRow 0 76 2 (.slice (some ⟨g, 0, none⟩) (k + 1) cap) (k + 1) (ldCells (S.loads.take (k + 1)))) := hide (by
            rw [List.take_succ_eq_append_getElem (by rw [HLL.out]; exact hlt), HLK.out, ldCells_app, show ldCells [(⟨s, (q : Int)⟩ : Ld)] = [.int .i64 s, .int .i64 q] from rfl]
            exact hown6)
          clear hown6 hch6 hor q6 R6
          go_wp2
          go_roundw
          case rel => exact ⟨k + 1, some ⟨g, 0, none⟩, cap, by omega, by go_num, rfl, HE6.out, fun x hx => by cases hx; exact hg, HR6.out⟩
          case measure => simp [intOf]; omega
        · intro e w3 cnt1 he hle hrg1 hlt1 hch1 hen
          have HSL := hide (H1.out.sC e he)
          have HST := hide (cntV_step (fun x => x.k.has s) H1.out.t3.rise he hle)
          obtain ⟨⟨cid, vol, ep, me, jo⟩, A3, c3, B3, d3⟩ := e
          simp only [CkM.val, CkM.cells] at hen ⊢
          have HB4 := hide (Chg.onto HB3.out HB3.out.size hch1 (by simp))
          have HRN := hide hrg1
          have hmeas : Hid (w3.rangeLeft m3 wo.heap.size < wr.rangeLeft m3 wo.heap.size) := hide (by rw [HRN.out.left_eq, HR.out.left_eq]; exact hlt1)
          clear hrg1 hch1 he hle hlt1
          go_wp2_with fail
          have q4 := HB4.out.alloc HB4.out.size (.cells #[.int .i64 cid, .int .i64 vol, .int .i64 ep, .slice A3 me.length c3, .slice B3 jo.length d3] 47)
          have q5 := HB1.out.trans (q4.mono HB1.out.size)
          refine (vhas_calls ⟨⟨cid, vol, ep, me, jo⟩, A3, c3, B3, d3⟩ s no _ (HSL.out.1.below q5) (HSL.out.2.below q5)).mono ?_
          rintro e w4 ⟨rfl, hb4⟩
          have HB5 := hide (q4.trans (hb4.mono q4.size))
          have HR5 := hide ((HRN.out.below ((Below.refl _ _).alloc (Nat.le_refl _) _)).below hb4)
          clear hb4 q4 q5 hen
          obtain ⟨q, hq⟩ : ∃ q, (⟨cid, vol, ep, me, jo⟩ : Ck).has s = q := ⟨_, rfl⟩
          simp only [hq] at HST
          rw [hq]
          clear hq
          cases q with
          | true =>
            go_wp2
            go_roundw
            case rel => exact ⟨_, _, HR5.out, HB5.out, by have := HCL.out; rw [HST.out, if_pos trivial, IntWalk.wrap64_in _ (by omega)]; rfl⟩
            case measure => rw [HR5.out.left_eq, ← HRN.out.left_eq]; exact hmeas.out
          | false =>
            go_wp2
            go_roundw
            case rel => exact ⟨_, _, HR5.out, HB5.out, by rw [HST.out]; first | rfl | simp⟩
            case measure => rw [HR5.out.left_eq, ← HRN.out.left_eq]; exact hmeas.out
    · have e : k = S.sv.length := by omega
      subst e
      have HE : Hid (S.loads.take S.sv.length = S.loads) := hide (by rw [← HLL.out, List.take_length])
      clear hown hgb hb
      rw [HE.out] at HOW
      go_wp2
      go_ret
      rw [HLL.out]
      exact ⟨A2, c2, rfl, HOW.out, fun g hg => Nat.le_trans HB.out.size (HGB.out g hg), HB.out.trans (HB1.out.mono HB.out.size)⟩
end Go.Proofs.YtcgecalbgkkinaaGreat
