/- One text of: Vaw. -/
import Derived.Test.YtcgecalbgkkinaaGreatQVmh
namespace Go.Proofs.YtcgecalbgkkinaaGreat
open Go.RowKit Go.Proofs Go.Maps
set_option linter.unusedVariables false
set_option linter.unusedSimpArgs false

theorem chosen_one (x : Ld) : chosen [x] 1 = [x.id] := by
  unfold chosen sortLd
  simp
def aw1 : Vst := ⟨[(2, 1)], [], [], 1⟩
def aw2 : Vst := ⟨[(2, 1)], [⟨0, 9, ⟨1000, 1, 0, 0⟩, 1, [1, 2]⟩], [⟨1, 0, 1, [2], []⟩, ⟨2, 0, 1, [2], []⟩], 3⟩
theorem aw18a : Vst.apply ⟨[], [], [], 1⟩ ⟨1, 2, 1, 0, ⟨0, 0, 0, 0⟩⟩ = (aw1, 0) := by
  have h : Vst.act ⟨[], [], [], 1⟩ ⟨1, 2, 1, 0, ⟨0, 0, 0, 0⟩⟩ = (aw1, 0) := by simp [Vst.act, Vst.server, ins, aw1]
  have h2 : aw1.admits = true := by decide
  unfold Vst.apply
  simp only [h, h2]
  rfl
theorem aw18b : aw1.apply ⟨2, 0, 9, 1, ⟨1000, 1, 0, 0⟩⟩ = (aw2, 0) := by
  have hr : (⟨1000, 1, 0, 0⟩ : Pol).ok = true := by decide
  have h : aw1.act ⟨2, 0, 9, 1, ⟨1000, 1, 0, 0⟩⟩ = (aw2, 0) := by
    simp [Vst.act, Vst.create, hr, aw1, aw2, Vst.grow, lack, growN, fd_nil, Vst.loads, chosen_one, ins]
  have h2 : aw2.admits = true := by decide
  unfold Vst.apply
  simp only [h, h2]
  rfl
theorem aw18c : (aw2.apply ⟨2, 1, 1, 1, ⟨1000, 1, 0, 0⟩⟩).2 = 14 := by
  have hr : (⟨1000, 1, 0, 0⟩ : Pol).ok = true := by decide
  have h : aw2.act ⟨2, 1, 1, 1, ⟨1000, 1, 0, 0⟩⟩ = (⟨[(2, 1)], [⟨0, 9, ⟨1000, 1, 0, 0⟩, 1, [1, 2]⟩, ⟨1, 1, ⟨1000, 1, 0, 0⟩, 1, [3]⟩], [⟨1, 0, 1, [2], []⟩, ⟨2, 0, 1, [2], []⟩, ⟨3, 1, 1, [2], []⟩], 4⟩, 0) := by
    simp [Vst.act, Vst.create, hr, aw2, Vst.grow, lack, growN, fd, Vst.loads, chosen_one, ins]
  have h2 : Vst.admits ⟨[(2, 1)], [⟨0, 9, ⟨1000, 1, 0, 0⟩, 1, [1, 2]⟩, ⟨1, 1, ⟨1000, 1, 0, 0⟩, 1, [3]⟩], [⟨1, 0, 1, [2], []⟩, ⟨2, 0, 1, [2], []⟩, ⟨3, 1, 1, [2], []⟩], 4⟩ = false := by decide
  unfold Vst.apply
  simp only [h, h2]
  rfl
theorem Cmd.ok_mk {k a b c : Int} {p : Pol} (hk : i64ok k) (ha : i64ok a) (hb : i64ok b) (hc : i64ok c) : (⟨k, a, b, c, p⟩ : Cmd).ok := ⟨hk, ha, hb, hc⟩
/-- Apply, the command written out -/
theorem VS.applyC {w : World} {b n : Nat} {S : Vst} (h : VS w b S n) (hn : n ≤ 1000) (k a c d r wt l bu : Int) (hk : i64ok k) (ha : i64ok a) (hc : i64ok c) (hd : i64ok d) :
    Calls Tryz.prog 11 #[.pointer (some ⟨b, 0, none⟩), .agg #[.int .i64 k, .int .i64 a, .int .i64 c, .int .i64 d, .int .i64 r, .int .i64 wt, .int .i64 l, .int .i64 bu]] w fun e w' => ∃ z, e = .returned (.int .i64 z) ∧ z = (S.apply ⟨k, a, c, d, ⟨r, wt, l, bu⟩⟩).2 ∧ Chg [b] w w' ∧ VS w' b (S.apply ⟨k, a, c, d, ⟨r, wt, l, bu⟩⟩).1 (n + 1) :=
  (vapply_calls w b n S ⟨k, a, c, d, ⟨r, wt, l, bu⟩⟩ h hn (Cmd.ok_mk hk ha hc hd)).mono fun e w' h => ⟨_, h.ret, rfl, h.chg, h.vs⟩
set_option maxHeartbeats 4000000 in
set_option maxRecDepth 100000 in
theorem awake18_calls (W : World) : Calls Tryz.prog 7 #[] W fun e w' => e = .returned (.bool true) ∧ Below W.heap.size W w' := by
  go_enter Tryz.func7, Tryz.ntmps7
  go_wp2_with fail
  refine (VS.new _).mono ?_
  rintro e w1 ⟨b, rfl, hv, hb1, hbl⟩
  have hbw := hv.lt
  have q1 := (Below.refl w1.heap.size w1).alloc (Nat.le_refl _) (.cells #[.int .i64 1000, .int .i64 1, .int .i64 0, .int .i64 0] 36)
  have hP : Blk (w1.alloc (.cells #[.int .i64 1000, .int .i64 1, .int .i64 0, .int .i64 0] 36)) w1.heap.size 36 [.int .i64 1000, .int .i64 1, .int .i64 0, .int .i64 0] := Blk.new rfl
  have hv1 := hv.below q1
  have hB1 := hide (hb1.trans (q1.mono hb1.size))
  have HP1 := hide hP
  have HBL := hide (And.intro hbl (And.intro hbw hb1.size))
  have hA := hide (hv1.applyC (by omega) 1 2 1 0 0 0 0 0 (by unfold i64ok; omega) (by unfold i64ok; omega) (by unfold i64ok; omega) (by unfold i64ok; omega))
  rw [aw18a] at hA
  clear hv hb1 hbl hbw q1 hP hv1
  go_wp2_with fail
  refine hA.out.mono ?_
  rintro e w2 ⟨z, rfl, rfl, hc2, hv2⟩
  have hne : w1.heap.size ≠ b := by have := HBL.out; omega
  have hP2 := HP1.out.chg hc2 (by simpa using hne)
  have HB2 := hide (hB1.out.trans (hc2.toBelow (Nat.le_trans hB1.out.size (Nat.le_refl _)) (fun x hx => by rw [List.mem_singleton.1 hx]; exact HBL.out.1)))
  have p0 := hP2.cell 0
  have p1 := hP2.cell 1
  have p2 := hP2.cell 2
  have p3 := hP2.cell 3
  simp only [List.getElem?_cons_succ, List.getElem?_cons_zero] at p0 p1 p2 p3
  have HP2 := hide hP2
  have hA2 := hide (hv2.applyC (by omega) 2 0 9 1 1000 1 0 0 (by unfold i64ok; omega) (by unfold i64ok; omega) (by unfold i64ok; omega) (by unfold i64ok; omega))
  rw [aw18b] at hA2
  have HNE := hide hne
  clear hc2 hv2 hP2 hA hne
  go_wp2_with fail
  refine hA2.out.mono ?_
  rintro e w3 ⟨z, rfl, rfl, hc3, hv3⟩
  have hP3 := HP2.out.chg hc3 (by simpa using HNE.out)
  have HB3 := hide (HB2.out.trans (hc3.toBelow HB2.out.size (fun x hx => by rw [List.mem_singleton.1 hx]; exact HBL.out.1)))
  have HP3 := hide hP3
  have HV3 := hide hv3
  clear hc3 hv3 hP3 hA2 p0 p1 p2 p3
  go_wp2_with fail
  refine (HV3.out.volume (id := 0) (by unfold i64ok; omega)).mono ?_
  rintro e w4 ⟨y, rfl, hy, ho, hln, hb4⟩
  have hyy : y.v = ⟨0, 9, ⟨1000, 1, 0, 0⟩, 1, [1, 2]⟩ := by
    rcases hy with h | ⟨h, _⟩
    · have e : fd Vo.id aw2.vs 0 = some ⟨0, 9, ⟨1000, 1, 0, 0⟩, 1, [1, 2]⟩ := rfl
      rw [show fd Vo.id (aw2, (0 : Int)).1.vs 0 = _ from e] at h
      injection h with h
      exact h.symm
    · have e : fd Vo.id aw2.vs 0 = some ⟨0, 9, ⟨1000, 1, 0, 0⟩, 1, [1, 2]⟩ := rfl
      rw [show fd Vo.id (aw2, (0 : Int)).1.vs 0 = _ from e] at h
      cases h
  obtain ⟨yv, A, c⟩ := y
  simp only [] at hyy
  subst hyy
  have HB4 := hide (HB3.out.trans (hb4.mono HB3.out.size))
  have HP4 := hide (HP3.out.below hb4)
  have HV4 := hide (HV3.out.below hb4)
  have e2 : (fd Vo.id aw2.vs 0).isSome = true := rfl
  simp only [VoM.val, VoM.cells]
  have hfd : (fd Vo.id (aw2, (0 : Int)).1.vs 0).isSome = true := rfl
  rw [hfd]
  have q4 := (Below.refl w4.heap.size w4).alloc (Nat.le_refl _) (.cells #[.int .i64 0, .int .i64 9, .int .i64 1000, .int .i64 1, .int .i64 0, .int .i64 0, .int .i64 1, .slice A 2 c] 43)
  have hA3 := hide ((HV4.out.below q4).applyC (by omega) 2 1 1 1 1000 1 0 0 (by unfold i64ok; omega) (by unfold i64ok; omega) (by unfold i64ok; omega) (by unfold i64ok; omega))
  have hP4 := HP4.out
  have hlt4 := HP4.out.lt
  have HQ4 := hide q4
  have p0 := hP4.cell 0
  have p1 := hP4.cell 1
  have p2 := hP4.cell 2
  have p3 := hP4.cell 3
  simp only [List.getElem?_cons_succ, List.getElem?_cons_zero] at p0 p1 p2 p3
  clear hy ho hln hb4 e2 hfd q4 hP4
  go_wp2_with fail
  refine hA3.out.mono ?_
  rintro e w5 ⟨z, rfl, hz, hc5, hv5⟩
  rw [aw18c] at hz
  subst hz
  have D5 := (Blk.new (w := w4) (b := w4.heap.size) (cs := [.int .i64 0, .int .i64 9, .int .i64 1000, .int .i64 1, .int .i64 0, .int .i64 0, .int .i64 1, .slice A 2 c]) (t := 43) rfl).chg hc5 (by have := HV4.out.lt; simp; omega)
  have u7 : w5.cell? ⟨w4.heap.size, 7, none⟩ = some (.slice A 2 c) := D5.cell 7
  have HB5 := hide (HB4.out.trans ((hc5.toBelow (B := W.heap.size) (Nat.le_trans HB4.out.size HQ4.out.size) (fun x hx => by rw [List.mem_singleton.1 hx]; exact HBL.out.1) : Below W.heap.size _ w5).mono (Nat.le_refl _) |> fun h => ((HQ4.out.mono (B' := W.heap.size) HB4.out.size).trans h)))
  clear hc5 hv5 D5 hA3 p0 p1 p2 p3 hlt4
  go_wp2
  go_ret
  exact ⟨rfl, HB5.out⟩
end Go.Proofs.YtcgecalbgkkinaaGreat
