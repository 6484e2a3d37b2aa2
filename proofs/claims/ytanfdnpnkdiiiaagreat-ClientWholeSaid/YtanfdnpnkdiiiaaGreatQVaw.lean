/- One text of: Vaw. -/
import Derived.Test.YtanfdnpnkdiiiaaGreatQVmh
namespace Go.Proofs.YtanfdnpnkdiiiaaGreat
open Go.RowKit Go.Proofs Go.Maps
set_option linter.unusedVariables false
set_option linter.unusedSimpArgs false

theorem chosen_one (x : Ld) : chosen [x] 1 = [x.id] := by
  unfold chosen sortLd
  simp
def aw1 : Vst := ⟨[(2, 1)], [], [], 1⟩
def aw2 : Vst := ⟨[(2, 1)], [⟨0, 9, ⟨1000, 1, 0, 0⟩, 1, [1, 2]⟩], [⟨1, 0, 1, [2], []⟩, ⟨2, 0, 1, [2], []⟩], 3⟩
theorem aw18a : Vst.apply ⟨[], [], [], 1⟩ ⟨1, 2, 1, 0, ⟨0, 0, 0, 0⟩⟩ = (aw1, 0) := by
  have h : Vst.act ⟨[], [], [], 1⟩ ⟨1, 2, 1, 0, ⟨0, 0, 0, 0⟩⟩ = (aw1, 0) := by simp [Vst.act, Vst.server, ins, aw1]
  have h2 : aw1.admits = true := by decide
  unfold Vst.apply
  simp only [h, h2]
  rfl
theorem aw18b : aw1.apply ⟨2, 0, 9, 1, ⟨1000, 1, 0, 0⟩⟩ = (aw2, 0) := by
  have hr : (⟨1000, 1, 0, 0⟩ : Pol).ok = true := by decide
  have h : aw1.act ⟨2, 0, 9, 1, ⟨1000, 1, 0, 0⟩⟩ = (aw2, 0) := by
    simp [Vst.act, Vst.create, hr, aw1, aw2, Vst.grow, lack, growN, fd_nil, Vst.loads, chosen_one, ins]
  have h2 : aw2.admits = true := by decide
  unfold Vst.apply
  simp only [h, h2]
  rfl
theorem aw18c : (aw2.apply ⟨2, 1, 1, 1, ⟨1000, 1, 0, 0⟩⟩).2 = 14 := by
  have hr : (⟨1000, 1, 0, 0⟩ : Pol).ok = true := by decide
  have h : aw2.act ⟨2, 1, 1, 1, ⟨1000, 1, 0, 0⟩⟩ = (⟨[(2, 1)], [⟨0, 9, ⟨1000, 1, 0, 0⟩, 1, [1, 2]⟩, ⟨1, 1, ⟨1000, 1, 0, 0⟩, 1, [3]⟩], [⟨1, 0, 1, [2], []⟩, ⟨2, 0, 1, [2], []⟩, ⟨3, 1, 1, [2], []⟩], 4⟩, 0) := by
    simp [Vst.act, Vst.create, hr, aw2, Vst.grow, lack, growN, fd, Vst.loads, chosen_one, ins]
  have h2 : Vst.admits ⟨[(2, 1)], [⟨0, 9, ⟨1000, 1, 0, 0⟩, 1, [1, 2]⟩, ⟨1, 1, ⟨1000, 1, 0, 0⟩, 1, [3]⟩], [⟨1, 0, 1, [2], []⟩, ⟨2, 0, 1, [2], []⟩, ⟨3, 1, 1, [2], []⟩], 4⟩ = false := by decide
  unfold Vst.apply
  simp only [h, h2]
  rfl
theorem Cmd.ok_mk {k a b c : Int} {p : Pol} (hk : i64ok k) (ha : i64ok a) (hb : i64ok b) (hc : i64ok c) : (⟨k, a, b, c, p⟩ : Cmd).ok := ⟨hk, ha, hb, hc⟩
/-- Apply, the command written out -/
theorem VS.applyC {w : World} {b n : Nat} {S : Vst} (h : VS w b S n) (hn : n ≤ 1000) (k a c d r wt l bu : Int) (hk : i64ok k) (ha : i64ok a) (hc : i64ok c) (hd : i64ok d) :
    Calls Tryz.prog 22 #[.pointer (some ⟨b, 0, none⟩), .agg #[.int .i64 k, .int .i64 a, .int .i64 c, .int .i64 d, .int .i64 r, .int .i64 wt, .int .i64 l, .int .i64 bu]] w fun e w' => ∃ z, e = .returned (.int .i64 z) ∧ z = (S.apply ⟨k, a, c, d, ⟨r, wt, l, bu⟩⟩).2 ∧ Chg [b] w w' ∧ VS w' b (S.apply ⟨k, a, c, d, ⟨r, wt, l, bu⟩⟩).1 (n + 1) :=
  (vapply_calls w b n S ⟨k, a, c, d, ⟨r, wt, l, bu⟩⟩ h hn (Cmd.ok_mk hk ha hc hd)).mono fun e w' h => ⟨_, h.ret, rfl, h.chg, h.vs⟩
end Go.Proofs.YtanfdnpnkdiiiaaGreat
