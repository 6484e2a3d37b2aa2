/- One text of: Srv. -/
import Derived.Test.YtanfdnpnkdiiiaaGreatQGrw
import Derived.Test.YtanfdnpnkdiiiaaGreatQOpenG
import Derived.Test.YtanfdnpnkdiiiaaGreatQOpenP
namespace Go.Proofs.YtanfdnpnkdiiiaaGreat
open Go.ChangeShapes Go.WideShapes Go.ChangeAt Go.RowKit Go.Joins Go.Deep Go.Maps
set_option linter.unusedVariables false
set_option linter.unusedSimpArgs false

/-- what State.Servers shows -/
def Vst.srv (S : Vst) : List Ld := S.sv.map fun x => ⟨x.1, x.2⟩
set_option maxHeartbeats 4000000 in
set_option maxRecDepth 100000 in
theorem vservers_calls (w : World) (no : List Nat) (b m1 m2 m3 : Nat) (S : Vst) (V : List VoM) (C : List CkM) (h : VM w no b m1 m2 m3 S V C) (hsv : S.sv.length ≤ 1000000) :
    Calls Tryz.prog 47 #[.pointer (some ⟨b, 0, none⟩)] w fun e w' => ∃ A c, e = .returned (.slice A S.sv.length c) ∧ w'.ownsRow 0 113 2 (.slice A S.sv.length c) S.sv.length (ldCells S.srv) ∧
      (∀ g, A.map Addr.block = some g → w.heap.size ≤ g) ∧ Below w.heap.size w w' := by
  obtain ⟨i0, hi, hz0, hz1, hz2⟩ := info_parts Tryz.infoLd
  have c0 : w.cell? ⟨b, 0, none⟩ = some (.map (some m1)) := h.blk.cell 0
  have hb0 := (Below.refl w.heap.size w).alloc (Nat.le_refl _) (.cells #[.map (some m1)] 94)
  have hcell : (w.alloc (.cells #[.map (some m1)] 94)).cell? ⟨w.heap.size, 0, none⟩ = some (.map (some m1)) := (Blk.new (cs := [.map (some m1)]) rfl).cell 0
  have hS := hide (sortedInt_calls w.heap.size (w.alloc (.cells #[.map (some m1)] 94)) hcell (by simp) (h.t1.below hb0) hsv)
  have H := hide h
  clear h hcell
  go_enter Tryz.func47, Tryz.ntmps47
  go_wp2_with fail
  refine (keysInt_calls _ _).mono ?_
  rintro e w1 ⟨rfl, rfl⟩
  go_wp2_with fail
  refine hS.out.mono ?_
  rintro e w1 ⟨A, c, rfl, ho, hb1⟩
  have HB := hide (hb0.trans (hb1.mono hb0.size))
  have H1 := hide (H.out.below HB.out)
  obtain ⟨A', c', e', _, _, _, _, hrd⟩ := own_view ho.1
  cases e'
  have hr := hide (hrd w1.heap.size (fun g hg => own_lt ho.1 hg))
  have hll : S.srv.length = S.sv.length := by unfold Vst.srv; rw [List.length_map]
  have HLL := hide hll
  clear hS H ho hb0 hb1 hrd c0 hll
  go_wp2_with fail
  go_loopw [3, 5, 13, 14, 15, 16, 17, 18, 19, 20, 21, 22, 23, 24, 25, 26, 27, 28] (fun v _ i _ _ _ _ _ _ _ _ _ _ _ _ _ _ _ wr => ∃ (k : Nat) (A2 : Option Addr) (c2 : Nat), k ≤ S.sv.length ∧ i = .int .i64 k ∧ v = .slice A2 k c2 ∧ wr.ownsRow 0 113 2 v k (ldCells (S.srv.take k)) ∧ (∀ g, A2.map Addr.block = some g → w1.heap.size ≤ g) ∧ Below w1.heap.size w1 wr) (fun _ _ i _ _ _ _ _ _ _ _ _ _ _ _ _ _ _ _ => S.sv.length - (intOf i).toNat)
  case atStart => exact ⟨0, none, 0, Nat.zero_le _, rfl, rfl, World.ownsRow_nil _ _ _ _, (fun g hg => by cases hg), Below.refl _ _⟩
  case round =>
    obtain ⟨k, A2, c2, hk, rfl, rfl, hown, hgb, hb⟩ := hrel
    have HB1 := hide hb
    have HOW := hide hown
    have HGB := hide hgb
    by_cases hlt : k < S.sv.length
    · obtain ⟨bA, oA, rfl, hbA, hcell⟩ := hr.out.at_ (by simp; omega)
      have g0 : wr.cell? ⟨bA, oA + k, none⟩ = some (.int .i64 S.sv[k].1) := (hb.cell (p := ⟨bA, oA + k, none⟩) hbA).trans (hcell k _ (by simp [hlt]))
      have i1 : (k : Int) < S.sv.length := by omega
      have hLk : S.srv[k]'(by rw [HLL.out]; exact hlt) = ⟨S.sv[k].1, S.sv[k].2⟩ := by simp [Vst.srv]
      have c0 : wr.cell? ⟨b, 0, none⟩ = some (.map (some m1)) := (H1.out.below HB1.out).blk.cell 0
      have hok : i64ok S.sv[k].1 := H1.out.t1.ok _ (List.getElem_mem hlt)
      have hlk := (H1.out.below HB1.out).t1.look (mt := 94) hok Tryz.underlying94 (z := .int .i64 0) (by simp [Tryz.zeroValue3])
      have hfd : fd Prod.fst S.sv S.sv[k].1 = some S.sv[k] := fd_get H1.out.t1.rise hlt
      rw [hfd] at hlk
      simp only [Option.map_some, Option.getD_some, svVal] at hlk
      obtain ⟨⟨s, q⟩, hs⟩ : ∃ s, S.sv[k] = s := ⟨_, rfl⟩
      simp only [hs] at g0 hLk hlk
      have HLK := hide hLk
      have HRE := hide hr.out
      have HQ := hide (own_chg HOW.out (Chg.of_below (L := []) ((Below.refl wr.heap.size wr).alloc (Nat.le_refl _) (.cells #[.int .i64 s, .int .i64 q] 113))) (fun _ _ hx => by cases hx))
      clear hcell hr hs hLk hb hown hgb hfd hok
      go_wp2_with (at_builtin; refine app_law rfl _ _ 110 rfl 113 i0 _ 2 16 Tryz.underlying110 hi hz0 hz1 hz2 rfl (by decide) _ _ _ rfl HQ.out wr.heap.size 1 1 [.int .i64 s, .int .i64 q] rfl (Blk.new rfl) rfl ?c1 (by decide) ?c3 ?c4 ?_)
      case c1 => intro u hu; simp at hu; rcases hu with rfl | rfl <;> rfl
      case c3 => unfold maxLen; omega
      case c4 => omega
      intro g cap w6 hown6 hch6 hor hg6
      have q6 := HB1.out.alloc HB1.out.size (.cells #[.int .i64 s, .int .i64 q] 113)
      rw [ownBlock_slice] at hch6 hor
      have R6 := Chg.onto q6 q6.size hch6 (fun x hx => HGB.out x (by simpa using hx))
      have hg : w1.heap.size ≤ g := by
        rcases hor with h | h
        · exact HGB.out g h
        · have := HB1.out.size; first | omega | (simp at h; omega)
      have HR6 := hide R6
      have HE6 : Hid (w6.ownsRow 0 113 2 (.slice (some ⟨g, 0, none⟩) (k + 1) cap) (k + 1) (ldCells (S.srv.take (k + 1)))) := hide (by
        rw [List.take_succ_eq_append_getElem (by rw [HLL.out]; exact hlt), HLK.out, ldCells_app, show ldCells [(⟨s, q⟩ : Ld)] = [.int .i64 s, .int .i64 q] from rfl]
        exact hown6)
      clear hown6 hch6 hor q6 R6 g0 hlk c0
      go_wp2
      go_roundw
      case rel => exact ⟨k + 1, some ⟨g, 0, none⟩, cap, by omega, by go_num, rfl, HE6.out, fun x hx => by cases hx; exact hg, HR6.out⟩
      case measure => simp [intOf]; omega
    · have e : k = S.sv.length := by omega
      subst e
      have HE : Hid (S.srv.take S.sv.length = S.srv) := hide (by rw [← HLL.out, List.take_length])
      clear hown hgb hb
      rw [HE.out] at HOW
      go_wp2
      go_ret
      exact ⟨A2, c2, rfl, HOW.out, fun g hg => Nat.le_trans HB.out.size (HGB.out g hg), HB.out.trans (HB1.out.mono HB.out.size)⟩
theorem VS.servers {w : World} {b n : Nat} {S : Vst} (h : VS w b S n) (hn : n ≤ 1001) : Calls Tryz.prog 47 #[.pointer (some ⟨b, 0, none⟩)] w fun e w' => ∃ A c, e = .returned (.slice A S.sv.length c) ∧ Reads w' w'.heap.size 2 A S.sv.length (ldCells S.srv) ∧
    (∀ g, A.map Addr.block = some g → w.heap.size ≤ g) ∧ Below w.heap.size w w' := by
  have hl := h.1.lens hn
  obtain ⟨h0, no, m1, m2, m3, V, C, h⟩ := h
  refine (vservers_calls w no b m1 m2 m3 S V C h (by omega)).mono fun e w' ⟨A, c, he, ho, hg, hb⟩ => ⟨A, c, he, ?_, hg, hb⟩
  obtain ⟨A2, c2, e2, h1, h2, h3, h4, h5⟩ := own_view ho
  cases e2
  exact h5 _ (fun g hg => own_lt ho hg)
def cmdCells (al : List Cmd) : List Value := al.flatMap Cmd.cells
theorem cmdCells_length (al : List Cmd) : (cmdCells al).length = al.length * 8 := by
  induction al with
  | nil => rfl
  | cons x q ih =>
    rw [show cmdCells (x :: q) = x.cells ++ cmdCells q from rfl, List.length_append, ih, List.length_cons, Nat.add_mul]
    simp [Cmd.cells]
    omega
theorem cmdCells_get (al : List Cmd) (k j : Nat) (hk : k < al.length) (hj : j < 8) : (cmdCells al)[k * 8 + j]? = al[k].cells[j]? := by
  induction al generalizing k with
  | nil => simp at hk
  | cons x q ih =>
    rw [show cmdCells (x :: q) = x.cells ++ cmdCells q from rfl]
    have hx : x.cells.length = 8 := rfl
    cases k with
    | zero =>
      rw [Nat.zero_mul, Nat.zero_add, List.getElem?_append_left (by rw [hx]; exact hj)]
      rfl
    | succ k =>
      rw [List.getElem?_append_right (by rw [hx]; omega), hx, show (k + 1) * 8 + j - 8 = k * 8 + j by omega]
      exact ih k (by simpa using hk)
section
variable {H : Type} {enc : TypeId × Value → H} {W : World} {base : Nat} {spare : Nat → Bool} {held : Bool}
set_option maxRecDepth 100000 in
theorem allPol18 : AllInt enc Tryz.prog W base spare held 66 4 := by
  refine AllInt.struct Tryz.underlying66 fun j hj => ?_
  match j, hj with
  | 0, _ => exact ⟨0, 1, _, rfl, by decide, by decide, by kernel_rfl, AllInt.int Tryz.underlying3⟩
  | 1, _ => exact ⟨1, 1, _, rfl, by decide, by decide, by kernel_rfl, AllInt.int Tryz.underlying3⟩
  | 2, _ => exact ⟨2, 1, _, rfl, by decide, by decide, by kernel_rfl, AllInt.int Tryz.underlying3⟩
  | 3, _ => exact ⟨3, 1, _, rfl, by decide, by decide, by kernel_rfl, AllInt.int Tryz.underlying3⟩
set_option maxRecDepth 100000 in
theorem allCmd : AllInt enc Tryz.prog W base spare held 68 8 := by
  refine AllInt.struct Tryz.underlying68 fun j hj => ?_
  match j, hj with
  | 0, _ => exact ⟨0, 1, _, rfl, by decide, by decide, by kernel_rfl, AllInt.int Tryz.underlying3⟩
  | 1, _ => exact ⟨1, 1, _, rfl, by decide, by decide, by kernel_rfl, AllInt.int Tryz.underlying3⟩
  | 2, _ => exact ⟨2, 1, _, rfl, by decide, by decide, by kernel_rfl, AllInt.int Tryz.underlying3⟩
  | 3, _ => exact ⟨3, 1, _, rfl, by decide, by decide, by kernel_rfl, AllInt.int Tryz.underlying3⟩
  | 4, _ => exact ⟨4, 4, _, rfl, by decide, by decide, by kernel_rfl, allPol18⟩
  | 5, _ => exact ⟨4, 4, _, rfl, by decide, by decide, by kernel_rfl, allPol18⟩
  | 6, _ => exact ⟨4, 4, _, rfl, by decide, by decide, by kernel_rfl, allPol18⟩
  | 7, _ => exact ⟨4, 4, _, rfl, by decide, by decide, by kernel_rfl, allPol18⟩
end
/-- a command of a greater volume than is looked at -/
def bigC (c : Cmd) : Bool := (c.k == 2 || c.k == 4) && (decide (40 < c.b) && decide (c.b ≤ 512))
def great (l : List Cmd) : Bool := (l.take 30).any bigC || decide (30 < l.length)
theorem great_yes {l : List Cmd} {k : Nat} (hk : k < l.length) (h30 : k < 30) (h : bigC l[k] = true) : great l = true := by
  unfold great
  rw [Bool.or_eq_true]
  refine Or.inl (List.any_eq_true.2 ⟨l[k], ?_, h⟩)
  rw [List.mem_take_iff_getElem]
  exact ⟨k, by omega, rfl⟩
theorem great_end {l : List Cmd} {k : Nat} (hk : k ≤ l.length) (he : k = l.length ∨ 30 ≤ k) (h : ∀ j (hj : j < l.length), j < k → bigC l[j] = false) : great l = decide (30 < l.length) := by
  unfold great
  have : (l.take 30).any bigC = false := by
    rw [List.any_eq_false]
    intro x hx
    obtain ⟨j, hj, rfl⟩ := List.mem_take_iff_getElem.1 hx
    rw [h j (by omega) (by omega)]
    simp
  rw [this]
  rfl
end Go.Proofs.YtanfdnpnkdiiiaaGreat
