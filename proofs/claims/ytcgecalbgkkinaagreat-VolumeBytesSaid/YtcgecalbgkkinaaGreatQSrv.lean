/- One text of: Srv. -/
import Derived.Test.YtcgecalbgkkinaaGreatQGrw
import Derived.Test.YtcgecalbgkkinaaGreatQOpenG
import Derived.Test.YtcgecalbgkkinaaGreatQOpenP
namespace Go.Proofs.YtcgecalbgkkinaaGreat
open Go.ChangeShapes Go.WideShapes Go.ChangeAt Go.RowKit Go.Joins Go.Deep Go.Maps
set_option linter.unusedVariables false
set_option linter.unusedSimpArgs false

/-- what State.Servers shows -/
def Vst.srv (S : Vst) : List Ld := S.sv.map fun x => ⟨x.1, x.2⟩
set_option maxHeartbeats 4000000 in
set_option maxRecDepth 100000 in
theorem vservers_calls (w : World) (no : List Nat) (b m1 m2 m3 : Nat) (S : Vst) (V : List VoM) (C : List CkM) (h : VM w no b m1 m2 m3 S V C) (hsv : S.sv.length ≤ 1000000) :
    Calls Tryz.prog 28 #[.pointer (some ⟨b, 0, none⟩)] w fun e w' => ∃ A c, e = .returned (.slice A S.sv.length c) ∧ w'.ownsRow 0 76 2 (.slice A S.sv.length c) S.sv.length (ldCells S.srv) ∧
      (∀ g, A.map Addr.block = some g → w.heap.size ≤ g) ∧ Below w.heap.size w w' := by
  obtain ⟨i0, hi, hz0, hz1, hz2⟩ := info_parts Tryz.infoLd
  have c0 : w.cell? ⟨b, 0, none⟩ = some (.map (some m1)) := h.blk.cell 0
  have hb0 := (Below.refl w.heap.size w).alloc (Nat.le_refl _) (.cells #[.map (some m1)] 60)
  have hcell : (w.alloc (.cells #[.map (some m1)] 60)).cell? ⟨w.heap.size, 0, none⟩ = some (.map (some m1)) := (Blk.new (cs := [.map (some m1)]) rfl).cell 0
  have hS := hide (sortedInt_calls w.heap.size (w.alloc (.cells #[.map (some m1)] 60)) hcell (by simp) (h.t1.below hb0) hsv)
  have H := hide h
  clear h hcell
  go_enter Tryz.func28, Tryz.ntmps28
  go_wp2_with fail
  refine (keysInt_calls _ _).mono ?_
  rintro e w1 ⟨rfl, rfl⟩
  go_wp2_with fail
  refine hS.out.mono ?_
  rintro e w1 ⟨A, c, rfl, ho, hb1⟩
  have HB := hide (hb0.trans (hb1.mono hb0.size))
  have H1 := hide (H.out.below HB.out)
  obtain ⟨A', c', e', _, _, _, _, hrd⟩ := own_view ho.1
  cases e'
  have hr := hide (hrd w1.heap.size (fun g hg => own_lt ho.1 hg))
  have hll : S.srv.length = S.sv.length := by unfold Vst.srv; rw [List.length_map]
  have HLL := hide hll
  clear hS H ho hb0 hb1 hrd c0 hll
  go_wp2_with fail
  go_loopw [3, 5, 13, 14, 15, 16, 17, 18, 19, 20, 21, 22, 23, 24, 25, 26, 27, 28] (fun v _ i _ _ _ _ _ _ _ _ _ _ _ _ _ _ _ wr => ∃ (k : Nat) (A2 : Option Addr) (c2 : Nat), k ≤ S.sv.length ∧ i = .int .i64 k ∧ v = .slice A2 k c2 ∧ wr.ownsRow 0 76 2 v k (ldCells (S.srv.take k)) ∧ (∀ g, A2.map Addr.block = some g → w1.heap.size ≤ g) ∧ Below w1.heap.size w1 wr) (fun _ _ i _ _ _ _ _ _ _ _ _ _ _ _ _ _ _ _ => S.sv.length - (intOf i).toNat)
  case atStart => exact ⟨0, none, 0, Nat.zero_le _, rfl, rfl, World.ownsRow_nil _ _ _ _, (fun g hg => by cases hg), Below.refl _ _⟩
  case round =>
    obtain ⟨k, A2, c2, hk, rfl, rfl, hown, hgb, hb⟩ := hrel
    have HB1 := hide hb
    have HOW := hide hown
    have HGB := hide hgb
    by_cases hlt : k < S.sv.length
    · obtain ⟨bA, oA, rfl, hbA, hcell⟩ := hr.out.at_ (by simp; omega)
      have g0 : wr.cell? ⟨bA, oA + k, none⟩ = some (.int .i64 S.sv[k].1) := (hb.cell (p := ⟨bA, oA + k, none⟩) hbA).trans (hcell k _ (by simp [hlt]))
      have i1 : (k : Int) < S.sv.length := by omega
      have hLk : S.srv[k]'(by rw [HLL.out]; exact hlt) = ⟨S.sv[k].1, S.sv[k].2⟩ := by simp [Vst.srv]
      have c0 : wr.cell? ⟨b, 0, none⟩ = some (.map (some m1)) := (H1.out.below HB1.out).blk.cell 0
      have hok : i64ok S.sv[k].1 := H1.out.t1.ok _ (List.getElem_mem hlt)
      have hlk := (H1.out.below HB1.out).t1.look (mt := 60) hok Tryz.underlying60 (z := .int .i64 0) (by simp [Tryz.zeroValue3])
      have hfd : fd Prod.fst S.sv S.sv[k].1 = some S.sv[k] := fd_get H1.out.t1.rise hlt
      rw [hfd] at hlk
      simp only [Option.map_some, Option.getD_some, svVal] at hlk
      obtain ⟨⟨s, q⟩, hs⟩ : ∃ s, S.sv[k] = s := ⟨_, rfl⟩
      simp only [hs] at g0 hLk hlk
      have HLK := hide hLk
      have HRE := hide hr.out
      have HQ := hide (own_chg HOW.out (Chg.of_below (L := []) ((Below.refl wr.heap.size wr).alloc (Nat.le_refl _) (.cells #[.int .i64 s, .int .i64 q] 76))) (fun _ _ hx => by cases hx))
      clear hcell hr hs hLk hb hown hgb hfd hok
      go_wp2_with (at_builtin; refine app_law rfl _ _ 71 rfl 76 i0 _ 2 16 Tryz.underlying71 hi hz0 hz1 hz2 rfl (by decide) _ _ _ rfl HQ.out wr.heap.size 1 1 [.int .i64 s, .int .i64 q] rfl (Blk.new rfl) rfl ?c1 (by decide) ?c3 ?c4 ?_)
      case c1 => intro u hu; simp at hu; rcases hu with rfl | rfl <;> rfl
      case c3 => unfold maxLen; omega
      case c4 => omega
      intro g cap w6 hown6 hch6 hor hg6
      have q6 := HB1.out.alloc HB1.out.size (.cells #[.int .i64 s, .int .i64 q] 76)
      rw [owS] at hch6 hor
      have R6 := Chg.onto q6 q6.size hch6 (fun x hx => HGB.out x (by simpa using hx))
      have hg : w1.heap.size ≤ g := by
        rcases hor with h | h
        · exact HGB.out g h
        · have := HB1.out.size; first | omega | (simp at h; omega)
      have HR6 := hide R6
      have HE6 : Hid (w6.ownsRow 0 76 2 (.slice (some ⟨g, 0, none⟩) (k + 1) cap) (k + 1) (ldCells (S.srv.take (k + 1)))) := hide (by
        rw [List.take_succ_eq_append_getElem (by rw [HLL.out]; exact hlt), HLK.out, ldCells_app, show ldCells [(⟨s, q⟩ : Ld)] = [.int .i64 s, .int .i64 q] from rfl]
        exact hown6)
      clear hown6 hch6 hor q6 R6 g0 hlk c0
      go_wp2
      go_roundw
      case rel => exact ⟨k + 1, some ⟨g, 0, none⟩, cap, by omega, by go_num, rfl, HE6.out, fun x hx => by cases hx; exact hg, HR6.out⟩
      case measure => simp [intOf]; omega
    · have e : k = S.sv.length := by omega
      subst e
      have HE : Hid (S.srv.take S.sv.length = S.srv) := hide (by rw [← HLL.out, List.take_length])
      clear hown hgb hb
      rw [HE.out] at HOW
      go_wp2
      go_ret
      exact ⟨A2, c2, rfl, HOW.out, fun g hg => Nat.le_trans HB.out.size (HGB.out g hg), HB.out.trans (HB1.out.mono HB.out.size)⟩
theorem VS.servers {w : World} {b n : Nat} {S : Vst} (h : VS w b S n) (hn : n ≤ 1001) : Calls Tryz.prog 28 #[.pointer (some ⟨b, 0, none⟩)] w fun e w' => ∃ A c, e = .returned (.slice A S.sv.length c) ∧ Reads w' w'.heap.size 2 A S.sv.length (ldCells S.srv) ∧
    (∀ g, A.map Addr.block = some g → w.heap.size ≤ g) ∧ Below w.heap.size w w' := by
  have hl := h.1.lens hn
  obtain ⟨h0, no, m1, m2, m3, V, C, h⟩ := h
  refine (vservers_calls w no b m1 m2 m3 S V C h (by omega)).mono fun e w' ⟨A, c, he, ho, hg, hb⟩ => ⟨A, c, he, ?_, hg, hb⟩
  obtain ⟨A2, c2, e2, h1, h2, h3, h4, h5⟩ := own_view ho
  cases e2
  exact h5 _ (fun g hg => own_lt ho hg)
set_option maxHeartbeats 1000000 in
theorem has15_calls (A : Option Addr) (n c : Nat) (l : List Int) (s : Int) (w : World) (hn : l.length = n) (hnn : n ≤ 1099511627776) (h : Reads w w.heap.size 1 A n (l.map (Value.int .i64))) :
    Calls Tryz.prog 81 #[.slice A n c, .int .i64 s] w fun e w' => e = .returned (.bool (l.contains s)) ∧ ∃ q, w' = w.drewN q := by
  go_enter Tryz.func81, Tryz.ntmps81
  go_wp2
  go_loopw [5, 6, 7, 8, 9, 10, 11, 12, 13, 14, 15, 16, 17] (fun i _ _ _ _ _ _ _ _ _ _ _ _ wr => ∃ k q : Nat, k ≤ n ∧ i = .int .i64 k ∧ wr = w.drewN q ∧ ∀ j (hj : j < l.length), j < k → l[j] ≠ s) (fun i _ _ _ _ _ _ _ _ _ _ _ _ _ => n - (intOf i).toNat)
  case atStart => exact ⟨0, 0, Nat.zero_le _, rfl, rfl, fun j _ hj => by omega⟩
  case round =>
    obtain ⟨k, q, hk, rfl, rfl, hno⟩ := hrel
    have HNO := hide hno
    clear hno
    by_cases hlt : k < n
    · obtain ⟨b, o, rfl, _, hc⟩ := h.at_ (by omega)
      have hkx : k < l.length := by omega
      have g := hc k (.int .i64 l[k]) (by simp [hkx])
      have i1 : (k : Int) < n := by omega
      obtain ⟨x, hx⟩ : ∃ x, l[k] = x := ⟨_, rfl⟩
      rw [hx] at g
      have HX := hide hx
      have HN := hide hn
      have HH := hide h
      clear hc hx h hn
      by_cases hs : x = s
      · have hs' : (x == s) = true := by simp [hs]
        have HS := hide hs
        clear hs
        go_wp2
        go_ret
        have hm : s ∈ l := by rw [← HS.out, ← HX.out]; exact List.getElem_mem _
        exact ⟨ret_bool (by simp [hm]), q, rfl⟩
      · have hs' : (x == s) = false := by simp [hs]
        have HS := hide hs
        clear hs
        go_wp2
        go_roundw
        case rel =>
          refine ⟨k + 1, q, by omega, by go_num, rfl, fun j hj hjk => ?_⟩
          rcases Nat.lt_or_ge j k with h1 | h1
          · exact HNO.out j hj h1
          · obtain rfl : j = k := by omega
            rw [HX.out]
            exact HS.out
        case measure => simp [intOf]; omega
    · have e : k = n := by omega
      subst e
      have HN := hide hn
      clear hn h
      go_wp2
      go_ret
      have hm : s ∉ l := fun hs => by
        obtain ⟨j, hj, e⟩ := List.getElem_of_mem hs
        exact HNO.out j hj (by rw [← HN.out]; exact hj) e
      exact ⟨ret_bool (by simp [hm]), q, rfl⟩
def cmdCells (al : List Cmd) : List Value := al.flatMap Cmd.cells
theorem cmdCells_length (al : List Cmd) : (cmdCells al).length = al.length * 8 := by
  induction al with
  | nil => rfl
  | cons x q ih =>
    rw [show cmdCells (x :: q) = x.cells ++ cmdCells q from rfl, List.length_append, ih, List.length_cons, Nat.add_mul]
    simp [Cmd.cells]
    omega
theorem cmdCells_get (al : List Cmd) (k j : Nat) (hk : k < al.length) (hj : j < 8) : (cmdCells al)[k * 8 + j]? = al[k].cells[j]? := by
  induction al generalizing k with
  | nil => simp at hk
  | cons x q ih =>
    rw [show cmdCells (x :: q) = x.cells ++ cmdCells q from rfl]
    have hx : x.cells.length = 8 := rfl
    cases k with
    | zero =>
      rw [Nat.zero_mul, Nat.zero_add, List.getElem?_append_left (by rw [hx]; exact hj)]
      rfl
    | succ k =>
      rw [List.getElem?_append_right (by rw [hx]; omega), hx, show (k + 1) * 8 + j - 8 = k * 8 + j by omega]
      exact ih k (by simpa using hk)
section
variable {H : Type} {enc : TypeId × Value → H} {W : World} {base : Nat} {spare : Nat → Bool} {held : Bool}
set_option maxRecDepth 100000 in
theorem allPol18 : AllInt enc Tryz.prog W base spare held 36 4 := by
  refine AllInt.struct Tryz.underlying36 fun j hj => ?_
  match j, hj with
  | 0, _ => exact ⟨0, 1, _, rfl, by decide, by decide, by kernel_rfl, AllInt.int Tryz.underlying3⟩
  | 1, _ => exact ⟨1, 1, _, rfl, by decide, by decide, by kernel_rfl, AllInt.int Tryz.underlying3⟩
  | 2, _ => exact ⟨2, 1, _, rfl, by decide, by decide, by kernel_rfl, AllInt.int Tryz.underlying3⟩
  | 3, _ => exact ⟨3, 1, _, rfl, by decide, by decide, by kernel_rfl, AllInt.int Tryz.underlying3⟩
set_option maxRecDepth 100000 in
theorem allCmd : AllInt enc Tryz.prog W base spare held 38 8 := by
  refine AllInt.struct Tryz.underlying38 fun j hj => ?_
  match j, hj with
  | 0, _ => exact ⟨0, 1, _, rfl, by decide, by decide, by kernel_rfl, AllInt.int Tryz.underlying3⟩
  | 1, _ => exact ⟨1, 1, _, rfl, by decide, by decide, by kernel_rfl, AllInt.int Tryz.underlying3⟩
  | 2, _ => exact ⟨2, 1, _, rfl, by decide, by decide, by kernel_rfl, AllInt.int Tryz.underlying3⟩
  | 3, _ => exact ⟨3, 1, _, rfl, by decide, by decide, by kernel_rfl, AllInt.int Tryz.underlying3⟩
  | 4, _ => exact ⟨4, 4, _, rfl, by decide, by decide, by kernel_rfl, allPol18⟩
  | 5, _ => exact ⟨4, 4, _, rfl, by decide, by decide, by kernel_rfl, allPol18⟩
  | 6, _ => exact ⟨4, 4, _, rfl, by decide, by decide, by kernel_rfl, allPol18⟩
  | 7, _ => exact ⟨4, 4, _, rfl, by decide, by decide, by kernel_rfl, allPol18⟩
end
set_option maxRecDepth 100000 in
theorem open_cmds {H : Type} {enc : TypeId × Value → H} {W : World} {base : Nat} {v : Value} {d : DataW H} {p : List MemPlace}
    (ok : Value.okWide Tryz.prog W .any base 22 v) (h : DataW.Trod enc Tryz.prog W 0 (fun _ => true) true 22 v d p) :
    ∃ (A : Option Addr) (c : Nat) (al : List Cmd), v = .slice A al.length c ∧ al.length ≤ c ∧ c ≤ maxLen ∧ (∀ a ∈ al, a.ok) ∧ Reads W W.heap.size 8 A al.length (cmdCells al) := by
  obtain ⟨A, n, c, g, rfl, hn, hcm, hg, hr⟩ := open_rowsG 8 Tryz.underlying22 (by kernel_rfl) (by decide) allCmd ok h
  refine ⟨A, c, (List.range n).map fun i => ⟨g i 0, g i 1, g i 2, g i 3, ⟨g i 4, g i 5, g i 6, g i 7⟩⟩, by simp, by simpa using hn, hcm, fun a ha => ?_, ?_⟩
  · obtain ⟨i, hi, rfl⟩ := List.mem_map.1 ha
    have hin : i < n := by simpa using hi
    exact ⟨hg i 0 hin (by decide), hg i 1 hin (by decide), hg i 2 hin (by decide), hg i 3 hin (by decide)⟩
  have hlen : ((List.range n).map fun i => (⟨g i 0, g i 1, g i 2, g i 3, ⟨g i 4, g i 5, g i 6, g i 7⟩⟩ : Cmd)).length = n := by simp
  rw [hlen]
  refine ⟨by rw [cmdCells_length, hlen], fun hn0 => ?_⟩
  obtain ⟨b, o, rfl, hb, hc⟩ := hr hn0
  refine ⟨b, o, rfl, hb, fun q u hu => ?_⟩
  have hq : q < n * 8 := by
    have h1 := (List.getElem?_eq_some_iff.1 hu).1
    rw [cmdCells_length, hlen] at h1
    exact h1
  have e : q = q / 8 * 8 + q % 8 := by omega
  have hi : q / 8 < n := by omega
  have hj : q % 8 < 8 := by omega
  rw [e, cmdCells_get _ _ _ (by rw [hlen]; exact hi) hj] at hu
  have hc' := hc (q / 8) (q % 8) hi hj
  rw [e]
  generalize q / 8 = i at *
  generalize q % 8 = j at *
  rw [hc']
  rw [List.getElem_map, List.getElem_range] at hu
  match j, hj with
  | 0, _ => exact hu
  | 1, _ => exact hu
  | 2, _ => exact hu
  | 3, _ => exact hu
  | 4, _ => exact hu
  | 5, _ => exact hu
  | 6, _ => exact hu
  | 7, _ => exact hu
/-- a command of a greater volume than is looked at -/
def bigC (c : Cmd) : Bool := (c.k == 2 || c.k == 4) && (decide (40 < c.b) && decide (c.b ≤ 512))
def great (l : List Cmd) : Bool := (l.take 30).any bigC || decide (30 < l.length)
theorem great_yes {l : List Cmd} {k : Nat} (hk : k < l.length) (h30 : k < 30) (h : bigC l[k] = true) : great l = true := by
  unfold great
  rw [Bool.or_eq_true]
  refine Or.inl (List.any_eq_true.2 ⟨l[k], ?_, h⟩)
  rw [List.mem_take_iff_getElem]
  exact ⟨k, by omega, rfl⟩
theorem great_end {l : List Cmd} {k : Nat} (hk : k ≤ l.length) (he : k = l.length ∨ 30 ≤ k) (h : ∀ j (hj : j < l.length), j < k → bigC l[j] = false) : great l = decide (30 < l.length) := by
  unfold great
  have : (l.take 30).any bigC = false := by
    rw [List.any_eq_false]
    intro x hx
    obtain ⟨j, hj, rfl⟩ := List.mem_take_iff_getElem.1 hx
    rw [h j (by omega) (by omega)]
    simp
  rw [this]
  rfl
set_option maxHeartbeats 4000000 in
set_option maxRecDepth 100000 in
theorem great_calls (A : Option Addr) (c : Nat) (l : List Cmd) (w : World) (hl : l.length ≤ 9223372036854775807) (h : Reads w w.heap.size 8 A l.length (cmdCells l)) :
    Calls Tryz.prog 6 #[.slice A l.length c] w fun e w' => e = .returned (.bool (great l)) ∧ Below w.heap.size w w' := by
  have HR := hide h
  clear h
  go_enter Tryz.func6, Tryz.ntmps6
  go_wp2
  go_loopw [3, 4, 5, 6, 7, 8, 9, 10, 11, 12, 13, 14, 15, 16, 17, 18, 19, 20, 21, 22, 23, 24, 25, 26, 27, 28, 29, 30, 31, 32, 33, 34, 35, 36, 37, 38, 39, 40, 41, 42, 43] (fun i _ _ _ _ _ _ _ _ _ _ _ _ _ _ _ _ _ _ _ _ _ _ _ _ _ _ _ _ _ _ _ _ _ _ _ _ _ _ _ _ wr => ∃ k : Nat, k ≤ l.length ∧ i = .int .i64 k ∧ Below w.heap.size w wr ∧ ∀ j (hj : j < l.length), j < k → bigC l[j] = false) (fun i _ _ _ _ _ _ _ _ _ _ _ _ _ _ _ _ _ _ _ _ _ _ _ _ _ _ _ _ _ _ _ _ _ _ _ _ _ _ _ _ _ => l.length - (intOf i).toNat)
  case atStart => exact ⟨0, Nat.zero_le _, rfl, Below.refl _ _, fun j _ hj => by omega⟩
  case round =>
    obtain ⟨k, hk, rfl, hb, hno⟩ := hrel
    have HNO := hide hno
    have HB := hide hb
    clear hno
    by_cases hlt : k < l.length
    · have i1 : (k : Int) < l.length := by omega
      by_cases h30 : k < 30
      · have i2 : (k : Int) < 30 := by omega
        obtain ⟨bA, oA, rfl, hbA, hcell⟩ := HR.out.2 (by omega)
        obtain ⟨⟨k0, a0, b0, c0, ⟨q0, q1, q2, q3⟩⟩, hx⟩ : ∃ x, l[k] = x := ⟨_, rfl⟩
        have e0 := cmdCells_get l k 0 hlt (by omega)
        have e2 := cmdCells_get l k 2 hlt (by omega)
        simp only [hx, Cmd.cells, List.getElem?_cons_succ, List.getElem?_cons_zero, Nat.add_zero] at e0 e2
        have g0 : wr.cell? ⟨bA, oA + k * 8, none⟩ = some (.int .i64 k0) := (hb.cell (p := ⟨bA, oA + k * 8, none⟩) hbA).trans (hcell _ _ e0)
        have g2 : wr.cell? ⟨bA, oA + k * 8 + 2, none⟩ = some (.int .i64 b0) := (hb.cell (p := ⟨bA, oA + k * 8 + 2, none⟩) hbA).trans (by rw [Nat.add_assoc]; exact hcell _ _ e2)
        have HX := hide hx
        have HLT := hide hlt
        have H30 := hide h30
        clear hx e0 e2 hcell hb HR
        by_cases k2 : k0 = 2
        · have j2 : (k0 == 2) = true := by simp [k2]
          by_cases b40 : 40 < b0
          · by_cases b512 : b0 ≤ 512
            · skip
              go_wp2
              go_ret
              exact ⟨ret_bool (great_yes HLT.out H30.out (by rw [HX.out]; simp [bigC, *])).symm, HB.out⟩
            · skip
              have HBC : Hid (bigC ⟨k0, a0, b0, c0, ⟨q0, q1, q2, q3⟩⟩ = false) := hide (by simp [bigC, *])
              go_wp2
              go_roundw
              case rel => exact ⟨k + 1, by omega, by go_num, HB.out, fun j hj hjk => by
                rcases Nat.lt_or_ge j k with h1 | h1
                · exact HNO.out j hj h1
                · obtain rfl : j = k := by omega
                  rw [HX.out]
                  exact HBC.out⟩
              case measure => simp [intOf]; omega
          · skip
            have HBC : Hid (bigC ⟨k0, a0, b0, c0, ⟨q0, q1, q2, q3⟩⟩ = false) := hide (by simp [bigC, *])
            go_wp2
            go_roundw
            case rel => exact ⟨k + 1, by omega, by go_num, HB.out, fun j hj hjk => by
              rcases Nat.lt_or_ge j k with h1 | h1
              · exact HNO.out j hj h1
              · obtain rfl : j = k := by omega
                rw [HX.out]
                exact HBC.out⟩
            case measure => simp [intOf]; omega
        · have j2 : (k0 == 2) = false := by simp [k2]
          by_cases k4 : k0 = 4
          · have j4 : (k0 == 4) = true := by simp [k4]
            by_cases b40 : 40 < b0
            · by_cases b512 : b0 ≤ 512
              · skip
                go_wp2
                go_ret
                exact ⟨ret_bool (great_yes HLT.out H30.out (by rw [HX.out]; simp [bigC, *])).symm, HB.out⟩
              · skip
                have HBC : Hid (bigC ⟨k0, a0, b0, c0, ⟨q0, q1, q2, q3⟩⟩ = false) := hide (by simp [bigC, *])
                go_wp2
                go_roundw
                case rel => exact ⟨k + 1, by omega, by go_num, HB.out, fun j hj hjk => by
                  rcases Nat.lt_or_ge j k with h1 | h1
                  · exact HNO.out j hj h1
                  · obtain rfl : j = k := by omega
                    rw [HX.out]
                    exact HBC.out⟩
                case measure => simp [intOf]; omega
            · skip
              have HBC : Hid (bigC ⟨k0, a0, b0, c0, ⟨q0, q1, q2, q3⟩⟩ = false) := hide (by simp [bigC, *])
              go_wp2
              go_roundw
              case rel => exact ⟨k + 1, by omega, by go_num, HB.out, fun j hj hjk => by
                rcases Nat.lt_or_ge j k with h1 | h1
                · exact HNO.out j hj h1
                · obtain rfl : j = k := by omega
                  rw [HX.out]
                  exact HBC.out⟩
              case measure => simp [intOf]; omega
          · have j4 : (k0 == 4) = false := by simp [k4]
            have HBC : Hid (bigC ⟨k0, a0, b0, c0, ⟨q0, q1, q2, q3⟩⟩ = false) := hide (by simp [bigC, *])
            go_wp2
            go_roundw
            case rel => exact ⟨k + 1, by omega, by go_num, HB.out, fun j hj hjk => by
              rcases Nat.lt_or_ge j k with h1 | h1
              · exact HNO.out j hj h1
              · obtain rfl : j = k := by omega
                rw [HX.out]
                exact HBC.out⟩
            case measure => simp [intOf]; omega
      · have i2 : ¬ ((k : Int) < 30) := by omega
        have HE := hide (great_end hk (Or.inr (by omega)) HNO.out)
        go_wp2
        go_ret
        exact ⟨ret_bool (by rw [HE.out]; simp [decide_eq_decide]; omega), HB.out⟩
    · have i1 : ¬ ((k : Int) < l.length) := by omega
      have HE := hide (great_end hk (Or.inl (by omega)) HNO.out)
      go_wp2
      go_ret
      exact ⟨ret_bool (by rw [HE.out]; simp [decide_eq_decide]; omega), HB.out⟩
end Go.Proofs.YtcgecalbgkkinaaGreat
