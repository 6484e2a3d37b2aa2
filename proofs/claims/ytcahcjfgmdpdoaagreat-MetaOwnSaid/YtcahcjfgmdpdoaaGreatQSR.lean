/- One text of: Sm Grw Srv. -/
import Derived.Test.YtcahcjfgmdpdoaaGreatQVG
import Derived.Test.YtcahcjfgmdpdoaaGreatQP0
import Derived.Test.YtcahcjfgmdpdoaaGreatQRG
import Derived.Test.YtcahcjfgmdpdoaaGreatQOP
set_option maxHeartbeats 4000000
set_option maxRecDepth 100000
namespace Go.Proofs.YtcahcjfgmdpdoaaGreat
open Go.RowKit Go.Proofs Go.Maps
set_option linter.unusedVariables false
set_option linter.unusedSimpArgs false

theorem run_eqI (n : Nat) (x y : Int) (w : World) : (Op.equalIn (n + 1) 3 (.int .i64 x) (.int .i64 y)).run Tryz.prog w = .ok (x == y) w := by
 simp [Op.equalIn, run_underlying Tryz.underlying3]
theorem polStood : Tryz.prog.stoodInHeld 33 = false := by kernel_rfl
theorem run_eqPolIn (n : Nat) (a b c d a' b' c' d' : Int) (w : World) : (Op.equalIn (n + 2) 33 (.agg #[.int .i64 a, .int .i64 b, .int .i64 c, .int .i64 d]) (.agg #[.int .i64 a', .int .i64 b', .int .i64 c', .int .i64 d'])).run Tryz.prog w = .ok (a == a' && (b == b' && (c == c' && d == d'))) w := by
 have h := run_eqI n; have hp := polStood; unfold Op.equalIn
 simp [run_underlying Tryz.underlying33, part, go_sem, Tryz.isAgg3, h]
 by_cases e1 : a = a' <;> by_cases e2 : b = b' <;> by_cases e3 : c = c' <;> by_cases e4 : d = d' <;> simp [e1, e2, e3, e4]
structure RdI (w : World) (A : Option Addr) (l : List Int) : Prop where
 rd : Reads w w.heap.size 1 A l.length (l.map (Value.int .i64))
 ln : l.length ≤ 1024
theorem RdI.below {w w' : World} {A : Option Addr} {l : List Int} (h : RdI w A l) (hb : Below w.heap.size w w') : RdI w' A l := ⟨(h.rd.below hb).more hb.size, h.ln⟩
theorem RdI.chg {w w' : World} {A : Option Addr} {l : List Int} {L : List Nat} (h : RdI w A l) (hc : Chg L w w') (hn : ∀ a, A = some a → a.block ∉ L) : RdI w' A l :=
 ⟨⟨h.rd.1, fun h0 => by
  obtain ⟨b, o, e, hb, hcell⟩ := h.rd.2 h0
  exact ⟨b, o, e, Nat.lt_of_lt_of_le hb hc.size, fun j u hu => (hc.cell (p := ⟨b, o + j, none⟩) hb (show b ∉ L from hn ⟨b, o, Option.none⟩ e)).trans (hcell j u hu)⟩⟩, h.ln⟩
theorem MadeI.rdI {w w' : World} {A : Option Addr} {c : Nat} {l : List Int} (h : MadeI w w' A c l) (hl : l.length ≤ 1024) : RdI w' A l := ⟨h.rd, hl⟩
end Go.Proofs.YtcahcjfgmdpdoaaGreat

namespace Go.Proofs.YtcahcjfgmdpdoaaGreat
open Go.RowKit Go.Proofs Go.Maps
set_option linter.unusedVariables false

structure VBox (w : World) (b bx : Nat) (v : Vo) (A : Option Addr) (c : Nat) : Prop where
 blk : Blk w bx 46 (⟨v, A, c⟩ : VoM).cells
 rd : RdI w A v.ch
 nb : bx ≠ b
 na : ∀ a, A = some a → a.block ≠ b
 le : v.ch.length ≤ c
structure CBox (w : World) (b bx : Nat) (k : Ck) (A B : Option Addr) (c d : Nat) : Prop where
 blk : Blk w bx 90 (⟨k, A, c, B, d⟩ : CkM).cells
 ra : RdI w A k.me
 rb : RdI w B k.jo
 nb : bx ≠ b
 na : ∀ a, A = some a → a.block ≠ b
 nb2 : ∀ a, B = some a → a.block ≠ b
section
variable {w w' : World} {b bx : Nat} {v : Vo} {k : Ck} {A B : Option Addr} {c d : Nat}
theorem VBox.below (h : VBox w b bx v A c) (hb : Below w.heap.size w w') : VBox w' b bx v A c := ⟨h.blk.below hb, h.rd.below hb, h.nb, h.na, h.le⟩
theorem VBox.chg (h : VBox w b bx v A c) (hc : Chg [b] w w') : VBox w' b bx v A c := ⟨h.blk.chg hc (by simpa using h.nb), h.rd.chg hc (fun a ha => by simpa using h.na a ha), h.nb, h.na, h.le⟩
theorem CBox.below (h : CBox w b bx k A B c d) (hb : Below w.heap.size w w') : CBox w' b bx k A B c d := ⟨h.blk.below hb, h.ra.below hb, h.rb.below hb, h.nb, h.na, h.nb2⟩
theorem CBox.chg (h : CBox w b bx k A B c d) (hc : Chg [b] w w') : CBox w' b bx k A B c d :=
 ⟨h.blk.chg hc (by simpa using h.nb), h.ra.chg hc (fun a ha => by simpa using h.na a ha), h.rb.chg hc (fun a ha => by simpa using h.nb2 a ha), h.nb, h.na, h.nb2⟩
theorem VolOut.box {e : Ending} {v : Vo} (h : VolOut w w' e (some v)) (hb : b < w.heap.size) : ∃ A c, e = .returned (.tuple #[(⟨v, A, c⟩ : VoM).val, .bool true]) ∧ VBox (w'.alloc (.cells (⟨v, A, c⟩ : VoM).cells.toArray 46)) b w'.heap.size v A c ∧ Below w.heap.size w w' := by
 obtain ⟨y, he, hy, ho, hl, hbw⟩ := h
 have hyv : y.v = v := by
  rcases hy with h | ⟨h, _⟩
  ·injection h with h; exact h.symm
  ·cases h
 obtain ⟨yv, A, c⟩ := y; simp only [] at hyv; subst hyv; have q := (Below.refl w'.heap.size w').alloc (Nat.le_refl _) (.cells (⟨yv, A, c⟩ : VoM).cells.toArray 46)
 exact ⟨A, c, he, ⟨Blk.new rfl, (ho.made.rdI hl).below q, by have := hbw.size; omega, fun a ha => by have := (ho.made.ap a ha).2.1; omega, ho.made.le⟩, hbw⟩
theorem ChOut.box {e : Ending} {k : Ck} (h : ChOut w w' e (some k)) (hb : b < w.heap.size) : ∃ A c B d, e = .returned (.tuple #[(⟨k, A, c, B, d⟩ : CkM).val, .bool true]) ∧ CBox (w'.alloc (.cells (⟨k, A, c, B, d⟩ : CkM).cells.toArray 90)) b w'.heap.size k A B c d ∧ Below w.heap.size w w' := by
 obtain ⟨y, he, hy, hA, hB, hl1, hl2, hbw⟩ := h
 have hyv : y.k = k := by
  rcases hy with h | ⟨h, _⟩
  ·injection h with h; exact h.symm
  ·cases h
 obtain ⟨yv, A, c, B, d⟩ := y; simp only [] at hyv; subst hyv; have q := (Below.refl w'.heap.size w').alloc (Nat.le_refl _) (.cells (⟨yv, A, c, B, d⟩ : CkM).cells.toArray 90)
 exact ⟨A, c, B, d, he, ⟨Blk.new rfl, (hA.rdI hl1).below q, (hB.rdI hl2).below q, by have := hbw.size; omega, fun a ha => by have := (hA.ap a ha).2.1; omega, fun a ha => by have := (hB.ap a ha).2.1; omega⟩, hbw⟩
end
def p1 : Pol := ⟨0, 1, 0, 0⟩
def g3 (k : Nat) : Vst := ⟨[((0 : Int), (9 : Int)), (1, 9), (2, 9)].take k, [], [], 1⟩
structure GS (S : Vst) (bl : Int) (ch : List Int) : Prop where
 sv : S.sv = [((0 : Int), (9 : Int)), (1, 9), (2, 9)]
 vs : S.vs = [⟨7, bl, p1, 1, ch⟩]
 vin : VIn S
theorem GS.len {S : Vst} {bl : Int} {ch : List Int} {N : Nat} (h : GS S bl ch) (ok : VOk S N) : ch.length = ((bl + 7) / 8).toNat := (ok.vsa ⟨7, bl, p1, 1, ch⟩ (by rw [h.vs]; simp)).2.2.2.2.1
end Go.Proofs.YtcahcjfgmdpdoaaGreat

namespace Go.Proofs.YtcahcjfgmdpdoaaGreat
open Go.ChangeShapes Go.WideShapes Go.ChangeAt Go.RowKit Go.Joins Go.Deep Go.Maps
set_option linter.unusedVariables false
set_option linter.unusedSimpArgs false

def Vst.srv (S : Vst) : List Ld := S.sv.map fun x => ⟨x.1, x.2⟩
theorem vservers_calls (w : World) (no : List Nat) (b m1 m2 m3 : Nat) (S : Vst) (V : List VoM) (C : List CkM) (h : VM w no b m1 m2 m3 S V C) (hsv : S.sv.length ≤ 1000000) :
  Calls Tryz.prog 29 #[.pointer (some ⟨b, 0, none⟩)] w fun e w' => ∃ A c, e = .returned (.slice A S.sv.length c) ∧ w'.ownsRow 0 83 2 (.slice A S.sv.length c) S.sv.length (ldCells S.srv) ∧
   (∀ g, A.map Addr.block = some g → w.heap.size ≤ g) ∧ Below w.heap.size w w' := by
 obtain ⟨i0, hi, hz0, hz1, hz2⟩ := info_parts Tryz.infoLd; have c0 : w.cell? ⟨b, 0, none⟩ = some (.map (some m1)) := h.blk.cell 0; have hb0 := (Below.refl w.heap.size w).alloc (Nat.le_refl _) (.cells #[.map (some m1)] 72); have hcell : (w.alloc (.cells #[.map (some m1)] 72)).cell? ⟨w.heap.size, 0, none⟩ = some (.map (some m1)) := (Blk.new (cs := [.map (some m1)]) rfl).cell 0; have hS := hide (sortedInt_calls w.heap.size (w.alloc (.cells #[.map (some m1)] 72)) hcell (by simp) (h.t1.below hb0) hsv); have H := hide h; clear h hcell
 go_enter Tryz.func29, Tryz.ntmps29
 go_wp2_with fail
 refine (keysInt_calls _ _).mono ?_
 rintro e w1 ⟨rfl, rfl⟩; go_wp2_with fail; refine hS.out.mono ?_; rintro e w1 ⟨A, c, rfl, ho, hb1⟩; have HB := hide (hb0.trans (hb1.mono hb0.size)); have H1 := hide (H.out.below HB.out); obtain ⟨A', c', e', _, _, _, _, hrd⟩ := own_view ho.1
 cases e'
 have hr := hide (hrd w1.heap.size (fun g hg => own_lt ho.1 hg))
 have hll : S.srv.length = S.sv.length := by unfold Vst.srv; rw [List.length_map]
 have HLL := hide hll; clear hS H ho hb0 hb1 hrd c0 hll; go_wp2_with fail
 go_loopw [3, 5, 13, 14, 15, 16, 17, 18, 19, 20, 21, 22, 23, 24, 25, 26, 27, 28] (fun v _ i _ _ _ _ _ _ _ _ _ _ _ _ _ _ _ wr => ∃ (k : Nat) (A2 : Option Addr) (c2 : Nat), k ≤ S.sv.length ∧ i = .int .i64 k ∧ v = .slice A2 k c2 ∧ wr.ownsRow 0 83 2 v k (ldCells (S.srv.take k)) ∧ (∀ g, A2.map Addr.block = some g → w1.heap.size ≤ g) ∧ Below w1.heap.size w1 wr) (fun _ _ i _ _ _ _ _ _ _ _ _ _ _ _ _ _ _ _ => S.sv.length - (intOf i).toNat)
 case atStart => exact ⟨0, none, 0, Nat.zero_le _, rfl, rfl, World.ownsRow_nil _ _ _ _, (fun g hg => by cases hg), Below.refl _ _⟩
 case round =>
  obtain ⟨k, A2, c2, hk, rfl, rfl, hown, hgb, hb⟩ := hrel; have HB1 := hide hb; have HOW := hide hown; have HGB := hide hgb
  by_cases hlt : k < S.sv.length
  ·obtain ⟨bA, oA, rfl, hbA, hcell⟩ := hr.out.at_ (by simp; omega)
   have g0 : wr.cell? ⟨bA, oA + k, none⟩ = some (.int .i64 S.sv[k].1) := (hb.cell (p := ⟨bA, oA + k, none⟩) hbA).trans (hcell k _ (by simp [hlt]))
   have i1 : (k : Int) < S.sv.length := by omega
   have hLk : S.srv[k]'(by rw [HLL.out]; exact hlt) = ⟨S.sv[k].1, S.sv[k].2⟩ := by simp [Vst.srv]
   have c0 : wr.cell? ⟨b, 0, none⟩ = some (.map (some m1)) := (H1.out.below HB1.out).blk.cell 0; have hok : i64ok S.sv[k].1 := H1.out.t1.ok _ (List.getElem_mem hlt); have hlk := (H1.out.below HB1.out).t1.look (mt := 72) hok Tryz.underlying72 (z := .int .i64 0) (by simp [Tryz.zeroValue3]); have hfd : fd Prod.fst S.sv S.sv[k].1 = some S.sv[k] := fd_get H1.out.t1.rise hlt; rw [hfd] at hlk; simp only [Option.map_some, Option.getD_some, svVal] at hlk; obtain ⟨⟨s, q⟩, hs⟩ : ∃ s, S.sv[k] = s := ⟨_, rfl⟩; simp only [hs] at g0 hLk hlk; have HLK := hide hLk; have HRE := hide hr.out; have HQ := hide (own_chg HOW.out (Chg.of_below (L := []) ((Below.refl wr.heap.size wr).alloc (Nat.le_refl _) (.cells #[.int .i64 s, .int .i64 q] 83))) (fun _ _ hx => by cases hx)); clear hcell hr hs hLk hb hown hgb hfd hok
   go_wp2_with (at_builtin; refine app_law rfl _ _ 80 rfl 83 i0 _ 2 16 Tryz.underlying80 hi hz0 hz1 hz2 rfl (by decide) _ _ _ rfl HQ.out wr.heap.size 1 1 [.int .i64 s, .int .i64 q] rfl (Blk.new rfl) rfl ?c1 (by decide) ?c3 ?c4 ?_)
   case c1 => intro u hu; simp at hu; rcases hu with rfl | rfl <;> rfl
   case c3 => unfold maxLen; omega
   case c4 => omega
   intro g cap w6 hown6 hch6 hor hg6
   have q6 := HB1.out.alloc HB1.out.size (.cells #[.int .i64 s, .int .i64 q] 83); rw [owS] at hch6 hor; have R6 := Chg.onto q6 q6.size hch6 (fun x hx => HGB.out x (by simpa using hx))
   have hg : w1.heap.size ≤ g := by
    rcases hor with h | h
    ·exact HGB.out g h
    ·have := HB1.out.size; first | omega | (simp at h; omega)
   have HR6 := hide R6
   have HE6 : Hid (w6.ownsRow 0 83 2 (.slice (some ⟨g, 0, none⟩) (k + 1) cap) (k + 1) (ldCells (S.srv.take (k + 1)))) := hide (by
    rw [List.take_succ_eq_append_getElem (by rw [HLL.out]; exact hlt), HLK.out, ldCells_app, show ldCells [(⟨s, q⟩ : Ld)] = [.int .i64 s, .int .i64 q] from rfl]
    exact hown6)
   clear hown6 hch6 hor q6 R6 g0 hlk c0; go_wp2
   go_roundw
   case rel => exact ⟨k + 1, some ⟨g, 0, none⟩, cap, by omega, by go_num, rfl, HE6.out, fun x hx => by cases hx; exact hg, HR6.out⟩
   case measure => simp [intOf]; omega
  ·have e : k = S.sv.length := by omega
   subst e; have HE : Hid (S.srv.take S.sv.length = S.srv) := hide (by rw [← HLL.out, List.take_length]); clear hown hgb hb; rw [HE.out] at HOW; go_wp2; go_ret
   exact ⟨A2, c2, rfl, HOW.out, fun g hg => Nat.le_trans HB.out.size (HGB.out g hg), HB.out.trans (HB1.out.mono HB.out.size)⟩
theorem VS.servers {w : World} {b n : Nat} {S : Vst} (h : VS w b S n) (hn : n ≤ 1001) : Calls Tryz.prog 29 #[.pointer (some ⟨b, 0, none⟩)] w fun e w' => ∃ A c, e = .returned (.slice A S.sv.length c) ∧ Reads w' w'.heap.size 2 A S.sv.length (ldCells S.srv) ∧
  (∀ g, A.map Addr.block = some g → w.heap.size ≤ g) ∧ Below w.heap.size w w' := by
 have hl := h.1.lens hn; obtain ⟨h0, no, m1, m2, m3, V, C, h⟩ := h
 refine (vservers_calls w no b m1 m2 m3 S V C h (by omega)).mono fun e w' ⟨A, c, he, ho, hg, hb⟩ => ⟨A, c, he, ?_, hg, hb⟩
 obtain ⟨A2, c2, e2, h1, h2, h3, h4, h5⟩ := own_view ho
 cases e2
 exact h5 _ (fun g hg => own_lt ho hg)
def cmdCells (al : List Cmd) : List Value := al.flatMap Cmd.cells
theorem cmdCells_length (al : List Cmd) : (cmdCells al).length = al.length * 8 := by
 induction al with
 |nil => rfl
 |cons x q ih =>
  rw [show cmdCells (x :: q) = x.cells ++ cmdCells q from rfl, List.length_append, ih, List.length_cons, Nat.add_mul]
  simp [Cmd.cells]
  omega
theorem cmdCells_get (al : List Cmd) (k j : Nat) (hk : k < al.length) (hj : j < 8) : (cmdCells al)[k * 8 + j]? = al[k].cells[j]? := by
 induction al generalizing k with
 |nil => simp at hk
 |cons x q ih =>
  rw [show cmdCells (x :: q) = x.cells ++ cmdCells q from rfl]; have hx : x.cells.length = 8 := rfl
  cases k with
  |zero =>
   rw [Nat.zero_mul, Nat.zero_add, List.getElem?_append_left (by rw [hx]; exact hj)]
   rfl
  |succ k =>
   rw [List.getElem?_append_right (by rw [hx]; omega), hx, show (k + 1) * 8 + j - 8 = k * 8 + j by omega]
   exact ih k (by simpa using hk)
section
variable {H : Type} {enc : TypeId × Value → H} {W : World} {base : Nat} {spare : Nat → Bool} {held : Bool}
theorem allPol18 : AllInt enc Tryz.prog W base spare held 33 4 := by
 refine AllInt.struct Tryz.underlying33 fun j hj => ?_
 match j, hj with
 |0, _ => exact ⟨0, 1, _, rfl, by decide, by decide, by kernel_rfl, AllInt.int Tryz.underlying3⟩
 |1, _ => exact ⟨1, 1, _, rfl, by decide, by decide, by kernel_rfl, AllInt.int Tryz.underlying3⟩
 |2, _ => exact ⟨2, 1, _, rfl, by decide, by decide, by kernel_rfl, AllInt.int Tryz.underlying3⟩
 |3, _ => exact ⟨3, 1, _, rfl, by decide, by decide, by kernel_rfl, AllInt.int Tryz.underlying3⟩
theorem allCmd : AllInt enc Tryz.prog W base spare held 35 8 := by
 refine AllInt.struct Tryz.underlying35 fun j hj => ?_
 match j, hj with
 |0, _ => exact ⟨0, 1, _, rfl, by decide, by decide, by kernel_rfl, AllInt.int Tryz.underlying3⟩
 |1, _ => exact ⟨1, 1, _, rfl, by decide, by decide, by kernel_rfl, AllInt.int Tryz.underlying3⟩
 |2, _ => exact ⟨2, 1, _, rfl, by decide, by decide, by kernel_rfl, AllInt.int Tryz.underlying3⟩
 |3, _ => exact ⟨3, 1, _, rfl, by decide, by decide, by kernel_rfl, AllInt.int Tryz.underlying3⟩
 |4, _ => exact ⟨4, 4, _, rfl, by decide, by decide, by kernel_rfl, allPol18⟩
 |5, _ => exact ⟨4, 4, _, rfl, by decide, by decide, by kernel_rfl, allPol18⟩
 |6, _ => exact ⟨4, 4, _, rfl, by decide, by decide, by kernel_rfl, allPol18⟩
 |7, _ => exact ⟨4, 4, _, rfl, by decide, by decide, by kernel_rfl, allPol18⟩
end
theorem open_cmds {H : Type} {enc : TypeId × Value → H} {W : World} {base : Nat} {v : Value} {d : DataW H} {p : List MemPlace}
  (ok : Value.okWide Tryz.prog W .any base 22 v) (h : DataW.Trod enc Tryz.prog W 0 (fun _ => true) true 22 v d p) :
  ∃ (A : Option Addr) (c : Nat) (al : List Cmd), v = .slice A al.length c ∧ al.length ≤ c ∧ c ≤ maxLen ∧ (∀ a ∈ al, a.ok) ∧ Reads W W.heap.size 8 A al.length (cmdCells al) := by
 obtain ⟨A, n, c, g, rfl, hn, hcm, hg, hr⟩ := open_rowsG 8 Tryz.underlying22 (by kernel_rfl) (by decide) allCmd ok h
 refine ⟨A, c, (List.range n).map fun i => ⟨g i 0, g i 1, g i 2, g i 3, ⟨g i 4, g i 5, g i 6, g i 7⟩⟩, by simp, by simpa using hn, hcm, fun a ha => ?_, ?_⟩
 ·obtain ⟨i, hi, rfl⟩ := List.mem_map.1 ha
  have hin : i < n := by simpa using hi
  exact ⟨hg i 0 hin (by decide), hg i 1 hin (by decide), hg i 2 hin (by decide), hg i 3 hin (by decide)⟩
 have hlen : ((List.range n).map fun i => (⟨g i 0, g i 1, g i 2, g i 3, ⟨g i 4, g i 5, g i 6, g i 7⟩⟩ : Cmd)).length = n := by simp
 rw [hlen]
 refine ⟨by rw [cmdCells_length, hlen], fun hn0 => ?_⟩
 obtain ⟨b, o, rfl, hb, hc⟩ := hr hn0
 refine ⟨b, o, rfl, hb, fun q u hu => ?_⟩
 have hq : q < n * 8 := by
  have h1 := (List.getElem?_eq_some_iff.1 hu).1; rw [cmdCells_length, hlen] at h1
  exact h1
 have e : q = q / 8 * 8 + q % 8 := by omega
 have hi : q / 8 < n := by omega
 have hj : q % 8 < 8 := by omega
 rw [e, cmdCells_get _ _ _ (by rw [hlen]; exact hi) hj] at hu; have hc' := hc (q / 8) (q % 8) hi hj; rw [e]
 generalize q / 8 = i at *
 generalize q % 8 = j at *
 rw [hc']; rw [List.getElem_map, List.getElem_range] at hu
 match j, hj with
 |0, _ => exact hu
 |1, _ => exact hu
 |2, _ => exact hu
 |3, _ => exact hu
 |4, _ => exact hu
 |5, _ => exact hu
 |6, _ => exact hu
 |7, _ => exact hu
end Go.Proofs.YtcahcjfgmdpdoaaGreat
