/- One text of: Kit Mem Sep. -/
import Derived.Test.YtcahcjfgmdpdoaaGreatRows
import Derived.WalkKit
import Derived.WalkSpells
import Derived.WalkLawsBesides
import Derived.ProofKit
import Derived.OpenShut
import Derived.Deep.Draws
import Derived.Laws.OwnMore
import Derived.Deep.AppendLies
import Derived.Laws.Rows
namespace Go.Proofs.YtcahcjfgmdpdoaaGreat
open Go.ChangeShapes Go.WideShapes Go.ChangeAt Go.RowKit

theorem Tryz.own : ownKnob Tryz.prog.godebug = none := by kernel_rfl
theorem Tryz.laidOut : laidOutB Tryz.prog = true := by kernel_rfl

theorem ret_int {k : IntKind} {a b : Int} (h : a = b) : Ending.returned (.int k a) = .returned (.int k b) := by rw [h]
theorem ret_bool {a b : Bool} (h : a = b) : Ending.returned (.bool a) = .returned (.bool b) := by rw [h]
theorem hide {p : Prop} (h : p) : Hid p := h
theorem hd2 {p0 p1 : Prop} (h0 : p0) (h1 : p1) : Hid (p0 ∧ p1) := hide ⟨h0, h1⟩
theorem hd3 {p0 p1 p2 : Prop} (h0 : p0) (h1 : p1) (h2 : p2) : Hid (p0 ∧ p1 ∧ p2) := hide ⟨h0, h1, h2⟩
theorem hd4 {p0 p1 p2 p3 : Prop} (h0 : p0) (h1 : p1) (h2 : p2) (h3 : p3) : Hid (p0 ∧ p1 ∧ p2 ∧ p3) := hide ⟨h0, h1, h2, h3⟩
theorem hd5 {p0 p1 p2 p3 p4 : Prop} (h0 : p0) (h1 : p1) (h2 : p2) (h3 : p3) (h4 : p4) : Hid (p0 ∧ p1 ∧ p2 ∧ p3 ∧ p4) := hide ⟨h0, h1, h2, h3, h4⟩
theorem hd6 {p0 p1 p2 p3 p4 p5 : Prop} (h0 : p0) (h1 : p1) (h2 : p2) (h3 : p3) (h4 : p4) (h5 : p5) : Hid (p0 ∧ p1 ∧ p2 ∧ p3 ∧ p4 ∧ p5) := hide ⟨h0, h1, h2, h3, h4, h5⟩
theorem hd7 {p0 p1 p2 p3 p4 p5 p6 : Prop} (h0 : p0) (h1 : p1) (h2 : p2) (h3 : p3) (h4 : p4) (h5 : p5) (h6 : p6) : Hid (p0 ∧ p1 ∧ p2 ∧ p3 ∧ p4 ∧ p5 ∧ p6) := hide ⟨h0, h1, h2, h3, h4, h5, h6⟩
theorem hd8 {p0 p1 p2 p3 p4 p5 p6 p7 : Prop} (h0 : p0) (h1 : p1) (h2 : p2) (h3 : p3) (h4 : p4) (h5 : p5) (h6 : p6) (h7 : p7) : Hid (p0 ∧ p1 ∧ p2 ∧ p3 ∧ p4 ∧ p5 ∧ p6 ∧ p7) := hide ⟨h0, h1, h2, h3, h4, h5, h6, h7⟩
theorem hd9 {p0 p1 p2 p3 p4 p5 p6 p7 p8 : Prop} (h0 : p0) (h1 : p1) (h2 : p2) (h3 : p3) (h4 : p4) (h5 : p5) (h6 : p6) (h7 : p7) (h8 : p8) : Hid (p0 ∧ p1 ∧ p2 ∧ p3 ∧ p4 ∧ p5 ∧ p6 ∧ p7 ∧ p8) := hide ⟨h0, h1, h2, h3, h4, h5, h6, h7, h8⟩
theorem hd10 {p0 p1 p2 p3 p4 p5 p6 p7 p8 p9 : Prop} (h0 : p0) (h1 : p1) (h2 : p2) (h3 : p3) (h4 : p4) (h5 : p5) (h6 : p6) (h7 : p7) (h8 : p8) (h9 : p9) : Hid (p0 ∧ p1 ∧ p2 ∧ p3 ∧ p4 ∧ p5 ∧ p6 ∧ p7 ∧ p8 ∧ p9) := hide ⟨h0, h1, h2, h3, h4, h5, h6, h7, h8, h9⟩
theorem hd11 {p0 p1 p2 p3 p4 p5 p6 p7 p8 p9 p10 : Prop} (h0 : p0) (h1 : p1) (h2 : p2) (h3 : p3) (h4 : p4) (h5 : p5) (h6 : p6) (h7 : p7) (h8 : p8) (h9 : p9) (h10 : p10) : Hid (p0 ∧ p1 ∧ p2 ∧ p3 ∧ p4 ∧ p5 ∧ p6 ∧ p7 ∧ p8 ∧ p9 ∧ p10) := hide ⟨h0, h1, h2, h3, h4, h5, h6, h7, h8, h9, h10⟩
theorem hd12 {p0 p1 p2 p3 p4 p5 p6 p7 p8 p9 p10 p11 : Prop} (h0 : p0) (h1 : p1) (h2 : p2) (h3 : p3) (h4 : p4) (h5 : p5) (h6 : p6) (h7 : p7) (h8 : p8) (h9 : p9) (h10 : p10) (h11 : p11) : Hid (p0 ∧ p1 ∧ p2 ∧ p3 ∧ p4 ∧ p5 ∧ p6 ∧ p7 ∧ p8 ∧ p9 ∧ p10 ∧ p11) := hide ⟨h0, h1, h2, h3, h4, h5, h6, h7, h8, h9, h10, h11⟩
theorem hd13 {p0 p1 p2 p3 p4 p5 p6 p7 p8 p9 p10 p11 p12 : Prop} (h0 : p0) (h1 : p1) (h2 : p2) (h3 : p3) (h4 : p4) (h5 : p5) (h6 : p6) (h7 : p7) (h8 : p8) (h9 : p9) (h10 : p10) (h11 : p11) (h12 : p12) : Hid (p0 ∧ p1 ∧ p2 ∧ p3 ∧ p4 ∧ p5 ∧ p6 ∧ p7 ∧ p8 ∧ p9 ∧ p10 ∧ p11 ∧ p12) := hide ⟨h0, h1, h2, h3, h4, h5, h6, h7, h8, h9, h10, h11, h12⟩

theorem below_drewN {B : Nat} {a w : World} (h : Below B a w) (n : Nat) : Below B a (w.drewN n) := ⟨h.os, h.tape, h.output, h.size, h.block⟩

section
variable {P : Program} {f : FuncId} {args : Array Value} {w : World} {a n : Nat} {v : Value}
end
section
variable {H : Type} {enc : TypeId × Value → H} {P : Program}
theorem trodAll_stays (hl : laidOutB P = true) {W W' : World} {sp : Nat → Bool} : ∀ {ts : List TypeId} {vs : List Value} {ds : List (DataW H)} {ps : List MemPlace},
  (∀ t ∈ ts, P.readableRec t = true ∧ t < P.types.size) → DataW.TrodAll enc P W 0 (fun _ => true) true ts vs ds ps → (∀ p ∈ ps, W.sameAt W' p) → (∀ p ∈ ps, sp p.block = true) →
  DataW.TrodAll enc P W' 0 sp true ts vs ds ps
 |[], vs, ds, ps, _, h, _, _ => by
  obtain ⟨rfl, rfl, rfl⟩ := trodAll_nil h
  exact trodAll_mk0
 |t :: ts, vs, ds, ps, hr, h, hs, hp => by
  obtain ⟨v, vs1, d, ds1, a, b, rfl, rfl, rfl, h1, h2⟩ := trodAll_cons h; have ht := hr t (by simp)
  exact ⟨a, b, WideElems.Trod_stays hl ht.1 ht.2 h1 (fun x hx => hs x (by simp [hx])) (fun x hx => hp x (by simp [hx])),
   trodAll_stays hl (fun t' h' => hr t' (by simp [h'])) h2 (fun x hx => hs x (by simp [hx])) (fun x hx => hp x (by simp [hx])), rfl⟩

theorem law_post {f : Func} {s : ChangeSpec} {W W' : World} {args : Array Value} {ds gs : List (DataW H)} {before : List MemPlace} {tb : TypeId}
  (hl : laidOutB P = true) (hr : ∀ t ∈ f.params.toList, P.readableRec t = true ∧ t < P.types.size) (ht : f.resultTypes = #[tb]) (htb : P.underlying tb = some .bool)
  (hW : DataW.Whole enc P f.params.toList s.vars false W args.toList ds gs before) (hv : s.vars = [])
  (hfn : s.fn H (ds ++ gs) = { results := [.lit (.bool true)], args := ds }) (hb : Below W.heap.size W W') :
  s.post enc P f false true false false W args (.bool true) W' := by
 have hlt : ∀ p ∈ before, p.block < W.heap.size := fun p hp => hW.lt p hp
 have hW2 := hW; obtain ⟨p, q, hA, hV, rfl, hz, hn⟩ := hW2; rw [hv] at hV; obtain ⟨rfl, rfl⟩ := trodVars_none hV; simp only [List.append_nil] at hlt hW
 have hargs : ∀ sp : Nat → Bool, (∀ x ∈ p, sp x.block = true) → DataW.TrodAll enc P W' 0 sp true f.params.toList args.toList ds p := fun sp hsp =>
  trodAll_stays hl hr hA (fun x hx => hb.same (hlt x hx)) hsp
 refine ⟨ds, [], p, [], p, [], hW, ?_, ?_, ?_, ?_, ?_⟩
 ·rw [hfn, ht]
  exact trodAll_cons_mk (shut_bool htb true) trodAll_mk0
 ·rw [hfn]
  exact hargs _ (fun x hx => by simpa using hlt x hx)
 ·rw [hfn, hv]
  exact rfl
 ·refine World.keptBut_mono (fun x hx => ⟨hx, ?_⟩) (hb.frame (· ∈ p))
  exact Or.inr (by simpa using hx)
 ·intro h
  cases h
end
end Go.Proofs.YtcahcjfgmdpdoaaGreat

namespace Go.Proofs.YtcahcjfgmdpdoaaGreat
open Go.RowKit

def Reads (w : World) (B size : Nat) (A : Option Addr) (n : Nat) (xs : List Value) : Prop :=
 xs.length = n * size ∧ (0 < n → ∃ b o, A = some ⟨b, o, none⟩ ∧ b < B ∧ ∀ j u, xs[j]? = some u → w.cell? ⟨b, o + j, none⟩ = some u)
section
variable {w w' : World} {B B' size n : Nat} {A : Option Addr} {xs : List Value}
theorem Reads.rule (h : Reads w B size A n xs) (hk : 0 < n) : ∃ b o, A = some ⟨b, o, none⟩ ∧ b < B ∧ ∀ j u, xs[j]? = some u → ∀ w' : World, Below B w w' → w'.cell? ⟨b, o + j, none⟩ = some u := by
 obtain ⟨b, o, e, hb, hc⟩ := h.2 hk
 exact ⟨b, o, e, hb, fun j u hu w' hw => (hw.cell (p := ⟨b, o + j, none⟩) hb).trans (hc j u hu)⟩
theorem Reads.none_ : Reads w B size A 0 [] := ⟨by simp, fun h => absurd h (by omega)⟩
theorem Reads.at_ (h : Reads w B size A n xs) (hk : 0 < n) : ∃ b o, A = some ⟨b, o, none⟩ ∧ b < B ∧ ∀ j u, xs[j]? = some u → w.cell? ⟨b, o + j, none⟩ = some u := h.2 hk
theorem Reads.keep (h : Reads w B size A n xs) (hk : ∀ p : Addr, p.block < B → w'.cell? p = w.cell? p) : Reads w' B size A n xs :=
 ⟨h.1, fun hn => by
  obtain ⟨b, o, e, hb, hc⟩ := h.2 hn
  exact ⟨b, o, e, hb, fun j u hu => (hk _ hb).trans (hc j u hu)⟩⟩
theorem Reads.more (h : Reads w B size A n xs) (hB : B ≤ B') : Reads w B' size A n xs :=
 ⟨h.1, fun hn => by
  obtain ⟨b, o, e, hb, hc⟩ := h.2 hn
  exact ⟨b, o, e, by omega, hc⟩⟩
theorem Reads.below (h : Reads w B size A n xs) (hb : Below B w w') : Reads w' B size A n xs := h.keep fun _ hp => hb.cell hp
theorem Reads.drew (h : Reads w B size A n xs) : Reads w.drew B size A n xs := h
theorem Reads.drewN (h : Reads w B size A n xs) (k : Nat) : Reads (w.drewN k) B size A n xs := h
theorem Reads.alloc (h : Reads w B size A n xs) (hB : B ≤ w.heap.size) (o : Obj) : Reads (w.alloc o) B size A n xs := h.keep fun p hp => World.cell?_alloc_lt w o p (by omega)
theorem Reads.setCell (h : Reads w B size A n xs) {p : Addr} (hB : B ≤ p.block) (u : Value) : Reads (w.setCell p u) B size A n xs :=
 h.keep fun q hq => World.cell?_setCell_other w p q u (fun e => by subst e; omega)
theorem Reads.grown (h : Reads w B size A n xs) {row : Option Nat} (hg : w.grownBy w' row) (hB : B ≤ w.heap.size) (hr : ∀ g, row = some g → B ≤ g) : Reads w' B size A n xs :=
 h.keep fun p hp => World.cell?_of_block (hg.block p.block (by omega) (fun e => by have := hr _ e.symm; omega))
theorem add_addr (b o q : Nat) : (⟨b, o, none⟩ : Addr).add q = ⟨b, o + q, none⟩ := by
 unfold Addr.add
 by_cases h : q = 0
 ·subst h; rfl
 ·rw [if_neg h]
theorem Reads.take {k : Nat} (h : Reads w B size A n xs) (hk : k ≤ n) : Reads w B size A k (xs.take (k * size)) := by
 refine ⟨by rw [List.length_take, h.1]; exact Nat.min_eq_left (Nat.mul_le_mul_right _ hk), fun h0 => ?_⟩
 obtain ⟨b, o, e, hb, hc⟩ := h.2 (by omega)
 refine ⟨b, o, e, hb, fun j u hu => hc j u ?_⟩
 rw [List.getElem?_take] at hu
 split at hu
 ·exact hu
 ·cases hu
theorem Reads.cut {k cap : Nat} (h : Reads w B size A n xs) (hk : k ≤ n) (hc : n ≤ cap) :
  Reads w B size (if cap = k then A else A.map (·.add (k * size))) (n - k) (xs.drop (k * size)) := by
 refine ⟨by rw [List.length_drop, h.1, Nat.sub_mul], fun hn => ?_⟩
 obtain ⟨b, o, rfl, hb, hcell⟩ := h.2 (by omega); rw [if_neg (by omega)]
 refine ⟨b, o + k * size, by rw [Option.map_some, add_addr], hb, fun j u hu => ?_⟩
 rw [Nat.add_assoc]
 exact hcell _ u (by rw [← hu, List.getElem?_drop])
theorem run_cut {P : Program} {t : TypeId} {s : Nat} (ht : P.underlying t = some (.slice (P.elem t))) (hs : ∀ w, (sizeOf (P.elem t)).run P w = .ok s w) {A A2 : Option Addr} {n c k : Nat} (hk : k ≤ n)
  (hA : (if c = k then A else A.map (·.add (k * s))) = A2) (w : World) : (Instr.slice t (.slice A n c) (some (.int .i64 (k : Int))) none none).run P w = .ok (.slice A2 (n - k) (c - k)) w := by
 rw [run_slice_l w t A n c ht .i64 (k : Int) (by omega) (by omega), hs]; simp only [Result.andThen, sliced, Int.toNat_natCast, hA]
theorem Reads.new {w : World} {t : TypeId} {cs : Array Value} {n b B size : Nat} (hb : w.heap.size = b) (hB : b < B) (h : cs.size = n * size) : Reads (w.alloc (.cells cs t)) B size (some ⟨b, 0, none⟩) n cs.toList := by
 subst hb
 refine ⟨by simpa using h, fun _ => ⟨_, _, rfl, hB, fun j u hu => ?_⟩⟩
 rw [Nat.zero_add, cell_of_row _ _ j cs t (0, 0) (heap_alloc_new w _)]
 simpa using hu
def CellsAt (w : World) (b o : Nat) (cs : List Value) : Prop := ∀ j u, cs[j]? = some u → w.cell? ⟨b, o + j, none⟩ = some u
theorem CellsAt.below {b o : Nat} {cs : List Value} (h : CellsAt w b o cs) (hb : Below B w w') (hB : b < B) : CellsAt w' b o cs := fun j u hu => (hb.cell (p := ⟨b, o + j, none⟩) hB).trans (h j u hu)
theorem CellsAt.drewN {b o : Nat} {cs : List Value} (h : CellsAt w b o cs) (n : Nat) : CellsAt (w.drewN n) b o cs := h
theorem CellsAt.alloc {b o : Nat} {cs : List Value} (h : CellsAt w b o cs) (hB : b < w.heap.size) (x : Obj) : CellsAt (w.alloc x) b o cs := fun j u hu => (World.cell?_alloc_lt w x ⟨b, o + j, none⟩ hB).trans (h j u hu)
theorem CellsAt.new {w : World} {t : TypeId} {cs : Array Value} {b : Nat} (hb : w.heap.size = b) : CellsAt (w.alloc (.cells cs t)) b 0 cs.toList := by
 subst hb
 intro j u hu
 rw [Nat.zero_add, cell_of_row _ _ j cs t (0, 0) (heap_alloc_new w _)]
 simpa using hu
end

def Inv (W : World) (L : List (Nat × TypeId × Array Value)) (w : World) : Prop :=
 Below W.heap.size W w ∧ ∀ p ∈ L, w.heap[p.1]? = some (.cells p.2.2 p.2.1 (0, 0))
section
variable {W w w' : World} {L L' : List (Nat × TypeId × Array Value)}
theorem heap_lt {w : World} {b : Nat} {o : Obj} (h : w.heap[b]? = some o) : b < w.heap.size := by
 rcases Nat.lt_or_ge b w.heap.size with hlt | hge
 ·exact hlt
 ·rw [Array.getElem?_eq_none hge] at h; cases h
theorem Inv.base (h : Inv W L w) : Below W.heap.size W w := h.1
theorem Inv.refl (W : World) : Inv W [] W := ⟨Below.refl _ _, fun p hp => by cases hp⟩
theorem Inv.of_below (h : Below W.heap.size W w) : Inv W [] w := ⟨h, fun p hp => by cases hp⟩
theorem Inv.below (h : Inv W L w) (hb : Below w.heap.size w w') : Inv W L w' :=
 ⟨h.1.trans (hb.mono h.1.size), fun p hp => (hb.block p.1 (heap_lt (h.2 p hp))).trans (h.2 p hp)⟩
theorem Inv.drew (h : Inv W L w) : Inv W L w.drew := ⟨h.1.drew, h.2⟩
theorem Inv.drewN (h : Inv W L w) (n : Nat) : Inv W L (w.drewN n) := ⟨below_drewN h.1 n, h.2⟩
theorem Inv.sub (h : Inv W L w) (hs : ∀ p ∈ L', p ∈ L) : Inv W L' w := ⟨h.1, fun p hp => h.2 p (hs p hp)⟩
theorem Inv.alloc (h : Inv W L w) (o : Obj) : Inv W L (w.alloc o) :=
 ⟨h.1.alloc h.1.size o, fun p hp => (Below.heap_alloc w o p.1 (heap_lt (h.2 p hp))).trans (h.2 p hp)⟩
theorem Inv.new (h : Inv W L w) {b : Nat} {t : TypeId} {cs : Array Value} (hb : w.heap.size = b) : Inv W ((b, t, cs) :: L) (w.alloc (.cells cs t)) := by
 subst hb
 refine ⟨h.1.alloc h.1.size _, fun p hp => ?_⟩
 rcases List.mem_cons.1 hp with rfl | hp
 ·exact heap_alloc_new w _
 ·exact (h.alloc _).2 p hp
theorem Inv.set {b : Nat} {t : TypeId} {cs : Array Value} (h : Inv W ((b, t, cs) :: L) w) (hb : W.heap.size ≤ b) (hd : ∀ p ∈ L, p.1 ≠ b) (i : Nat) (u : Value) :
  Inv W ((b, t, cs.setIfInBounds i u) :: L) (w.setCell ⟨b, i, none⟩ u) := by
 refine ⟨h.1.setCell hb u, fun p hp => ?_⟩
 rcases List.mem_cons.1 hp with rfl | hp
 ·have h0 := h.2 (b, t, cs) (by simp)
  simp only at h0
  simp [World.setCell, Array.getElem?_modify, h0]
 ·exact (Below.heap_setCell w _ u p.1 (hd p hp)).trans (h.2 p (by simp [hp]))
theorem Inv.cell (h : Inv W L w) {b : Nat} {t : TypeId} {cs : Array Value} (hp : (b, t, cs) ∈ L) (i : Nat) : w.cell? ⟨b, i, none⟩ = cs[i]? := cell_of_row w b i cs t (0, 0) (h.2 _ hp)
theorem Inv.frozen (h : Inv W L w) {b : Nat} {t : TypeId} {cs : Array Value} (hp : (b, t, cs) ∈ L) (i : Nat) : w.frozen? ⟨b, i, none⟩ = false := by
 have h0 := h.2 _ hp; simp only at h0
 simp [World.frozen?, h0]
theorem Inv.lt (h : Inv W L w) {b : Nat} {t : TypeId} {cs : Array Value} (hp : (b, t, cs) ∈ L) : b < w.heap.size := heap_lt (h.2 _ hp)
end

structure Chg (L : List Nat) (w w' : World) : Prop where
 os : w'.os = w.os
 tape : w'.tape = w.tape
 output : w'.output = w.output
 size : w.heap.size ≤ w'.heap.size
 block : ∀ k, k < w.heap.size → k ∉ L → w'.heap[k]? = w.heap[k]?
section
variable {L L' : List Nat} {a b c w w' W : World}
theorem Chg.refl (L : List Nat) (w : World) : Chg L w w := ⟨rfl, rfl, rfl, Nat.le_refl _, fun _ _ _ => rfl⟩
theorem Chg.trans (h : Chg L a b) (k : Chg L' b c) (hl : ∀ x ∈ L', x ∈ L ∨ a.heap.size ≤ x) : Chg L a c :=
 ⟨k.os.trans h.os, k.tape.trans h.tape, k.output.trans h.output, Nat.le_trans h.size k.size, fun i hi hn =>
  (k.block i (Nat.lt_of_lt_of_le hi h.size) (fun hx => by rcases hl i hx with h1 | h1; exact hn h1; omega)).trans (h.block i hi hn)⟩
theorem Chg.same (h : Chg L a b) (k : Chg L b c) : Chg L a c := h.trans k fun _ hx => Or.inl hx
theorem Chg.mono (h : Chg L a b) (hl : ∀ x ∈ L, x ∈ L' ∨ a.heap.size ≤ x) : Chg L' a b :=
 ⟨h.os, h.tape, h.output, h.size, fun k hk hn => h.block k hk (fun hx => by rcases hl k hx with h1 | h1; exact hn h1; omega)⟩
theorem Chg.drew (h : Chg L a b) : Chg L a b.drew := ⟨h.os, h.tape, h.output, h.size, h.block⟩
theorem Chg.drewN (h : Chg L a b) (n : Nat) : Chg L a (b.drewN n) := ⟨h.os, h.tape, h.output, h.size, h.block⟩
theorem Chg.below (h : Chg L a b) (k : Below b.heap.size b c) : Chg L a c :=
 ⟨k.os.trans h.os, k.tape.trans h.tape, k.output.trans h.output, Nat.le_trans h.size k.size, fun i hi hn => (k.block i (Nat.lt_of_lt_of_le hi h.size)).trans (h.block i hi hn)⟩
theorem Chg.of_below (h : Below a.heap.size a b) : Chg L a b := (Chg.refl L a).below h
theorem Chg.alloc (h : Chg L a b) (o : Obj) : Chg L a (b.alloc o) := h.below ((Below.refl _ _).alloc (Nat.le_refl _) _)
theorem Chg.setCell (h : Chg L a b) {p : Addr} (hp : p.block ∈ L ∨ a.heap.size ≤ p.block) (u : Value) : Chg L a (b.setCell p u) :=
 h.trans (L' := [p.block]) ⟨rfl, rfl, rfl, by simp [World.setCell], fun k _ hk => Below.heap_setCell _ _ _ _ (by simpa using hk)⟩ (by simpa using hp)
theorem Chg.of_grown {row : Option Nat} (hg : a.grownBy b row) : Chg row.toList a b :=
 ⟨hg.os, hg.tape, hg.output, hg.size, fun k hk hn => hg.block k hk (fun e => hn (by simp [← e]))⟩
theorem Chg.grown {row : Option Nat} (h : Chg L a b) (hg : b.grownBy c row) (hr : ∀ k, row = some k → k ∈ L ∨ a.heap.size ≤ k) : Chg L a c :=
 h.trans (Chg.of_grown hg) fun x hx => hr x (by simpa using hx)
theorem Chg.toBelow (h : Chg L W w) {B : Nat} (hB : B ≤ W.heap.size) (hl : ∀ x ∈ L, B ≤ x) : Below B W w :=
 ⟨h.os, h.tape, h.output, h.size, fun k hk => h.block k (by omega) (fun hx => by have := hl k hx; omega)⟩
theorem Chg.none (h : Chg [] W w) : Below W.heap.size W w := h.toBelow (Nat.le_refl _) (fun _ hx => by cases hx)
theorem Chg.onto {B : Nat} (hb : Below B W a) (hB : B ≤ a.heap.size) (h : Chg L a b) (hl : ∀ x ∈ L, B ≤ x) : Below B W b := hb.trans (h.toBelow hB hl)
theorem Chg.cell (h : Chg L a b) {p : Addr} (hp : p.block < a.heap.size) (hn : p.block ∉ L) : b.cell? p = a.cell? p := World.cell?_of_block (w := a) (h.block p.block hp hn)
theorem Chg.frozen (h : Chg L a b) {p : Addr} (hp : p.block < a.heap.size) (hn : p.block ∉ L) : b.frozen? p = a.frozen? p := World.frozen?_of_block (w := a) (h.block p.block hp hn)
end
def Blk (w : World) (b : Nat) (t : TypeId) (cs : List Value) : Prop := w.heap[b]? = some (.cells cs.toArray t (0, 0))
section
variable {L : List Nat} {w w' : World} {b : Nat} {t : TypeId} {cs : List Value}
theorem Blk.lt (h : Blk w b t cs) : b < w.heap.size := heap_lt h
theorem Blk.cell (h : Blk w b t cs) (i : Nat) : w.cell? ⟨b, i, none⟩ = cs[i]? := by rw [cell_of_row w b i cs.toArray t (0, 0) h]; simp
theorem Blk.frozen (h : Blk w b t cs) (i : Nat) : w.frozen? ⟨b, i, none⟩ = false := by
 unfold Blk at h
 simp [World.frozen?, h]
theorem Blk.keep (h : Blk w b t cs) (hs : w'.heap[b]? = w.heap[b]?) : Blk w' b t cs := hs.trans h
theorem Blk.chg (h : Blk w b t cs) (hc : Chg L w w') (hn : b ∉ L) : Blk w' b t cs := h.keep (hc.block b h.lt hn)
theorem Blk.below (h : Blk w b t cs) (hc : Below w.heap.size w w') : Blk w' b t cs := h.keep (hc.block b h.lt)
theorem Blk.alloc (h : Blk w b t cs) (o : Obj) : Blk (w.alloc o) b t cs := h.keep (Below.heap_alloc w o b h.lt)
theorem Blk.new {b : Nat} (hb : w.heap.size = b) : Blk (w.alloc (.cells cs.toArray t)) b t cs := by subst hb; exact heap_alloc_new w _
theorem Blk.set (h : Blk w b t cs) (i : Nat) (u : Value) : Blk (w.setCell ⟨b, i, none⟩ u) b t (cs.set i u) := by
 unfold Blk at h ⊢
 simp [World.setCell, Array.getElem?_modify, h]
theorem Blk.news (h : Blk w b t cs) : ∀ j u, cs[j]? = some u → w.cell? ((⟨b, 0, none⟩ : Addr).add j) = some u := World.news_of_block (cs := cs.toArray) h
theorem Blk.rule (h : Blk w b t cs) (i : Nat) (u : Value) (hu : cs[i]? = some u) : ∀ w', Below w.heap.size w w' → w'.cell? ⟨b, i, none⟩ = some u :=
 fun _ hb => ((h.below hb).cell i).trans hu
theorem Blk.one (h : Blk w b t cs) {cs' : List Value} {t' : TypeId} (h' : Blk w b t' cs') : cs = cs' ∧ t = t' := by
 have := h.symm.trans h'
 simpa using this
end
theorem app_law {P : Program} {ops : Array Oper} {rest : List Oper} {o : Oper} {a : Act} {Q : Exit → Act → World → Prop} {w : World} (hgd : o.guard = none) (s x : Operand) (t : TypeId)
  (ho : o.op = .call { callee := .builtin .append, args := #[s, x], argTypes := #[t, t] })
  (e : TypeId) (i : TypeInfo) (z : Value) (size bytes : Nat) (ht : P.underlying t = some (.slice e)) (hi : P.info? e = some i) (hz : i.zero = some z)
  (hsize : i.size = size) (hby : i.bytes = bytes) (hzs : z.cells.size = size) (hsz : 0 < size)
  (v : Value) (n : Nat) (xs : List Value) (hs : a.eval s = v) (hown : w.ownsRow 0 e size v n xs)
  (B m c : Nat) (cs : List Value) (hx : a.eval x = .slice (some ⟨B, 0, none⟩) m c) (hB : Blk w B e cs) (hl : cs.length = m * size) (h1 : ∀ u ∈ cs, u.oneCell' = true)
  (hm : 0 < m) (h63 : n + m ≤ maxLen) (hbytes : (n + m) * bytes ≤ 140737488355328)
  (h : ∀ g cap w', w'.ownsRow 0 e size (.slice (some ⟨g, 0, none⟩) (n + m) cap) (n + m) (xs ++ cs) → Chg v.ownBlock.toList w w' → (v.ownBlock = some g ∨ g = w.heap.size) → g < w'.heap.size →
   wpList P ops Q rest (a.put o.dst (.slice (some ⟨g, 0, none⟩) (n + m) cap)) w') : wpList P ops Q (o :: rest) a w :=
 wpList_append_lies w hgd s x t ho 0 e i z size bytes ht hi hz hsize hby hzs hsz v n xs hs hown ⟨B, 0, none⟩ m c cs hx hl hB.news h1 hm h63 hbytes (Nat.zero_le _) _ rfl
  fun g cap w' h2 h3 h4 h5 => h g cap w' h2 (Chg.of_grown h3) h4 h5
theorem app_wp {P : Program} {o : Oper} {a : Act} {K : Act → World → Prop} {Q : Exit → Act → World → Prop} {w : World} (s x : Operand) (t : TypeId)
  (ho : o.op = .call { callee := .builtin .append, args := #[s, x], argTypes := #[t, t] })
  (e : TypeId) (i : TypeInfo) (z : Value) (size bytes : Nat) (ht : P.underlying t = some (.slice e)) (hi : P.info? e = some i) (hz : i.zero = some z)
  (hsize : i.size = size) (hby : i.bytes = bytes) (hzs : z.cells.size = size) (hsz : 0 < size)
  (v : Value) (n : Nat) (xs : List Value) (hs : a.eval s = v) (hown : w.ownsRow 0 e size v n xs)
  (B m c : Nat) (cs : List Value) (hx : a.eval x = .slice (some ⟨B, 0, none⟩) m c) (hB : Blk w B e cs) (hl : cs.length = m * size) (h1 : ∀ u ∈ cs, u.oneCell' = true)
  (hm : 0 < m) (h63 : n + m ≤ maxLen) (hbytes : (n + m) * bytes ≤ 140737488355328)
  (h : ∀ g cap w', w'.ownsRow 0 e size (.slice (some ⟨g, 0, none⟩) (n + m) cap) (n + m) (xs ++ cs) → Chg v.ownBlock.toList w w' → (v.ownBlock = some g ∨ g = w.heap.size) → g < w'.heap.size →
   K (a.put o.dst (.slice (some ⟨g, 0, none⟩) (n + m) cap)) w') : o.wp P a w K Q :=
 wp_append_lies w s x t ho 0 e i z size bytes ht hi hz hsize hby hzs hsz v n xs hs hown ⟨B, 0, none⟩ m c cs hx hl hB.news h1 hm h63 hbytes (Nat.zero_le _) _ rfl
  fun g cap w' h2 h3 h4 h5 => h g cap w' h2 (Chg.of_grown h3) h4 h5
theorem owS (A : Option Addr) (n c : Nat) : (Value.slice A n c).ownBlock = A.map Addr.block := by cases A <;> rfl
section
variable {L : List Nat} {w w' : World} {base n size : Nat} {e : TypeId} {v : Value} {xs : List Value}
theorem own_chg (h : w.ownsRow base e size v n xs) (hc : Chg L w w') (hn : ∀ g, v.ownBlock = some g → g ∉ L) : w'.ownsRow base e size v n xs := by
 refine ⟨h.1, ?_⟩
 rcases h.2 with h0 | ⟨g, cap, cur, rfl, hb, hgg, rest⟩
 ·exact .inl h0
 ·exact .inr ⟨g, cap, cur, rfl, hb, by rw [hc.block g (heap_lt hgg) (hn g rfl)]; exact hgg, rest⟩
theorem own_base (h : w.ownsRow base e size v n xs) : w.ownsRow 0 e size v n xs := by
 refine ⟨h.1, ?_⟩
 rcases h.2 with h0 | ⟨g, cap, cur, rfl, hb, r⟩
 ·exact .inl h0
 ·exact .inr ⟨g, cap, cur, rfl, Nat.zero_le _, r⟩
theorem own_view (h : w.ownsRow base e size v n xs) : ∃ A c, v = .slice A n c ∧ n ≤ c ∧ c ≤ maxLen ∧ (v.ownBlock = A.map Addr.block) ∧ (A = none → n = 0 ∧ c = 0) ∧
  ∀ B, (∀ g, v.ownBlock = some g → g < B) → Reads w B size A n xs := by
 rcases h.2 with ⟨rfl, rfl⟩ | ⟨g, cap, cur, rfl, hb, hgg, hn, hc, hs, ht⟩
 ·refine ⟨none, 0, rfl, Nat.le_refl _, by unfold maxLen; omega, rfl, fun _ => ⟨rfl, rfl⟩, fun B _ => ⟨by simpa using h.1, fun h0 => absurd h0 (by omega)⟩⟩
 ·refine ⟨some ⟨g, 0, none⟩, cap, rfl, hn, hc, rfl, fun h0 => (by cases h0), fun B hB => ⟨h.1, fun _ => ⟨g, 0, rfl, hB g rfl, fun j u hu => ?_⟩⟩⟩
  have := h.cells (g := g) rfl j u hu; rw [Nat.zero_add]
  rwa [add_addr, Nat.zero_add] at this
theorem own_lt (h : w.ownsRow base e size v n xs) {g : Nat} (hg : v.ownBlock = some g) : g < w.heap.size := (h.lt g hg).2
end
end Go.Proofs.YtcahcjfgmdpdoaaGreat
