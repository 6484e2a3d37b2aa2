/- Words for memory that all walks share: a slice that reads as a list of values (nil let in); what of it stays when the world goes on. -/
import Derived.Test.YtcgecalbgkkinaaGreatKit
import Derived.Laws.OwnMore
import Derived.Deep.AppendLies
import Derived.Laws.Rows
namespace Go.Proofs.YtcgecalbgkkinaaGreat
open Go.RowKit

/-- the slice '.slice A n c' holds the cells xs ('size' cells an element), below block B; its address is asked for only where there is an element -/
def Reads (w : World) (B size : Nat) (A : Option Addr) (n : Nat) (xs : List Value) : Prop :=
  xs.length = n * size ∧ (0 < n → ∃ b o, A = some ⟨b, o, none⟩ ∧ b < B ∧ ∀ j u, xs[j]? = some u → w.cell? ⟨b, o + j, none⟩ = some u)
section
variable {w w' : World} {B B' size n : Nat} {A : Option Addr} {xs : List Value}
/-- the cells in every world that is as W was below B: a rule for the walk -/
theorem Reads.rule (h : Reads w B size A n xs) (hk : 0 < n) : ∃ b o, A = some ⟨b, o, none⟩ ∧ b < B ∧ ∀ j u, xs[j]? = some u → ∀ w' : World, Below B w w' → w'.cell? ⟨b, o + j, none⟩ = some u := by
  obtain ⟨b, o, e, hb, hc⟩ := h.2 hk
  exact ⟨b, o, e, hb, fun j u hu w' hw => (hw.cell (p := ⟨b, o + j, none⟩) hb).trans (hc j u hu)⟩
theorem Reads.none_ : Reads w B size A 0 [] := ⟨by simp, fun h => absurd h (by omega)⟩
theorem Reads.at_ (h : Reads w B size A n xs) (hk : 0 < n) : ∃ b o, A = some ⟨b, o, none⟩ ∧ b < B ∧ ∀ j u, xs[j]? = some u → w.cell? ⟨b, o + j, none⟩ = some u := h.2 hk
theorem Reads.keep (h : Reads w B size A n xs) (hk : ∀ p : Addr, p.block < B → w'.cell? p = w.cell? p) : Reads w' B size A n xs :=
  ⟨h.1, fun hn => by
    obtain ⟨b, o, e, hb, hc⟩ := h.2 hn
    exact ⟨b, o, e, hb, fun j u hu => (hk _ hb).trans (hc j u hu)⟩⟩
theorem Reads.more (h : Reads w B size A n xs) (hB : B ≤ B') : Reads w B' size A n xs :=
  ⟨h.1, fun hn => by
    obtain ⟨b, o, e, hb, hc⟩ := h.2 hn
    exact ⟨b, o, e, by omega, hc⟩⟩
theorem Reads.below (h : Reads w B size A n xs) (hb : Below B w w') : Reads w' B size A n xs := h.keep fun _ hp => hb.cell hp
theorem Reads.drew (h : Reads w B size A n xs) : Reads w.drew B size A n xs := h
theorem Reads.drewN (h : Reads w B size A n xs) (k : Nat) : Reads (w.drewN k) B size A n xs := h
theorem Reads.alloc (h : Reads w B size A n xs) (hB : B ≤ w.heap.size) (o : Obj) : Reads (w.alloc o) B size A n xs := h.keep fun p hp => World.cell?_alloc_lt w o p (by omega)
theorem Reads.setCell (h : Reads w B size A n xs) {p : Addr} (hB : B ≤ p.block) (u : Value) : Reads (w.setCell p u) B size A n xs :=
  h.keep fun q hq => World.cell?_setCell_other w p q u (fun e => by subst e; omega)
theorem Reads.grown (h : Reads w B size A n xs) {row : Option Nat} (hg : w.grownBy w' row) (hB : B ≤ w.heap.size) (hr : ∀ g, row = some g → B ≤ g) : Reads w' B size A n xs :=
  h.keep fun p hp => World.cell?_of_block (hg.block p.block (by omega) (fun e => by have := hr _ e.symm; omega))
theorem add_addr (b o q : Nat) : (⟨b, o, none⟩ : Addr).add q = ⟨b, o + q, none⟩ := by
  unfold Addr.add
  by_cases h : q = 0
  · subst h; rfl
  · rw [if_neg h]
theorem Reads.take {k : Nat} (h : Reads w B size A n xs) (hk : k ≤ n) : Reads w B size A k (xs.take (k * size)) := by
  refine ⟨by rw [List.length_take, h.1]; exact Nat.min_eq_left (Nat.mul_le_mul_right _ hk), fun h0 => ?_⟩
  obtain ⟨b, o, e, hb, hc⟩ := h.2 (by omega)
  refine ⟨b, o, e, hb, fun j u hu => hc j u ?_⟩
  rw [List.getElem?_take] at hu
  split at hu
  · exact hu
  · cases hu
theorem Reads.cut {k cap : Nat} (h : Reads w B size A n xs) (hk : k ≤ n) (hc : n ≤ cap) :
    Reads w B size (if cap = k then A else A.map (·.add (k * size))) (n - k) (xs.drop (k * size)) := by
  refine ⟨by rw [List.length_drop, h.1, Nat.sub_mul], fun hn => ?_⟩
  obtain ⟨b, o, rfl, hb, hcell⟩ := h.2 (by omega)
  rw [if_neg (by omega)]
  refine ⟨b, o + k * size, by rw [Option.map_some, add_addr], hb, fun j u hu => ?_⟩
  rw [Nat.add_assoc]
  exact hcell _ u (by rw [← hu, List.getElem?_drop])
/-- 's[k:]' under one name for its address -/
theorem run_cut {P : Program} {t : TypeId} {s : Nat} (ht : P.underlying t = some (.slice (P.elem t))) (hs : ∀ w, (sizeOf (P.elem t)).run P w = .ok s w) {A A2 : Option Addr} {n c k : Nat} (hk : k ≤ n)
    (hA : (if c = k then A else A.map (·.add (k * s))) = A2) (w : World) : (Instr.slice t (.slice A n c) (some (.int .i64 (k : Int))) none none).run P w = .ok (.slice A2 (n - k) (c - k)) w := by
  rw [run_slice_l w t A n c ht .i64 (k : Int) (by omega) (by omega), hs]
  simp only [Result.andThen, sliced, Int.toNat_natCast, hA]
/-- a new block, read as a slice -/
theorem Reads.new {w : World} {t : TypeId} {cs : Array Value} {n b B size : Nat} (hb : w.heap.size = b) (hB : b < B) (h : cs.size = n * size) : Reads (w.alloc (.cells cs t)) B size (some ⟨b, 0, none⟩) n cs.toList := by
  subst hb
  refine ⟨by simpa using h, fun _ => ⟨_, _, rfl, hB, fun j u hu => ?_⟩⟩
  rw [Nat.zero_add, cell_of_row _ _ j cs t (0, 0) (heap_alloc_new w _)]
  simpa using hu
/-- the cells of one block from a place on -/
def CellsAt (w : World) (b o : Nat) (cs : List Value) : Prop := ∀ j u, cs[j]? = some u → w.cell? ⟨b, o + j, none⟩ = some u
theorem CellsAt.below {b o : Nat} {cs : List Value} (h : CellsAt w b o cs) (hb : Below B w w') (hB : b < B) : CellsAt w' b o cs := fun j u hu => (hb.cell (p := ⟨b, o + j, none⟩) hB).trans (h j u hu)
theorem CellsAt.drewN {b o : Nat} {cs : List Value} (h : CellsAt w b o cs) (n : Nat) : CellsAt (w.drewN n) b o cs := h
theorem CellsAt.alloc {b o : Nat} {cs : List Value} (h : CellsAt w b o cs) (hB : b < w.heap.size) (x : Obj) : CellsAt (w.alloc x) b o cs := fun j u hu => (World.cell?_alloc_lt w x ⟨b, o + j, none⟩ hB).trans (h j u hu)
theorem CellsAt.new {w : World} {t : TypeId} {cs : Array Value} {b : Nat} (hb : w.heap.size = b) : CellsAt (w.alloc (.cells cs t)) b 0 cs.toList := by
  subst hb
  intro j u hu
  rw [Nat.zero_add, cell_of_row _ _ j cs t (0, 0) (heap_alloc_new w _)]
  simpa using hu
end

/-- what is kept of the world since W: nothing below W's size has turned, and the listed blocks are just these cells -/
def Inv (W : World) (L : List (Nat × TypeId × Array Value)) (w : World) : Prop :=
  Below W.heap.size W w ∧ ∀ p ∈ L, w.heap[p.1]? = some (.cells p.2.2 p.2.1 (0, 0))
section
variable {W w w' : World} {L L' : List (Nat × TypeId × Array Value)}
theorem heap_lt {w : World} {b : Nat} {o : Obj} (h : w.heap[b]? = some o) : b < w.heap.size := by
  rcases Nat.lt_or_ge b w.heap.size with hlt | hge
  · exact hlt
  · rw [Array.getElem?_eq_none hge] at h; cases h
theorem Inv.base (h : Inv W L w) : Below W.heap.size W w := h.1
theorem Inv.refl (W : World) : Inv W [] W := ⟨Below.refl _ _, fun p hp => by cases hp⟩
theorem Inv.of_below (h : Below W.heap.size W w) : Inv W [] w := ⟨h, fun p hp => by cases hp⟩
theorem Inv.below (h : Inv W L w) (hb : Below w.heap.size w w') : Inv W L w' :=
  ⟨h.1.trans (hb.mono h.1.size), fun p hp => (hb.block p.1 (heap_lt (h.2 p hp))).trans (h.2 p hp)⟩
theorem Inv.drew (h : Inv W L w) : Inv W L w.drew := ⟨h.1.drew, h.2⟩
theorem Inv.drewN (h : Inv W L w) (n : Nat) : Inv W L (w.drewN n) := ⟨below_drewN h.1 n, h.2⟩
theorem Inv.sub (h : Inv W L w) (hs : ∀ p ∈ L', p ∈ L) : Inv W L' w := ⟨h.1, fun p hp => h.2 p (hs p hp)⟩
theorem Inv.alloc (h : Inv W L w) (o : Obj) : Inv W L (w.alloc o) :=
  ⟨h.1.alloc h.1.size o, fun p hp => (Below.heap_alloc w o p.1 (heap_lt (h.2 p hp))).trans (h.2 p hp)⟩
theorem Inv.new (h : Inv W L w) {b : Nat} {t : TypeId} {cs : Array Value} (hb : w.heap.size = b) : Inv W ((b, t, cs) :: L) (w.alloc (.cells cs t)) := by
  subst hb
  refine ⟨h.1.alloc h.1.size _, fun p hp => ?_⟩
  rcases List.mem_cons.1 hp with rfl | hp
  · exact heap_alloc_new w _
  · exact (h.alloc _).2 p hp
theorem Inv.set {b : Nat} {t : TypeId} {cs : Array Value} (h : Inv W ((b, t, cs) :: L) w) (hb : W.heap.size ≤ b) (hd : ∀ p ∈ L, p.1 ≠ b) (i : Nat) (u : Value) :
    Inv W ((b, t, cs.setIfInBounds i u) :: L) (w.setCell ⟨b, i, none⟩ u) := by
  refine ⟨h.1.setCell hb u, fun p hp => ?_⟩
  rcases List.mem_cons.1 hp with rfl | hp
  · have h0 := h.2 (b, t, cs) (by simp)
    simp only at h0
    simp [World.setCell, Array.getElem?_modify, h0]
  · exact (Below.heap_setCell w _ u p.1 (hd p hp)).trans (h.2 p (by simp [hp]))
theorem Inv.cell (h : Inv W L w) {b : Nat} {t : TypeId} {cs : Array Value} (hp : (b, t, cs) ∈ L) (i : Nat) : w.cell? ⟨b, i, none⟩ = cs[i]? := cell_of_row w b i cs t (0, 0) (h.2 _ hp)
theorem Inv.frozen (h : Inv W L w) {b : Nat} {t : TypeId} {cs : Array Value} (hp : (b, t, cs) ∈ L) (i : Nat) : w.frozen? ⟨b, i, none⟩ = false := by
  have h0 := h.2 _ hp
  simp only at h0
  simp [World.frozen?, h0]
theorem Inv.rename {P : World → Prop} (h : Inv W L w) (hP : ∀ w', Inv W L w' → P w') : P w := hP w h
theorem Inv.lt (h : Inv W L w) {b : Nat} {t : TypeId} {cs : Array Value} (hp : (b, t, cs) ∈ L) : b < w.heap.size := heap_lt (h.2 _ hp)
end
end Go.Proofs.YtcgecalbgkkinaaGreat
