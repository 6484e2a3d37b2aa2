/- One text of: Grw. -/
import Derived.Test.YtcgecalbgkkinaaGreatQSm
namespace Go.Proofs.YtcgecalbgkkinaaGreat
open Go.RowKit Go.Proofs Go.Maps
set_option linter.unusedVariables false

/-- a volume that was shown, in a box beside the state b -/
structure VBox (w : World) (b bx : Nat) (v : Vo) (A : Option Addr) (c : Nat) : Prop where
  blk : Blk w bx 43 (⟨v, A, c⟩ : VoM).cells
  rd : RdI w A v.ch
  nb : bx ≠ b
  na : ∀ a, A = some a → a.block ≠ b
  le : v.ch.length ≤ c
structure CBox (w : World) (b bx : Nat) (k : Ck) (A B : Option Addr) (c d : Nat) : Prop where
  blk : Blk w bx 47 (⟨k, A, c, B, d⟩ : CkM).cells
  ra : RdI w A k.me
  rb : RdI w B k.jo
  nb : bx ≠ b
  na : ∀ a, A = some a → a.block ≠ b
  nb2 : ∀ a, B = some a → a.block ≠ b
section
variable {w w' : World} {b bx : Nat} {v : Vo} {k : Ck} {A B : Option Addr} {c d : Nat}
theorem VBox.below (h : VBox w b bx v A c) (hb : Below w.heap.size w w') : VBox w' b bx v A c := ⟨h.blk.below hb, h.rd.below hb, h.nb, h.na, h.le⟩
theorem VBox.chg (h : VBox w b bx v A c) (hc : Chg [b] w w') : VBox w' b bx v A c := ⟨h.blk.chg hc (by simpa using h.nb), h.rd.chg hc (fun a ha => by simpa using h.na a ha), h.nb, h.na, h.le⟩
theorem CBox.below (h : CBox w b bx k A B c d) (hb : Below w.heap.size w w') : CBox w' b bx k A B c d := ⟨h.blk.below hb, h.ra.below hb, h.rb.below hb, h.nb, h.na, h.nb2⟩
theorem CBox.chg (h : CBox w b bx k A B c d) (hc : Chg [b] w w') : CBox w' b bx k A B c d :=
  ⟨h.blk.chg hc (by simpa using h.nb), h.ra.chg hc (fun a ha => by simpa using h.na a ha), h.rb.chg hc (fun a ha => by simpa using h.nb2 a ha), h.nb, h.na, h.nb2⟩
/-- a volume is shown and put into a box -/
theorem VolOut.box {e : Ending} {v : Vo} (h : VolOut w w' e (some v)) (hb : b < w.heap.size) : ∃ A c, e = .returned (.tuple #[(⟨v, A, c⟩ : VoM).val, .bool true]) ∧ VBox (w'.alloc (.cells (⟨v, A, c⟩ : VoM).cells.toArray 43)) b w'.heap.size v A c ∧ Below w.heap.size w w' := by
  obtain ⟨y, he, hy, ho, hl, hbw⟩ := h
  have hyv : y.v = v := by
    rcases hy with h | ⟨h, _⟩
    · injection h with h; exact h.symm
    · cases h
  obtain ⟨yv, A, c⟩ := y
  simp only [] at hyv
  subst hyv
  have q := (Below.refl w'.heap.size w').alloc (Nat.le_refl _) (.cells (⟨yv, A, c⟩ : VoM).cells.toArray 43)
  exact ⟨A, c, he, ⟨Blk.new rfl, (ho.made.rdI hl).below q, by have := hbw.size; omega, fun a ha => by have := (ho.made.ap a ha).2.1; omega, ho.made.le⟩, hbw⟩
theorem ChOut.box {e : Ending} {k : Ck} (h : ChOut w w' e (some k)) (hb : b < w.heap.size) : ∃ A c B d, e = .returned (.tuple #[(⟨k, A, c, B, d⟩ : CkM).val, .bool true]) ∧ CBox (w'.alloc (.cells (⟨k, A, c, B, d⟩ : CkM).cells.toArray 47)) b w'.heap.size k A B c d ∧ Below w.heap.size w w' := by
  obtain ⟨y, he, hy, hA, hB, hl1, hl2, hbw⟩ := h
  have hyv : y.k = k := by
    rcases hy with h | ⟨h, _⟩
    · injection h with h; exact h.symm
    · cases h
  obtain ⟨yv, A, c, B, d⟩ := y
  simp only [] at hyv
  subst hyv
  have q := (Below.refl w'.heap.size w').alloc (Nat.le_refl _) (.cells (⟨yv, A, c, B, d⟩ : CkM).cells.toArray 47)
  exact ⟨A, c, B, d, he, ⟨Blk.new rfl, (hA.rdI hl1).below q, (hB.rdI hl2).below q, by have := hbw.size; omega, fun a ha => by have := (hA.ap a ha).2.1; omega, fun a ha => by have := (hB.ap a ha).2.1; omega⟩, hbw⟩
end
def p1 : Pol := ⟨0, 1, 0, 0⟩
def g3 (k : Nat) : Vst := ⟨[((0 : Int), (9 : Int)), (1, 9), (2, 9)].take k, [], [], 1⟩
/-- one volume, three servers -/
structure GS (S : Vst) (bl : Int) (ch : List Int) : Prop where
  sv : S.sv = [((0 : Int), (9 : Int)), (1, 9), (2, 9)]
  vs : S.vs = [⟨7, bl, p1, 1, ch⟩]
  vin : VIn S
theorem apply_ok {S S' : Vst} {q : Cmd} (h : S.act q = (S', 0)) (ha : S'.admits = true) : S.apply q = (S', 0) := by
  unfold Vst.apply
  simp only [h, ha]
  rfl
theorem GS.count {S : Vst} {bl : Int} {ch : List Int} {N : Nat} (h : GS S bl ch) (ok : VOk S N) : S.cs.length = ch.length := by
  have hvm : (⟨7, bl, p1, 1, ch⟩ : Vo) ∈ S.vs := by rw [h.vs]; simp
  have hp : (S.cs.map Ck.id).Perm ch := by
    refine (List.perm_ext_iff_of_nodup ok.csr.nodup ((h.vin.vr _ hvm).imp (fun hab => by omega))).2 (fun k => ?_)
    constructor
    · intro hk
      obtain ⟨c, hc, rfl⟩ := List.mem_map.1 hk
      obtain ⟨v, hv, _, h3⟩ := h.vin.cv c hc
      rw [h.vs] at hv
      rw [List.mem_singleton.1 hv] at h3
      exact h3
    · intro hk
      obtain ⟨c, hc, h3, _⟩ := h.vin.vc _ hvm k hk
      exact h3 ▸ List.mem_map_of_mem hc
  have := hp.length_eq
  rwa [List.length_map] at this
theorem GS.len {S : Vst} {bl : Int} {ch : List Int} {N : Nat} (h : GS S bl ch) (ok : VOk S N) : ch.length = ((bl + 7) / 8).toNat := (ok.vsa ⟨7, bl, p1, 1, ch⟩ (by rw [h.vs]; simp)).2.2.2.2.1
end Go.Proofs.YtcgecalbgkkinaaGreat
