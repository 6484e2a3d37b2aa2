/- One text of: Grw. -/
import Derived.Test.YtanfdnpnkdiiiaaGreatQSm
namespace Go.Proofs.YtanfdnpnkdiiiaaGreat
open Go.RowKit Go.Proofs Go.Maps
set_option linter.unusedVariables false

/-- a volume that was shown, in a box beside the state b -/
structure VBox (w : World) (b bx : Nat) (v : Vo) (A : Option Addr) (c : Nat) : Prop where
  blk : Blk w bx 73 (⟨v, A, c⟩ : VoM).cells
  rd : RdI w A v.ch
  nb : bx ≠ b
  na : ∀ a, A = some a → a.block ≠ b
  le : v.ch.length ≤ c
structure CBox (w : World) (b bx : Nat) (k : Ck) (A B : Option Addr) (c d : Nat) : Prop where
  blk : Blk w bx 89 (⟨k, A, c, B, d⟩ : CkM).cells
  ra : RdI w A k.me
  rb : RdI w B k.jo
  nb : bx ≠ b
  na : ∀ a, A = some a → a.block ≠ b
  nb2 : ∀ a, B = some a → a.block ≠ b
section
variable {w w' : World} {b bx : Nat} {v : Vo} {k : Ck} {A B : Option Addr} {c d : Nat}
theorem VBox.below (h : VBox w b bx v A c) (hb : Below w.heap.size w w') : VBox w' b bx v A c := ⟨h.blk.below hb, h.rd.below hb, h.nb, h.na, h.le⟩
theorem VBox.chg (h : VBox w b bx v A c) (hc : Chg [b] w w') : VBox w' b bx v A c := ⟨h.blk.chg hc (by simpa using h.nb), h.rd.chg hc (fun a ha => by simpa using h.na a ha), h.nb, h.na, h.le⟩
theorem CBox.below (h : CBox w b bx k A B c d) (hb : Below w.heap.size w w') : CBox w' b bx k A B c d := ⟨h.blk.below hb, h.ra.below hb, h.rb.below hb, h.nb, h.na, h.nb2⟩
theorem CBox.chg (h : CBox w b bx k A B c d) (hc : Chg [b] w w') : CBox w' b bx k A B c d :=
  ⟨h.blk.chg hc (by simpa using h.nb), h.ra.chg hc (fun a ha => by simpa using h.na a ha), h.rb.chg hc (fun a ha => by simpa using h.nb2 a ha), h.nb, h.na, h.nb2⟩
/-- a volume is shown and put into a box -/
theorem VolOut.box {e : Ending} {v : Vo} (h : VolOut w w' e (some v)) (hb : b < w.heap.size) : ∃ A c, e = .returned (.tuple #[(⟨v, A, c⟩ : VoM).val, .bool true]) ∧ VBox (w'.alloc (.cells (⟨v, A, c⟩ : VoM).cells.toArray 73)) b w'.heap.size v A c ∧ Below w.heap.size w w' := by
  obtain ⟨y, he, hy, ho, hl, hbw⟩ := h
  have hyv : y.v = v := by
    rcases hy with h | ⟨h, _⟩
    · injection h with h; exact h.symm
    · cases h
  obtain ⟨yv, A, c⟩ := y
  simp only [] at hyv
  subst hyv
  have q := (Below.refl w'.heap.size w').alloc (Nat.le_refl _) (.cells (⟨yv, A, c⟩ : VoM).cells.toArray 73)
  exact ⟨A, c, he, ⟨Blk.new rfl, (ho.made.rdI hl).below q, by have := hbw.size; omega, fun a ha => by have := (ho.made.ap a ha).2.1; omega, ho.made.le⟩, hbw⟩
theorem ChOut.box {e : Ending} {k : Ck} (h : ChOut w w' e (some k)) (hb : b < w.heap.size) : ∃ A c B d, e = .returned (.tuple #[(⟨k, A, c, B, d⟩ : CkM).val, .bool true]) ∧ CBox (w'.alloc (.cells (⟨k, A, c, B, d⟩ : CkM).cells.toArray 89)) b w'.heap.size k A B c d ∧ Below w.heap.size w w' := by
  obtain ⟨y, he, hy, hA, hB, hl1, hl2, hbw⟩ := h
  have hyv : y.k = k := by
    rcases hy with h | ⟨h, _⟩
    · injection h with h; exact h.symm
    · cases h
  obtain ⟨yv, A, c, B, d⟩ := y
  simp only [] at hyv
  subst hyv
  have q := (Below.refl w'.heap.size w').alloc (Nat.le_refl _) (.cells (⟨yv, A, c, B, d⟩ : CkM).cells.toArray 89)
  exact ⟨A, c, B, d, he, ⟨Blk.new rfl, (hA.rdI hl1).below q, (hB.rdI hl2).below q, by have := hbw.size; omega, fun a ha => by have := (hA.ap a ha).2.1; omega, fun a ha => by have := (hB.ap a ha).2.1; omega⟩, hbw⟩
end
def p1 : Pol := ⟨0, 1, 0, 0⟩
def g3 (k : Nat) : Vst := ⟨[((0 : Int), (9 : Int)), (1, 9), (2, 9)].take k, [], [], 1⟩
theorem g3_step {k : Nat} (hk : k < 3) : (g3 k).apply ⟨1, k, 9, 0, ⟨0, 0, 0, 0⟩⟩ = (g3 (k + 1), 0) := by
  have hk' : k = 0 ∨ k = 1 ∨ k = 2 := by omega
  rcases hk' with rfl | rfl | rfl
  · have h : (g3 0).act ⟨1, (0 : Nat), 9, 0, ⟨0, 0, 0, 0⟩⟩ = (g3 1, 0) := by simp [Vst.act, Vst.server, ins, g3]
    have h2 : (g3 1).admits = true := by decide
    unfold Vst.apply
    simp only [h, h2]
    rfl
  · have h : (g3 1).act ⟨1, (1 : Nat), 9, 0, ⟨0, 0, 0, 0⟩⟩ = (g3 2, 0) := by simp [Vst.act, Vst.server, ins, g3]
    have h2 : (g3 2).admits = true := by decide
    unfold Vst.apply
    simp only [h, h2]
    rfl
  · have h : (g3 2).act ⟨1, (2 : Nat), 9, 0, ⟨0, 0, 0, 0⟩⟩ = (g3 3, 0) := by simp [Vst.act, Vst.server, ins, g3]
    have h2 : (g3 3).admits = true := by decide
    unfold Vst.apply
    simp only [h, h2]
    rfl
theorem admits_single {S : Vst} {v : Vo} (hv : S.vs = [v]) (hp : ∀ x ∈ S.sv, Go.Proofs.YtanfdnpnkdiiiaaGreat.admits x.2 [] = true ∧ Go.Proofs.YtanfdnpnkdiiiaaGreat.admits x.2 [v.p] = true) : S.admits = true := by
  unfold Vst.admits
  rw [List.all_eq_true]
  intro x hx
  unfold Vst.polOf
  rw [hv, List.filter_cons]
  split
  · exact (hp x hx).2
  · exact (hp x hx).1
/-- one volume, three servers -/
structure GS (S : Vst) (bl : Int) (ch : List Int) : Prop where
  sv : S.sv = [((0 : Int), (9 : Int)), (1, 9), (2, 9)]
  vs : S.vs = [⟨7, bl, p1, 1, ch⟩]
  vin : VIn S
theorem GS.adm {S : Vst} {v : Vo} (hsv : S.sv = [((0 : Int), (9 : Int)), (1, 9), (2, 9)]) (hv : S.vs = [v]) (hp : v.p = p1) : S.admits = true := by
  refine admits_single hv (fun x hx => ?_)
  rw [hsv] at hx
  rw [hp]
  simp only [List.mem_cons, List.not_mem_nil, or_false] at hx
  rcases hx with rfl | rfl | rfl <;> exact ⟨by decide, by decide⟩
theorem grow_vs (S : Vst) (v : Vo) (cp : Int) : (S.grow v cp).sv = S.sv ∧ (S.grow v cp).nx = S.nx + lack v.bl v.ch ∧ (S.grow v cp).vs = ins Vo.id { v with ch := v.ch ++ (List.range (lack v.bl v.ch)).map fun (i : Nat) => S.nx + (i : Int) } S.vs := by
  obtain ⟨g1, g2, g3, g4⟩ := growN_sv (lack v.bl v.ch) S v.id v.ch cp
  unfold Vst.grow
  exact ⟨g1, g3, by simp only []; rw [g2, g4]⟩
theorem apply_ok {S S' : Vst} {q : Cmd} (h : S.act q = (S', 0)) (ha : S'.admits = true) : S.apply q = (S', 0) := by
  unfold Vst.apply
  simp only [h, ha]
  rfl
theorem grows_create (n : Int) (h1 : 1 ≤ n) (h2 : n ≤ 80) : ∃ S, (g3 3).apply ⟨2, 7, n, 2, ⟨0, 1, 0, 0⟩⟩ = (S, 0) ∧ GS S n ((List.range ((n + 7) / 8).toNat).map fun (i : Nat) => 1 + (i : Int)) ∧ S.nx = 1 + ((n + 7) / 8).toNat := by
  have hp : (⟨0, 1, 0, 0⟩ : Pol).ok = true := by decide
  obtain ⟨e1, e2, e3⟩ := grow_vs (g3 3) ⟨7, n, ⟨0, 1, 0, 0⟩, 1, []⟩ 2
  have hlack : lack n [] = ((n + 7) / 8).toNat := by simp [lack]
  have hact : (g3 3).act ⟨2, 7, n, 2, ⟨0, 1, 0, 0⟩⟩ = ((g3 3).grow ⟨7, n, ⟨0, 1, 0, 0⟩, 1, []⟩ 2, 0) := by
    unfold Vst.act
    simp only []
    rw [if_neg (show ¬ (2 : Int) = 1 by decide), if_pos trivial]
    unfold Vst.create
    simp only []
    rw [if_pos ⟨by decide, by decide, h1, by omega, by decide, by decide, hp⟩]
    rfl
  simp only [List.nil_append, hlack] at e2 e3
  have hvs : ((g3 3).grow ⟨7, n, ⟨0, 1, 0, 0⟩, 1, []⟩ 2).vs = [⟨7, n, p1, 1, (List.range ((n + 7) / 8).toNat).map fun (i : Nat) => 1 + (i : Int)⟩] := e3
  have hsv : ((g3 3).grow ⟨7, n, ⟨0, 1, 0, 0⟩, 1, []⟩ 2).sv = [((0 : Int), (9 : Int)), (1, 9), (2, 9)] := e1
  refine ⟨_, apply_ok hact (GS.adm hsv hvs rfl), ⟨hsv, hvs, ?_⟩, e2⟩
  have ok : VOk (g3 3) 3 := by
    refine ⟨by simp [g3, Rise], by simp [g3], by simp [g3, Rise], by simp [g3, Rise], by simp [g3], by simp [g3], by simp [g3], by simp [g3]⟩
  have vi : VIn (g3 3) := ⟨by simp [g3], by simp [g3], by simp [g3], by simp [g3], by simp [g3], by simp [g3]⟩
  have := vi.act ok ⟨2, 7, n, 2, ⟨0, 1, 0, 0⟩⟩
  rw [hact] at this
  exact this
theorem grows_resize {S : Vst} {bl : Int} {ch : List Int} {N : Nat} (h : GS S bl ch) (ok : VOk S N) (m : Int) (h1 : 1 ≤ m) (h2 : m ≤ 80) (ka : Nat) (hka : ((m + 7) / 8).toNat = ka) :
    ∃ S', S.apply ⟨4, 7, m, 0, ⟨0, 0, 0, 0⟩⟩ = (S', 0) ∧ GS S' m (ch.take ka ++ (List.range (lack m (ch.take ka))).map fun (i : Nat) => S.nx + (i : Int)) ∧ S'.nx = S.nx + lack m (ch.take ka) ∧ ∀ c ∈ S.cs, c.id ∈ ch.take ka → c ∈ S'.cs := by
  have hfd : fd Vo.id S.vs 7 = some ⟨7, bl, p1, 1, ch⟩ := by rw [h.vs]; rfl
  have hact : S.act ⟨4, 7, m, 0, ⟨0, 0, 0, 0⟩⟩ = ({ S with cs := outs S.cs (ch.drop ka) }.grow ⟨7, m, p1, 1, ch.take ka⟩ (copiesOf S.cs ch), 0) := by
    unfold Vst.act
    simp only []
    rw [if_neg (show ¬ (4 : Int) = 1 by decide), if_neg (show ¬ (4 : Int) = 2 by decide), if_neg (show ¬ (4 : Int) = 3 by decide), if_pos trivial]
    unfold Vst.resize
    simp only []
    rw [if_pos ⟨h1, by omega⟩, hfd, hka]
  obtain ⟨e1, e2, e3⟩ := grow_vs { S with cs := outs S.cs (ch.drop ka) } ⟨7, m, p1, 1, ch.take ka⟩ (copiesOf S.cs ch)
  simp only [] at e1 e2 e3
  have hsv := e1.trans h.sv
  have hvs : ({ S with cs := outs S.cs (ch.drop ka) }.grow ⟨7, m, p1, 1, ch.take ka⟩ (copiesOf S.cs ch)).vs = [⟨7, m, p1, 1, ch.take ka ++ (List.range (lack m (ch.take ka))).map fun (i : Nat) => S.nx + (i : Int)⟩] := by rw [e3, h.vs]; rfl
  refine ⟨_, apply_ok hact (GS.adm hsv hvs rfl), ⟨hsv, hvs, ?_⟩, e2, fun c hc hin => ?_⟩
  · have := h.vin.act ok ⟨4, 7, m, 0, ⟨0, 0, 0, 0⟩⟩
    rw [hact] at this
    exact this
  · have hvm : (⟨7, bl, p1, 1, ch⟩ : Vo) ∈ S.vs := by rw [h.vs]; simp
    have hnin : c.id ∉ ch.drop ka := fun hx => by
      have hr := h.vin.vr _ hvm
      simp only [] at hr
      rw [← List.take_append_drop ka ch] at hr
      exact Int.lt_irrefl _ ((List.pairwise_append.1 hr).2.2 _ hin _ hx)
    have hc2 : c ∈ outs S.cs (ch.drop ka) := mem_outs.2 ⟨hc, hnin⟩
    have hg := growN_all (P := fun _ => True) (S := { S with cs := outs S.cs (ch.drop ka) }) (id := 7) (cp := copiesOf S.cs ch) (lack m (ch.take ka)) (ch.take ka) (outs_rise ok.csr) (fun c hc => (ok.csa c (mem_outs.1 hc).1).2.1) (fun _ _ => trivial) (fun _ _ _ _ => trivial)
    exact hg.2.2.2.1 c hc2
theorem GS.count {S : Vst} {bl : Int} {ch : List Int} {N : Nat} (h : GS S bl ch) (ok : VOk S N) : S.cs.length = ch.length := by
  have hvm : (⟨7, bl, p1, 1, ch⟩ : Vo) ∈ S.vs := by rw [h.vs]; simp
  have hp : (S.cs.map Ck.id).Perm ch := by
    refine (List.perm_ext_iff_of_nodup ok.csr.nodup ((h.vin.vr _ hvm).imp (fun hab => by omega))).2 (fun k => ?_)
    constructor
    · intro hk
      obtain ⟨c, hc, rfl⟩ := List.mem_map.1 hk
      obtain ⟨v, hv, _, h3⟩ := h.vin.cv c hc
      rw [h.vs] at hv
      rw [List.mem_singleton.1 hv] at h3
      exact h3
    · intro hk
      obtain ⟨c, hc, h3, _⟩ := h.vin.vc _ hvm k hk
      exact h3 ▸ List.mem_map_of_mem hc
  have := hp.length_eq
  rwa [List.length_map] at this
theorem GS.len {S : Vst} {bl : Int} {ch : List Int} {N : Nat} (h : GS S bl ch) (ok : VOk S N) : ch.length = ((bl + 7) / 8).toNat := (ok.vsa ⟨7, bl, p1, 1, ch⟩ (by rw [h.vs]; simp)).2.2.2.2.1
end Go.Proofs.YtanfdnpnkdiiiaaGreat
