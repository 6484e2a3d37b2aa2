/- One text of: Cl Cl2 Cl3. -/
import Derived.Deep.CutRange
import Derived.Deep.CutBlock
import Derived.Test.YtanfdnpnkdiiiaaGreatQTrk
import Derived.Test.YtanfdnpnkdiiiaaGreatQVmh
import Derived.Test.YtanfdnpnkdiiiaaGreatQPack
import Derived.Test.YtanfdnpnkdiiiaaGreatQByz
namespace Go.Proofs.YtanfdnpnkdiiiaaGreat
open Go.RowKit Go.Proofs Go.Maps
set_option linter.unusedVariables false
set_option linter.unusedSimpArgs false

/-- a message that was sent: to whom, its numbers, how many bytes it has -/
structure Po where
  dst : Int
  n : List Int
  b : Nat
structure Wk where
  kind : Nat
  from_ : Nat
  many : Nat
  read : List Nat
  done : Nat
  since : Nat
  asked : Bool
structure An where
  e : Nat
  b : List Nat
  done : Nat
structure Cl where
  id : Nat
  num : Nat
  tr : Trk
  cur : Option Wk
  ans : Option An
  out : List Po
/-- what is asked of volume 4: the chunk's number, its first member -/
abbrev Prim := Nat → Int × Int
def Wk.at_ (k : Wk) : Nat := k.from_ + k.done
def Wk.post (k : Wk) (id num : Nat) (q : Int × Int) (x : Cnt) : Po :=
  ⟨40 + q.2, [q.1, id, num, k.kind, ((k.at_ % 8 : Nat) : Int), 4, x.d, x.r], if k.kind = 1 then 16 else 0⟩
def Cl.send (X : Cl) (pr : Prim) (k : Wk) : Cl :=
  let q := pr (k.at_ / 8)
  { X with cur := some { k with asked := true }, tr := if k.asked then X.tr else X.tr.beg q.2, out := X.out ++ [k.post X.id X.num q (if k.asked then .zero else X.tr.delta q.2)] }
def Cl.end_ (X : Cl) (k : Wk) (e : Nat) : Cl := { X with cur := none, ans := some ⟨e, if e = 0 then k.read else [], k.done⟩ }
def Cl.next (X : Cl) (pr : Prim) (k : Wk) : Cl :=
  if k.done = k.many then X.end_ k 0 else ({ X with num := X.num + 1 } : Cl).send pr { k with since := 0, asked := false }
def Cl.begin (X : Cl) (pr : Prim) (kind from_ many : Nat) : Cl := X.next pr ⟨kind, from_, many, [], 0, 0, false⟩
def Cl.okay (X : Cl) (pr : Prim) (k : Wk) (s p : Int) (L : List Nat) : Cl := ({ X with tr := X.tr.fin s p } : Cl).next pr { k with read := k.read ++ L, done := k.done + 1 }
/-- a tick while something is under way -/
def Cl.tick (X : Cl) (pr : Prim) (k : Wk) : Cl :=
  if 80 ≤ k.since + 1 then X.end_ k 19 else if (k.since + 1) % 4 = 0 then X.send pr { k with since := k.since + 1 } else { X with cur := some { k with since := k.since + 1 } }
/-- volume 4 of a state has so many blocks, and these first members -/
structure Seen (S : Vst) (bl : Nat) (pr : Prim) : Prop where
  v : ∃ v, fd Vo.id S.vs 4 = some v ∧ v.bl = bl ∧ v.ch.length ≤ 512 ∧ ∀ k, k * 8 < bl → ∃ i x, v.ch[k]? = some i ∧ i64ok i ∧ fd Ck.id S.cs i = some x ∧ x.id = (pr k).1 ∧ x.me.head? = some (pr k).2
  bl : bl ≤ 512
  me : ∀ k, 0 ≤ (pr k).2 ∧ (pr k).2 ≤ 15

/-- a state of volumes, beside the blocks F, which may turn -/
def VF (F : List Nat) (w : World) (b : Nat) (S : Vst) : Prop := ∃ no m1 m2 m3 V C, VM w no b m1 m2 m3 S V C ∧ ∀ x ∈ F, x ∈ no ∧ x ≠ b ∧ x ≠ m1 ∧ x ≠ m2 ∧ x ≠ m3
theorem VF.chg {F L : List Nat} {w w' : World} {b : Nat} {S : Vst} (h : VF F w b S) (hc : Chg L w w') (hL : ∀ x ∈ L, x ∈ F ∨ w.heap.size ≤ x) : VF F w' b S := by
  obtain ⟨no, m1, m2, m3, V, C, h, hk⟩ := h
  refine ⟨no, m1, m2, m3, V, C, h.other hc (fun x hx => ?_), hk⟩
  rcases hL x hx with h1 | h1
  · exact ⟨Or.inl (hk x h1).1, (hk x h1).2⟩
  · have g0 := h.blk.lt
    have g1 := h.t1.gm.lt
    have g2 := h.t2.gm.lt
    have g3 := h.t3.gm.lt
    exact ⟨Or.inr h1, by omega, by omega, by omega, by omega⟩
theorem VF.sub {F F' : List Nat} {w : World} {b : Nat} {S : Vst} (h : VF F w b S) (hs : ∀ x ∈ F', x ∈ F) : VF F' w b S := by
  obtain ⟨no, m1, m2, m3, V, C, h, hk⟩ := h
  exact ⟨no, m1, m2, m3, V, C, h, fun x hx => hk x (hs x hx)⟩
/-- the world goes on, and F grows by what is new -/
theorem VF.grow {F F' L : List Nat} {w w' : World} {b : Nat} {S : Vst} (h : VF F w b S) (hc : Chg L w w') (hL : ∀ x ∈ L, x ∈ F ∨ w.heap.size ≤ x) (hF : ∀ x ∈ F', (x ∈ F ∨ w.heap.size ≤ x) ∧ x < w'.heap.size) : VF F' w' b S := by
  obtain ⟨no, m1, m2, m3, V, C, h, hk⟩ := h
  have g0 := h.blk.lt
  have g1 := h.t1.gm.lt
  have g2 := h.t2.gm.lt
  have g3 := h.t3.gm.lt
  have hq : ∀ x, x ∈ F ∨ w.heap.size ≤ x → (x ∈ no ∨ w.heap.size ≤ x) ∧ x ≠ b ∧ x ≠ m1 ∧ x ≠ m2 ∧ x ≠ m3 := fun x hx => by
    rcases hx with h1 | h1
    · exact ⟨Or.inl (hk x h1).1, (hk x h1).2⟩
    · exact ⟨Or.inr h1, by omega, by omega, by omega, by omega⟩
  exact ⟨F' ++ no, m1, m2, m3, V, C, h.grow hc (fun x hx => hq x (hL x hx)) (G := F') (fun g hg => ⟨(hq g (hF g hg).1).1, (hF g hg).2⟩), fun x hx => ⟨List.mem_append_left _ hx, (hq x (hF x hx).1).2⟩⟩
theorem VF.lt {F : List Nat} {w : World} {b : Nat} {S : Vst} (h : VF F w b S) : b < w.heap.size := by
  obtain ⟨no, m1, m2, m3, V, C, h, hk⟩ := h
  exact h.blk.lt
theorem GM.cnt {w : World} {b c c' : Nat} {f f' : Int → Option Value} (h : GM w b c f) (h' : GM w b c' f') : c = c' := by
  have h1 := h.len (mt := 94) Tryz.underlying94 3
  rw [h'.len (mt := 94) Tryz.underlying94 3] at h1
  simp only [Result.ok.injEq, Value.int.injEq, true_and, and_true] at h1
  omega
structure PoM where
  p : Po
  nb : Nat
  B : Option Addr
  c : Nat
def PoM.cells (x : PoM) : List Value := [.int .i64 x.p.dst, .int .i64 15, .slice (some ⟨x.nb, 0, none⟩) 8 8, .slice x.B x.p.b x.c, .slice none 0 0]
def poCells (P : List PoM) : List Value := P.flatMap PoM.cells
structure PoOk (w : World) (F : List Nat) (x : PoM) : Prop where
  len : x.p.n.length = 8
  blk : Blk w x.nb 3 (x.p.n.map (Value.int .i64))
  no : x.nb ∉ F
theorem PoOk.chg {F F' L : List Nat} {w w' : World} {x : PoM} (h : PoOk w F x) (hc : Chg L w w') (hL : ∀ z ∈ L, z ∈ F ∨ w.heap.size ≤ z) (hF : ∀ z ∈ F', z ∈ F ∨ w.heap.size ≤ z) : PoOk w' F' x :=
  ⟨h.len, h.blk.chg hc (fun hx => by
    rcases hL _ hx with h1 | h1
    · exact h.no h1
    · have := h.blk.lt; omega), fun hx => by
    rcases hF _ hx with h1 | h1
    · exact h.no h1
    · have := h.blk.lt; omega⟩
/-- what was sent, and not fetched -/
def OutM (w : World) (F Fo : List Nat) (v : Value) (l : List Po) : Prop :=
  ∃ P : List PoM, P.map PoM.p = l ∧ w.ownsRow 0 40 5 v P.length (poCells P) ∧ Fo = v.ownBlock.toList ∧ ∀ x ∈ P, PoOk w F x
/-- an operation under way: all but what was asked -/
def CurB (w : World) (Fc : List Nat) (v : Value) (k : Wk) (av : Value) : Prop :=
  ∃ cb rv B cB bl, v = .pointer (some ⟨cb, 0, none⟩) ∧ Fc = cb :: rv.ownBlock.toList ∧
    Blk w cb 82 [.int .i64 k.kind, .int .i64 4, .int .i64 k.from_, .int .i64 k.many, .slice B bl cB, rv, .int .i64 k.done, .int .i64 k.since, av] ∧
    bl ≤ cB ∧ (k.kind = 1 → bl = k.many * 16) ∧ w.ownsRow 0 5 1 rv k.read.length (bys k.read)
/-- which servers were asked for this block -/
def Asked (w : World) (pr : Prim) (ma : Nat) (k : Wk) : Prop :=
  if k.asked then GM w ma 1 (updV (fun _ => none) (pr (k.at_ / 8)).2 (some (.bool true))) else GM w ma 0 (fun _ => none)
def CurM (w : World) (pr : Prim) (Fc : List Nat) (v : Value) : Option Wk → Prop
  | none => v = .pointer none ∧ Fc = []
  | some k => ∃ ma Fb, Fc = ma :: Fb ∧ CurB w Fb v k (.map (some ma)) ∧ Asked w pr ma k
def AnsM (w : World) (F Fa : List Nat) (v : Value) : Option An → Prop
  | none => v = .pointer none ∧ Fa = []
  | some a => ∃ ab A c, v = .pointer (some ⟨ab, 0, none⟩) ∧ Fa = [ab] ∧ Blk w ab 45 [.int .i64 a.e, .slice A a.b.length c, .int .i64 a.done] ∧ Rb w F A c a.b
/-- the trackers: none, or one, of volume 4 -/
def TrM (w : World) (Ft : List Nat) (mt n : Nat) (T : Trk) : Prop :=
  (Ft = [mt] ∧ GM w mt 0 (fun _ => none) ∧ T = Trk.zero) ∨
    ∃ tb Fu, Ft = mt :: Fu ∧ GM w mt 1 (updV (fun _ => none) 4 (some (.pointer (some ⟨tb, 0, none⟩)))) ∧ TM w Fu tb n T
section
variable {w w' : World} {L F F' Ft Fc Fa Fo : List Nat} {pr : Prim} {v av : Value} {mt n : Nat}
theorem OutM.chg {l : List Po} (h : OutM w F Fo v l) (hc : Chg L w w') (hL : ∀ z ∈ L, z ∈ F ∨ w.heap.size ≤ z) (hF : ∀ z ∈ F', z ∈ F ∨ w.heap.size ≤ z) (hn : ∀ z ∈ Fo, z ∉ L) : OutM w' F' Fo v l := by
  obtain ⟨P, h1, h2, h3, h4⟩ := h
  exact ⟨P, h1, own_chg h2 hc (fun g hg => hn g (by rw [h3, hg]; simp)), h3, fun x hx => (h4 x hx).chg hc hL hF⟩
theorem CurB.chg {k : Wk} (h : CurB w Fc v k av) (hc : Chg L w w') (hn : ∀ z ∈ Fc, z ∉ L) : CurB w' Fc v k av := by
  obtain ⟨cb, rv, B, cB, bl, h1, h2, h3, h4, h5, h6⟩ := h
  subst h2
  exact ⟨cb, rv, B, cB, bl, h1, rfl, h3.chg hc (hn cb (by simp)), h4, h5, own_chg h6 hc (fun g hg => hn g (by simp [hg]))⟩
theorem Asked.chg {k : Wk} {ma : Nat} (h : Asked w pr ma k) (hc : Chg L w w') (hn : ma ∉ L) : Asked w' pr ma k := by
  unfold Asked at h ⊢
  split
  · rename_i h1; rw [if_pos h1] at h; exact h.chg hc hn
  · rename_i h1; rw [if_neg h1] at h; exact h.chg hc hn
theorem CurM.chg {k : Option Wk} (h : CurM w pr Fc v k) (hc : Chg L w w') (hn : ∀ z ∈ Fc, z ∉ L) : CurM w' pr Fc v k := by
  cases k with
  | none => exact h
  | some k =>
    obtain ⟨ma, Fb, rfl, h1, h2⟩ := h
    exact ⟨ma, Fb, rfl, h1.chg hc (fun z hz => hn z (List.mem_cons_of_mem _ hz)), h2.chg hc (hn ma (by simp))⟩
theorem AnsM.chg {a : Option An} (h : AnsM w F Fa v a) (hc : Chg L w w') (hL : ∀ z ∈ L, z ∈ F ∨ w.heap.size ≤ z) (hF : ∀ z ∈ F', z ∈ F ∨ w.heap.size ≤ z) (hn : ∀ z ∈ Fa, z ∉ L) : AnsM w' F' Fa v a := by
  cases a with
  | none => exact h
  | some a =>
    obtain ⟨ab, A, c, h1, rfl, h2, h3⟩ := h
    have h4 := (h3.chg hc hL)
    refine ⟨ab, A, c, h1, rfl, h2.chg hc (hn ab (by simp)), h4.le, h4.rd, fun a ha => ⟨(h4.ap a ha).1, fun hx => ?_, (h4.ap a ha).2.2⟩⟩
    rcases hF _ hx with h5 | h5
    · exact (h3.ap a ha).2.1 h5
    · have := (h3.ap a ha).2.2; omega
theorem TrM.chg {T : Trk} (h : TrM w Ft mt n T) (hc : Chg L w w') (hn : ∀ z ∈ Ft, z ∉ L) : TrM w' Ft mt n T := by
  rcases h with ⟨rfl, h1, h2⟩ | ⟨tb, Fu, rfl, h1, h2⟩
  · exact Or.inl ⟨rfl, h1.chg hc (hn _ (by simp)), h2⟩
  · exact Or.inr ⟨tb, Fu, rfl, h1.chg hc (hn _ (by simp)), h2.chg hc (fun z hz => hn z (List.mem_cons_of_mem _ hz))⟩
theorem TrM.mono {T : Trk} {n' : Nat} (h : TrM w Ft mt n T) (hn : n ≤ n') : TrM w Ft mt n' T := by
  rcases h with ⟨rfl, h1, h2⟩ | ⟨tb, Fu, rfl, h1, h2⟩
  · exact Or.inl ⟨rfl, h1, h2⟩
  · exact Or.inr ⟨tb, Fu, rfl, h1, h2.mono hn⟩
theorem TrM.le {T : Trk} (h : TrM w Ft mt n T) : T.Le n := by
  rcases h with ⟨rfl, h1, rfl⟩ | ⟨tb, Fu, rfl, h1, h2⟩
  · exact .zero n
  · exact h2.1
end
/-- a view: where it lies, and what it is -/
abbrev Vw := Nat × Vst
def StM (w : World) (F : List Nat) (xp : Value) : Option Vw → Prop
  | none => xp = .pointer none
  | some S => xp = .pointer (some ⟨S.1, 0, none⟩) ∧ VF F w S.1 S.2
theorem StM.grow {w w' : World} {L F F' : List Nat} {so : Option Vw} {xp : Value} (h : StM w F xp so) (hc : Chg L w w') (hL : ∀ z ∈ L, z ∈ F ∨ w.heap.size ≤ z) (hF : ∀ z ∈ F', (z ∈ F ∨ w.heap.size ≤ z) ∧ z < w'.heap.size) : StM w' F' xp so := by
  cases so with
  | none => exact h
  | some S =>
    exact ⟨h.1, h.2.grow hc hL hF⟩
/-- a client at block c, its blocks F; n bounds what was counted; U tells of what is under way -/
structure CP (w : World) (F : List Nat) (c : Nat) (so : Option Vw) (n : Nat) (X : Cl) (U : World → List Nat → Value → Prop) (xp : Value) (mt : Nat) (cur ans out : Value) (Ft Fc Fa Fo : List Nat) : Prop where
  blk : Blk w c 62 [.int .i64 X.id, .int .i64 X.num, xp, .map (some mt), cur, ans, out]
  eF : F = c :: (Ft ++ Fc ++ Fa ++ Fo)
  nd : F.Nodup
  lt : ∀ x ∈ F, x < w.heap.size
  st : StM w F xp so
  tr : TrM w Ft mt n X.tr
  cu : U w Fc cur
  an : AnsM w F Fa ans X.ans
  ou : OutM w F Fo out X.out
def CM (w : World) (F : List Nat) (c : Nat) (so : Option Vw) (pr : Prim) (n : Nat) (X : Cl) : Prop :=
  ∃ xp mt cur ans out Ft Fc Fa Fo, CP w F c so n X (fun w Fc v => CurM w pr Fc v X.cur) xp mt cur ans out Ft Fc Fa Fo
/-- a client whose operation is k, and nobody knows who was asked -/
def CN (w : World) (F : List Nat) (c : Nat) (so : Option Vw) (n : Nat) (X : Cl) (k : Wk) : Prop :=
  ∃ av xp mt cur ans out Ft Fc Fa Fo, CP w F c so n X (fun w Fc v => CurB w Fc v k av) xp mt cur ans out Ft Fc Fa Fo
/-- what a call leaves: the client, turned; nothing else but what is new -/
def CO (w w' : World) (F : List Nat) (c : Nat) (so : Option Vw) (pr : Prim) (n : Nat) (X : Cl) : Prop :=
  ∃ F', CM w' F' c so pr n X ∧ Chg F w w' ∧ ∀ x ∈ F', x ∈ F ∨ w.heap.size ≤ x
section
variable {w w' : World} {L F : List Nat} {c n mt : Nat} {so : Option Vw} {pr : Prim} {X : Cl} {U : World → List Nat → Value → Prop} {xp cur ans out : Value} {Ft Fc Fa Fo : List Nat}
theorem CP.dj (h : CP w F c so n X U xp mt cur ans out Ft Fc Fa Fo) :
    ((∀ z ∈ Ft, z ≠ c ∧ z ∉ Fc ∧ z ∉ Fa ∧ z ∉ Fo) ∧ (∀ z ∈ Fc, z ≠ c ∧ z ∉ Ft ∧ z ∉ Fa ∧ z ∉ Fo) ∧ (∀ z ∈ Fa, z ≠ c ∧ z ∉ Ft ∧ z ∉ Fc ∧ z ∉ Fo) ∧ (∀ z ∈ Fo, z ≠ c ∧ z ∉ Ft ∧ z ∉ Fc ∧ z ∉ Fa)) ∧ (Ft.Nodup ∧ Fc.Nodup ∧ Fa.Nodup ∧ Fo.Nodup) ∧ c ∉ Ft ∧ c ∉ Fc ∧ c ∉ Fa ∧ c ∉ Fo := by
  have h1 := h.nd
  rw [h.eF] at h1
  simp only [List.nodup_cons, List.nodup_append, List.mem_append, not_or] at h1
  obtain ⟨⟨⟨⟨a1, a2⟩, a3⟩, a4⟩, ⟨⟨n1, n2, d1⟩, n3, d2⟩, n4, d3⟩ := h1
  exact ⟨⟨fun z hz => ⟨fun e => a1 (e ▸ hz), fun hx => d1 z hz z hx rfl, fun hx => d2 z (Or.inl hz) z hx rfl, fun hx => d3 z (Or.inl (Or.inl hz)) z hx rfl⟩,
    fun z hz => ⟨fun e => a2 (e ▸ hz), fun hx => d1 z hx z hz rfl, fun hx => d2 z (Or.inr hz) z hx rfl, fun hx => d3 z (Or.inl (Or.inr hz)) z hx rfl⟩,
    fun z hz => ⟨fun e => a3 (e ▸ hz), fun hx => d2 z (Or.inl hx) z hz rfl, fun hx => d2 z (Or.inr hx) z hz rfl, fun hx => d3 z (Or.inr hz) z hx rfl⟩,
    fun z hz => ⟨fun e => a4 (e ▸ hz), fun hx => d3 z (Or.inl (Or.inl hx)) z hz rfl, fun hx => d3 z (Or.inl (Or.inr hx)) z hz rfl, fun hx => d3 z (Or.inr hx) z hz rfl⟩⟩, ⟨n1, n2, n3, n4⟩, a1, a2, a3, a4⟩
theorem nd_of {c : Nat} {Ft Fc Fa Fo : List Nat} (h : ((∀ z ∈ Ft, z ≠ c ∧ z ∉ Fc ∧ z ∉ Fa ∧ z ∉ Fo) ∧ (∀ z ∈ Fc, z ≠ c ∧ z ∉ Ft ∧ z ∉ Fa ∧ z ∉ Fo) ∧ (∀ z ∈ Fa, z ≠ c ∧ z ∉ Ft ∧ z ∉ Fc ∧ z ∉ Fo) ∧ (∀ z ∈ Fo, z ≠ c ∧ z ∉ Ft ∧ z ∉ Fc ∧ z ∉ Fa)) ∧ (Ft.Nodup ∧ Fc.Nodup ∧ Fa.Nodup ∧ Fo.Nodup)) : (c :: (Ft ++ Fc ++ Fa ++ Fo)).Nodup := by
  simp only [List.nodup_cons, List.nodup_append, List.mem_append, not_or]
  grind
theorem CP.mem (h : CP w F c so n X U xp mt cur ans out Ft Fc Fa Fo) : c ∈ F ∧ (∀ z ∈ Ft, z ∈ F) ∧ (∀ z ∈ Fc, z ∈ F) ∧ (∀ z ∈ Fa, z ∈ F) ∧ (∀ z ∈ Fo, z ∈ F) := by
  rw [h.eF]
  simp only [List.mem_cons, List.mem_append]
  grind
theorem CM.lt (h : CM w F c so pr n X) : ∀ x ∈ F, x < w.heap.size := by
  obtain ⟨_, _, _, _, _, _, _, _, _, h⟩ := h
  exact h.lt
theorem CM.memc (h : CM w F c so pr n X) : c ∈ F := by
  obtain ⟨_, _, _, _, _, _, _, _, _, h⟩ := h
  exact h.mem.1
theorem CM.cN {k : Wk} (h : CM w F c so pr n X) (hk : X.cur = some k) : ∃ F', CN w F' c so n X k ∧ ∀ x ∈ F', x ∈ F := by
  obtain ⟨xp, mt, cur, ans, out, Ft, Fc, Fa, Fo, h⟩ := h
  have hc : CurM w pr Fc cur X.cur := h.cu
  have hd := h.dj
  have hm := h.mem
  rw [hk] at hc
  obtain ⟨ma, Fb, rfl, h1, h2⟩ := hc
  have hs : ∀ x ∈ c :: (Ft ++ Fb ++ Fa ++ Fo), x ∈ F := fun x hx => by
    simp only [List.mem_cons, List.mem_append] at hx
    grind
  have hnd : (c :: (Ft ++ Fb ++ Fa ++ Fo)).Nodup := nd_of (by
    simp only [List.nodup_cons, List.mem_cons, not_or] at hd
    grind)
  refine ⟨_, ⟨_, xp, mt, cur, ans, out, Ft, Fb, Fa, Fo, h.blk, rfl, hnd, fun x hx => h.lt x (hs x hx), ?_, h.tr, h1, ?_, ?_⟩, hs⟩
  · exact h.st.grow (L := []) (Chg.refl _ _) (by simp) (fun z hz => ⟨Or.inl (hs z hz), h.lt z (hs z hz)⟩)
  · exact h.an.chg (L := []) (Chg.refl _ _) (by simp) (fun z hz => Or.inl (hs z hz)) (by simp)
  · exact h.ou.chg (L := []) (Chg.refl _ _) (by simp) (fun z hz => Or.inl (hs z hz)) (by simp)
/-- the world goes on beside it -/
theorem CP.chg (h : CP w F c so n X U xp mt cur ans out Ft Fc Fa Fo) (hc : Chg L w w') (hL : ∀ z ∈ L, w.heap.size ≤ z) (hU : U w Fc cur → U w' Fc cur) : CP w' F c so n X U xp mt cur ans out Ft Fc Fa Fo := by
  have hL2 : ∀ z ∈ L, z ∈ F ∨ w.heap.size ≤ z := fun z hz => Or.inr (hL z hz)
  have hn : ∀ z ∈ F, z ∉ L := fun z hz hx => by have h1 := hL z hx; have h2 := h.lt z hz; omega
  have hF : ∀ z ∈ F, z ∈ F ∨ w.heap.size ≤ z := fun z hz => Or.inl hz
  have hm := h.mem
  exact ⟨h.blk.chg hc (hn c hm.1), h.eF, h.nd, fun x hx => Nat.lt_of_lt_of_le (h.lt x hx) hc.size, h.st.grow hc hL2 (fun z hz => ⟨Or.inl hz, Nat.lt_of_lt_of_le (h.lt z hz) hc.size⟩), h.tr.chg hc (fun z hz => hn z (hm.2.1 z hz)), hU h.cu, h.an.chg hc hL2 hF (fun z hz => hn z (hm.2.2.2.1 z hz)), h.ou.chg hc hL2 hF (fun z hz => hn z (hm.2.2.2.2 z hz))⟩
theorem CM.below (h : CM w F c so pr n X) (hb : Below w.heap.size w w') : CM w' F c so pr n X := by
  obtain ⟨xp, mt, cur, ans, out, Ft, Fc, Fa, Fo, h⟩ := h
  exact ⟨xp, mt, cur, ans, out, Ft, Fc, Fa, Fo, h.chg (L := []) (Chg.of_below hb) (fun z hz => by cases hz) (fun h1 => h1.chg (Chg.of_below (L := []) hb) (by simp))⟩
theorem CN.below {k : Wk} (h : CN w F c so n X k) (hb : Below w.heap.size w w') : CN w' F c so n X k := by
  obtain ⟨av, xp, mt, cur, ans, out, Ft, Fc, Fa, Fo, h⟩ := h
  exact ⟨av, xp, mt, cur, ans, out, Ft, Fc, Fa, Fo, h.chg (L := []) (Chg.of_below hb) (fun z hz => by cases hz) (fun h1 => h1.chg (Chg.of_below (L := []) hb) (by simp))⟩
/-- the client's own block turns, and what it holds -/
theorem CP.turn {F' : List Nat} {X' : Cl} {so' : Option Vw} {U' : World → List Nat → Value → Prop} {xp' cur' ans' out' : Value} {Fc' Fa' Fo' : List Nat} (h : CP w F c so n X U xp mt cur ans out Ft Fc Fa Fo) (hc : Chg [c] w w')
    (hb : Blk w' c 62 [.int .i64 X'.id, .int .i64 X'.num, xp', .map (some mt), cur', ans', out'])
    (eF : F' = c :: (Ft ++ Fc' ++ Fa' ++ Fo')) (nd : F'.Nodup) (hF : ∀ z ∈ F', (z ∈ F ∨ w.heap.size ≤ z) ∧ z < w'.heap.size)
    (st : StM w' F' xp' so') (tr : X'.tr = X.tr)
    (cu : U' w' Fc' cur') (an : AnsM w' F' Fa' ans' X'.ans) (ou : OutM w' F' Fo' out' X'.out) : CP w' F' c so' n X' U' xp' mt cur' ans' out' Ft Fc' Fa' Fo' :=
  ⟨hb, eF, nd, fun x hx => (hF x hx).2, st, by rw [tr]; exact h.tr.chg hc (fun z hz => by have := (h.dj.1.1 z hz).1; simpa using this), cu, an, ou⟩
end
end Go.Proofs.YtanfdnpnkdiiiaaGreat

namespace Go.Proofs.YtanfdnpnkdiiiaaGreat
open Go.RowKit Go.Proofs Go.Maps
set_option linter.unusedVariables false
set_option linter.unusedSimpArgs false

theorem ptr_eql_nil (x : Option Addr) : True := trivial
set_option maxHeartbeats 1000000 in
theorem where_calls (n : Nat) (w : World) (hn : n ≤ 1000000) : Calls Tryz.prog 55 #[.int .i64 n] w fun e w' => e = .returned (.tuple #[.int .i64 ((n / 8 : Nat) : Int), .int .i64 ((n % 8 : Nat) : Int)]) ∧ w = w' := by
  have h0 : decide ((n : Int) < 0) = false := by simp
  have h1 : IntKind.i64.wrap (Int.tdiv (n : Int) 8) = ((n / 8 : Nat) : Int) := by rw [Int.tdiv_eq_ediv_of_nonneg (by omega)]; rw [IntWalk.i64_in _ (by omega)]; omega
  have h2 : IntKind.i64.wrap (Int.tmod (n : Int) 8) = ((n % 8 : Nat) : Int) := by rw [Int.tmod_eq_emod_of_nonneg (by omega)]; rw [IntWalk.i64_in _ (by omega)]; omega
  go_enter Tryz.func55, Tryz.ntmps55
  go_wp2
  refine bodyPost_ret (v := .tuple #[.int .i64 ((n / 8 : Nat) : Int), .int .i64 ((n % 8 : Nat) : Int)]) (by simp [results, Tryz.results55, go_sem, *]) rfl ?_
  exact ⟨rfl, rfl⟩
theorem CurM.isSome {w : World} {pr : Prim} {Fc : List Nat} {v : Value} {k : Option Wk} (h : CurM w pr Fc v k) : ∃ p, v = .pointer p ∧ p.isSome = k.isSome := by
  cases k with
  | none => exact ⟨none, h.1, rfl⟩
  | some k =>
    obtain ⟨ma, Fb, _, ⟨cb, rv, B, cB, bl, h1, _⟩, _⟩ := h
    exact ⟨_, h1, rfl⟩
theorem AnsM.isSome {w : World} {F Fa : List Nat} {v : Value} {a : Option An} (h : AnsM w F Fa v a) : ∃ p, v = .pointer p ∧ p.isSome = a.isSome := by
  cases a with
  | none => exact ⟨none, h.1, rfl⟩
  | some k =>
    obtain ⟨ab, A, c, h1, _⟩ := h
    exact ⟨_, h1, rfl⟩
section
variable {w : World} {F : List Nat} {c n : Nat} {so : Option Vw} {pr : Prim} {X : Cl}
set_option maxHeartbeats 1000000 in
theorem cbusy_calls (h : CM w F c so pr n X) : Calls Tryz.prog 17 #[.pointer (some ⟨c, 0, none⟩)] w fun e w' => e = .returned (.bool (X.cur.isSome || X.ans.isSome)) ∧ w = w' := by
  obtain ⟨xp, mt, cur, ans, out, Ft, Fc, Fa, Fo, h⟩ := h
  obtain ⟨p, rfl, hp⟩ := CurM.isSome h.cu
  obtain ⟨q, rfl, hq⟩ := AnsM.isSome h.an
  have e4 := h.blk.cell 4
  have e5 := h.blk.cell 5
  simp only [List.getElem?_cons_succ, List.getElem?_cons_zero] at e4 e5
  rw [← hp, ← hq]
  clear hp hq h
  cases p <;> cases q <;> (go_enter Tryz.func17, Tryz.ntmps17; go_wp2; go_ret; exact ⟨rfl, rfl⟩)
set_option maxHeartbeats 1000000 in
theorem cnum_calls (h : CM w F c so pr n X) : Calls Tryz.prog 13 #[.pointer (some ⟨c, 0, none⟩)] w fun e w' => e = .returned (.int .i64 X.num) ∧ w = w' := by
  obtain ⟨xp, mt, cur, ans, out, Ft, Fc, Fa, Fo, h⟩ := h
  have e4 := h.blk.cell 1
  simp only [List.getElem?_cons_succ, List.getElem?_cons_zero] at e4
  clear h
  go_enter Tryz.func13, Tryz.ntmps13
  go_wp2
  go_ret
  exact ⟨rfl, rfl⟩
set_option maxHeartbeats 1000000 in
theorem cflush_calls (h : CM w F c so pr n X) : Calls Tryz.prog 16 #[.pointer (some ⟨c, 0, none⟩)] w fun e w' => e = .returned (.int .i64 (if X.cur.isSome || X.ans.isSome then 18 else 0)) ∧ w = w' := by
  have H := hide (cbusy_calls h)
  clear h
  cases hb : (X.cur.isSome || X.ans.isSome) <;> rw [hb] at H <;> clear hb <;> (go_enter Tryz.func16, Tryz.ntmps16; go_wp2_with fail; refine H.out.mono ?_; rintro e w' ⟨rfl, rfl⟩; go_wp2; go_ret; exact ⟨rfl, rfl⟩)
end
theorem ownsRow_nil (w : World) (e : TypeId) (s : Nat) : w.ownsRow 0 e s (.slice none 0 0) 0 [] := ⟨by simp, Or.inl ⟨rfl, rfl⟩⟩
set_option maxHeartbeats 1000000 in
theorem cnew_calls (id : Nat) (hid : id ≤ 15) (pr : Prim) (w : World) : Calls Tryz.prog 7 #[.int .i64 id] w fun e w' => ∃ c F mt, e = .returned (.pointer (some ⟨c, 0, none⟩)) ∧ F = [c, mt] ∧ GM w' mt 0 (fun _ => none) ∧ CM w' F c none pr 0 ⟨id, 0, .zero, none, none, []⟩ ∧ Below w.heap.size w w' ∧ ∀ x ∈ F, w.heap.size ≤ x := by
  have hmm := @run_makeMap Tryz.prog
  have h0 : decide ((id : Int) < 0) = false := by simp
  have h1 : decide ((15 : Int) < id) = false := by simp; omega
  go_enter Tryz.func7, Tryz.ntmps7
  go_wp2
  go_ret
  have hg := GM.made w
  have hb : Blk ((w.alloc (.map #[] 0)).alloc (.cells #[.int .i64 id, .int .i64 0, .pointer none, .map (some w.heap.size), .pointer none, .pointer none, .slice none 0 0] 62)) (w.heap.size + 1) 62 [.int .i64 id, .int .i64 0, .pointer none, .map (some w.heap.size), .pointer none, .pointer none, .slice none 0 0] := Blk.new (by simp)
  obtain ⟨w1, hw1⟩ : ∃ w1, (w.alloc (.map #[] 0)).alloc (.cells #[.int .i64 id, .int .i64 0, .pointer none, .map (some w.heap.size), .pointer none, .pointer none, .slice none 0 0] 62) = w1 := ⟨_, rfl⟩
  have hg1 : GM w1 w.heap.size 0 (fun _ => none) := hw1 ▸ hg.chg (L := []) ((Chg.refl _ _).alloc _) (by simp)
  have hs : w1.heap.size = w.heap.size + 2 := by rw [← hw1]; simp
  have hbw : Below w.heap.size w w1 := hw1 ▸ belowL (belowL (Below.refl _ _) _) _
  rw [hw1] at hb
  rw [hw1]
  refine ⟨w.heap.size + 1, _, w.heap.size, rfl, rfl, hg1, ⟨_, _, _, _, _, [w.heap.size], [], [], [], ⟨hb, by simp, by simp, ?_, rfl, Or.inl ⟨rfl, hg1, rfl⟩, ⟨rfl, rfl⟩, ⟨rfl, rfl⟩, ⟨[], rfl, ownsRow_nil _ _ _, rfl, by simp⟩⟩⟩, hbw, ?_⟩
  · intro x hx
    simp only [List.mem_cons, List.not_mem_nil, or_false] at hx
    omega
  · intro x hx
    simp only [List.mem_cons, List.not_mem_nil, or_false] at hx
    omega
set_option maxHeartbeats 1000000 in
theorem cnew_bad (w : World) : Calls Tryz.prog 7 #[.int .i64 16] w fun e w' => e = .returned (.pointer none) ∧ w = w' := by
  go_enter Tryz.func7, Tryz.ntmps7
  go_wp2
  go_ret
  exact ⟨rfl, rfl⟩
/-- messages that were fetched, beside the client's blocks -/
structure PoS (w : World) (F : List Nat) (A : Option Addr) (P : List PoM) : Prop where
  rd : Reads w w.heap.size 5 A P.length (poCells P)
  no : ∀ a, A = some a → a.spot = none ∧ a.block ∉ F ∧ a.block < w.heap.size
  ok : ∀ x ∈ P, PoOk w F x
theorem PoS.chg {w w' : World} {F F' L : List Nat} {A : Option Addr} {P : List PoM} (h : PoS w F A P) (hc : Chg L w w') (hL : ∀ z ∈ L, z ∈ F ∨ w.heap.size ≤ z) (hF : ∀ z ∈ F', z ∈ F ∨ w.heap.size ≤ z) : PoS w' F' A P :=
  ⟨⟨h.rd.1, fun hn => by
    obtain ⟨b, o, e, hb, hcell⟩ := h.rd.2 hn
    refine ⟨b, o, e, Nat.lt_of_lt_of_le hb hc.size, fun j u hu => ?_⟩
    have hnb : b ∉ L := fun hx => by
      rcases hL b hx with h1 | h1
      · exact (h.no _ e).2.1 h1
      · omega
    exact (hc.cell (p := ⟨b, o + j, Option.none⟩) hb hnb).trans (hcell j u hu)⟩, fun a ha => ⟨(h.no a ha).1, fun hx => by
    rcases hF _ hx with h1 | h1
    · exact (h.no a ha).2.1 h1
    · have := (h.no a ha).2.2; omega, Nat.lt_of_lt_of_le (h.no a ha).2.2 hc.size⟩, fun x hx => (h.ok x hx).chg hc hL hF⟩
section
variable {w : World} {F : List Nat} {c n : Nat} {so : Option Vw} {pr : Prim} {X : Cl}
set_option maxHeartbeats 1000000 in
theorem cout_calls (h : CM w F c so pr n X) : Calls Tryz.prog 11 #[.pointer (some ⟨c, 0, none⟩)] w fun e w' => ∃ A cap P F', e = .returned (.slice A P.length cap) ∧ P.map PoM.p = X.out ∧ PoS w' F' A P ∧ P.length ≤ cap ∧ CM w' F' c so pr n { X with out := [] } ∧ Chg F w w' ∧ (∀ x ∈ F', x ∈ F) := by
  obtain ⟨xp, mt, cur, ans, out, Ft, Fc, Fa, Fo, h⟩ := h
  obtain ⟨P, hP, ho, hF, hok⟩ := h.ou
  obtain ⟨A, cap, rfl, h1, h2, h3, h4, h5⟩ := own_view ho
  have e6 := h.blk.cell 6
  have ef := h.blk.frozen
  simp only [List.getElem?_cons_succ, List.getElem?_cons_zero] at e6
  have H := hide h
  have HD := hide h.dj
  have HM := hide h.mem
  have HC := hide h.cu
  have HPP := hide hP
  have HO := hide (And.intro ho (And.intro hF hok))
  have H5 := hide (And.intro h3 h5)
  clear h hP ho hF hok h2 h3 h4 h5
  go_enter Tryz.func11, Tryz.ntmps11
  go_wp2
  go_ret
  obtain ⟨w1, hw1⟩ : ∃ w1, w.setCell ⟨c, 6, none⟩ (.slice none 0 0) = w1 := ⟨_, rfl⟩
  have hc1 : Chg [c] w w1 := hw1 ▸ (Chg.refl _ _).setCell (Or.inl (by simp)) _
  have hcF : ∀ z ∈ [c], z ∈ F ∨ w.heap.size ≤ z := fun z hz => Or.inl (by rw [List.mem_singleton.1 hz]; exact HM.out.1)
  have hsub : ∀ z ∈ c :: (Ft ++ Fc ++ Fa ++ []), z ∈ F := fun z hz => by
    have := HM.out
    simp only [List.mem_cons, List.mem_append, List.append_nil] at hz
    rcases hz with rfl | (hz | hz) | hz
    · exact this.1
    · exact this.2.1 z hz
    · exact this.2.2.1 z hz
    · exact this.2.2.2.1 z hz
  have hsz : w1.heap.size = w.heap.size := by rw [← hw1]; simp
  have hF' : ∀ z ∈ c :: (Ft ++ Fc ++ Fa ++ []), (z ∈ F ∨ w.heap.size ≤ z) ∧ z < w1.heap.size := fun z hz => ⟨Or.inl (hsub z hz), by rw [hsz]; exact H.out.lt z (hsub z hz)⟩
  rw [hw1]
  refine ⟨A, cap, P, c :: (Ft ++ Fc ++ Fa ++ []), rfl, HPP.out, ?_, h1, ⟨xp, mt, cur, ans, .slice none 0 0, Ft, Fc, Fa, [], H.out.turn hc1 ?_ rfl ?_ hF' (H.out.st.grow hc1 hcF hF') rfl ?_ ?_ ⟨[], rfl, ownsRow_nil _ _ _, rfl, by simp⟩⟩, hc1.mono hcF, hsub⟩
  · have hp : PoS w (c :: (Ft ++ Fc ++ Fa ++ [])) A P := ⟨H5.out.2 _ (fun g hg => own_lt HO.out.1 hg), fun a ha => by
      have hg : (Value.slice A P.length cap).ownBlock = some a.block := by rw [H5.out.1, ha]; rfl
      refine ⟨?_, fun hx => ?_, own_lt HO.out.1 hg⟩
      · rcases HO.out.1.2 with ⟨h6, _⟩ | ⟨g, cap2, cur2, e2, _⟩
        · injection h6 with q1 q2 q3
          rw [q1] at ha
          cases ha
        · cases e2; cases ha; rfl
      · have hFo : a.block ∈ Fo := by rw [HO.out.2.1, hg]; simp
        have hd := HD.out.1.2.2.2 _ hFo
        simp only [List.mem_cons, List.mem_append, List.append_nil] at hx
        rcases hx with hx | (hx | hx) | hx
        · exact hd.1 hx
        · exact hd.2.1 hx
        · exact hd.2.2.1 hx
        · exact hd.2.2.2 hx, fun x hx => ⟨(HO.out.2.2 x hx).len, (HO.out.2.2 x hx).blk, fun hz => (HO.out.2.2 x hx).no (hsub _ hz)⟩⟩
    exact hp.chg hc1 (fun z hz => Or.inl (by rw [List.mem_singleton.1 hz]; simp)) (fun z hz => Or.inl hz)
  · rw [← hw1]; exact H.out.blk.set 6 _
  · refine nd_of ?_
    have := HD.out
    simp only [List.not_mem_nil, false_implies, implies_true, not_false_eq_true, and_true, List.nodup_nil]
    exact ⟨⟨fun z hz => ⟨(this.1.1 z hz).1, (this.1.1 z hz).2.1, (this.1.1 z hz).2.2.1⟩, fun z hz => ⟨(this.1.2.1 z hz).1, (this.1.2.1 z hz).2.1, (this.1.2.1 z hz).2.2.1⟩, fun z hz => ⟨(this.1.2.2.1 z hz).1, (this.1.2.2.1 z hz).2.1, (this.1.2.2.1 z hz).2.2.1⟩⟩, this.2.1.1, this.2.1.2.1, this.2.1.2.2.1⟩
  · exact CurM.chg HC.out hc1 (fun z hz => by have := (HD.out.1.2.1 z hz).1; simpa using this)
  · exact H.out.an.chg hc1 hcF (fun z hz => (hF' z hz).1) (fun z hz => by have := (HD.out.1.2.2.1 z hz).1; simpa using this)
end
end Go.Proofs.YtanfdnpnkdiiiaaGreat

namespace Go.Proofs.YtanfdnpnkdiiiaaGreat
open Go.RowKit Go.Proofs Go.Maps
set_option linter.unusedVariables false
set_option linter.unusedSimpArgs false

section
variable {w : World} {F : List Nat} {c n : Nat} {so : Option Vw} {pr : Prim} {X : Cl}
set_option maxHeartbeats 1000000 in
theorem ctake_none (h : CM w F c so pr n X) (ha : X.ans = none) : Calls Tryz.prog 15 #[.pointer (some ⟨c, 0, none⟩)] w fun e w' => e = .returned (.tuple #[.agg #[.int .i64 0, .slice none 0 0, .int .i64 0], .bool false]) ∧ Below w.heap.size w w' := by
  obtain ⟨xp, mt, cur, ans, out, Ft, Fc, Fa, Fo, h⟩ := h
  have h1 := h.an
  rw [ha] at h1
  obtain ⟨rfl, _⟩ := h1
  obtain ⟨w0, hw0⟩ : ∃ w0, w.alloc (.cells #[.int .i64 0, .slice none 0 0, .int .i64 0] 45) = w0 := ⟨_, rfl⟩
  have hb0 : Below w.heap.size w w0 := hw0 ▸ belowL (Below.refl _ _) _
  have e5 := (h.blk.below hb0).cell 5
  have hz : Blk w0 w.heap.size 45 [.int .i64 0, .slice none 0 0, .int .i64 0] := hw0 ▸ Blk.new rfl
  have z0 := hz.cell 0
  have z1 := hz.cell 1
  have z2 := hz.cell 2
  have zf := hz.frozen
  simp only [List.getElem?_cons_succ, List.getElem?_cons_zero] at e5 z0 z1 z2
  have HW0 := hide hw0
  have HB0 := hide hb0
  clear h ha hw0 hb0 hz
  go_enter Tryz.func15, Tryz.ntmps15
  go_upto_region 1 with fail
  rw [HW0.out]
  go_wp2
  refine bodyPost_ret (v := .tuple #[.agg #[.int .i64 0, .slice none 0 0, .int .i64 0], .bool false]) (by simp [results, Tryz.results15, go_sem, *]) rfl ?_
  exact ⟨rfl, by repeat (first | (with_reducible exact HB0.out) | (with_reducible refine Below.setCell ?_ (by first | (simp; done) | (simp; omega)) _) | (with_reducible refine Below.alloc ?_ (by first | (simp; done) | (simp; omega)) _))⟩
set_option maxHeartbeats 2000000 in
theorem ctake_some (h : CM w F c so pr n X) {a : An} (ha : X.ans = some a) : Calls Tryz.prog 15 #[.pointer (some ⟨c, 0, none⟩)] w fun e w' =>
    ∃ A cap F', e = .returned (.tuple #[.agg #[.int .i64 a.e, .slice A a.b.length cap, .int .i64 a.done], .bool true]) ∧ Rb w' F' A cap a.b ∧ CM w' F' c so pr n { X with ans := none } ∧ Chg F w w' ∧ (∀ x ∈ F', x ∈ F) := by
  obtain ⟨xp, mt, cur, ans, out, Ft, Fc, Fa, Fo, h⟩ := h
  have h1 := h.an
  rw [ha] at h1
  obtain ⟨ab, A, cap, rfl, rfl, hb, hr⟩ := h1
  have H := hide h
  have HD := hide h.dj
  have HM := hide h.mem
  have HR := hide hr
  have HC := hide h.cu
  have hne : c ≠ ab := fun e => (h.dj.1.2.2.1 ab (by simp)).1 e.symm
  have hl1 := h.blk.lt
  have hl2 := hb.lt
  obtain ⟨w0, hw0⟩ : ∃ w0, w.alloc (.cells #[.int .i64 0, .slice none 0 0, .int .i64 0] 45) = w0 := ⟨_, rfl⟩
  have hb0 : Below w.heap.size w w0 := hw0 ▸ belowL (Below.refl _ _) _
  have r0 := Below.refl w0.heap.size w0
  have hs0 : w0.heap.size = w.heap.size + 1 := by rw [← hw0]; simp
  have e5 := (h.blk.below hb0).cell 5
  have ef := (h.blk.below hb0).frozen
  have a0 := (hb.below hb0).cell 0
  have a1 := (hb.below hb0).cell 1
  have a2 := (hb.below hb0).cell 2
  have hz : Blk w0 w.heap.size 45 [.int .i64 0, .slice none 0 0, .int .i64 0] := hw0 ▸ Blk.new rfl
  have z0 := hz.cell 0
  have z1 := hz.cell 1
  have z2 := hz.cell 2
  have zf := hz.frozen
  simp only [List.getElem?_cons_succ, List.getElem?_cons_zero] at e5 a0 a1 a2 z0 z1 z2
  have HW0 := hide hw0
  have HB0 := hide hb0
  have hne1 : c ≠ w.heap.size := by omega
  have hne2 : c ≠ w.heap.size + 1 := by omega
  clear h hb hr hw0 hb0 hz r0
  go_enter Tryz.func15, Tryz.ntmps15
  go_upto_region 1 with fail
  rw [HW0.out]
  go_wp2
  refine bodyPost_ret (v := .tuple #[.agg #[.int .i64 a.e, .slice A a.b.length cap, .int .i64 a.done], .bool true]) (by simp [results, Tryz.results15, go_sem, *]) rfl ?_
  obtain ⟨w1, hw1⟩ : ∃ w1, ((((w0.setCell ⟨c, 5, none⟩ (.pointer none)).setCell ⟨w.heap.size, 0, none⟩ (.int .i64 a.e)).setCell ⟨w.heap.size, 1, none⟩ (.slice A a.b.length cap)).setCell ⟨w.heap.size, 2, none⟩ (.int .i64 a.done)).alloc (.cells #[.int .i64 a.e, .slice A a.b.length cap, .int .i64 a.done] 45) = w1 := ⟨_, rfl⟩
  have hc1 : Chg [c] w w1 := hw1 ▸ (((((((Chg.of_below HB0.out).setCell (Or.inl (by simp)) _).setCell (Or.inr (Nat.le_refl _)) _).setCell (Or.inr (Nat.le_refl _)) _).setCell (Or.inr (Nat.le_refl _)) _)).alloc _)
  rw [hw1]
  have hcF : ∀ z ∈ [c], z ∈ F ∨ w.heap.size ≤ z := fun z hz => Or.inl (by rw [List.mem_singleton.1 hz]; exact HM.out.1)
  have hsub : ∀ z ∈ c :: (Ft ++ Fc ++ [] ++ Fo), z ∈ F := fun z hz => by
    have := HM.out
    simp only [List.mem_cons, List.mem_append, List.append_nil] at hz
    rcases hz with rfl | (hz | hz) | hz
    · exact this.1
    · exact this.2.1 z hz
    · exact this.2.2.1 z hz
    · exact this.2.2.2.2 z hz
  have hF' : ∀ z ∈ c :: (Ft ++ Fc ++ [] ++ Fo), (z ∈ F ∨ w.heap.size ≤ z) ∧ z < w1.heap.size := fun z hz => ⟨Or.inl (hsub z hz), Nat.lt_of_lt_of_le (H.out.lt z (hsub z hz)) hc1.size⟩
  refine ⟨A, cap, c :: (Ft ++ Fc ++ [] ++ Fo), rfl, ?_, ⟨xp, mt, cur, .pointer none, out, Ft, Fc, [], Fo, H.out.turn hc1 ?_ rfl ?_ hF' (H.out.st.grow hc1 hcF hF') rfl ?_ ⟨rfl, rfl⟩ ?_⟩, hc1.mono hcF, hsub⟩
  · have h2 := HR.out.chg hc1 hcF
    exact ⟨h2.le, h2.rd, fun x hx => ⟨(h2.ap x hx).1, fun hz => (h2.ap x hx).2.1 (hsub _ hz), (h2.ap x hx).2.2⟩⟩
  · rw [← hw1]
    exact (((((H.out.blk.below HB0.out).set 5 _).oth hne1 _).oth hne1 _).oth hne1 _).alloc _
  · refine nd_of ?_
    have := HD.out
    simp only [List.not_mem_nil, false_implies, implies_true, not_false_eq_true, and_true, true_and, List.nodup_nil]
    exact ⟨⟨fun z hz => ⟨(this.1.1 z hz).1, (this.1.1 z hz).2.1, (this.1.1 z hz).2.2.2⟩, fun z hz => ⟨(this.1.2.1 z hz).1, (this.1.2.1 z hz).2.1, (this.1.2.1 z hz).2.2.2⟩, fun z hz => ⟨(this.1.2.2.2 z hz).1, (this.1.2.2.2 z hz).2.1, (this.1.2.2.2 z hz).2.2.1⟩⟩, this.2.1.1, this.2.1.2.1, this.2.1.2.2.2⟩
  · exact CurM.chg HC.out hc1 (fun z hz => by have := (HD.out.1.2.1 z hz).1; simpa using this)
  · exact H.out.ou.chg hc1 hcF (fun z hz => (hF' z hz).1) (fun z hz => by have := (HD.out.1.2.2.2 z hz).1; simpa using this)
end
/-- a view is beside a client that holds nothing yet -/
theorem VF.of {w : World} {no : List Nat} {b m1 m2 m3 c mt : Nat} {S : Vst} {V : List VoM} {C : List CkM} {cs : List Value} (h : VM w no b m1 m2 m3 S V C) (hK : ∀ x ∈ [c, mt], x ∈ no) (hc : Blk w c 62 cs) (hg : GM w mt 0 (fun _ => none)) (h1 : S.sv ≠ []) (h2 : S.vs ≠ []) (h3 : S.cs ≠ []) : VF [c, mt] w b S := by
  refine ⟨no, m1, m2, m3, V, C, h, fun x hx => ⟨hK x hx, ?_⟩⟩
  simp only [List.mem_cons, List.not_mem_nil, or_false] at hx
  rcases hx with rfl | rfl
  · refine ⟨fun e => ?_, (h.t1.gm.blk_ne hc).symm, (h.t2.gm.blk_ne hc).symm, (h.t3.gm.blk_ne hc).symm⟩
    subst e
    have := (hc.one h.blk).2
    cases this
  · refine ⟨hg.blk_ne h.blk, fun e => ?_, fun e => ?_, fun e => ?_⟩
    · subst e
      exact h1 (List.eq_nil_of_length_eq_zero (hg.cnt h.t1.gm).symm)
    · subst e
      have hl := hg.cnt h.t2.gm
      rw [← h.eV] at h2
      exact h2 (by rw [List.eq_nil_of_length_eq_zero hl.symm]; rfl)
    · subst e
      have hl := hg.cnt h.t3.gm
      rw [← h.eC] at h3
      exact h3 (by rw [List.eq_nil_of_length_eq_zero hl.symm]; rfl)
section
variable {w : World} {F : List Nat} {c n : Nat} {pr : Prim} {X : Cl}
set_option maxHeartbeats 2000000 in
theorem cview_calls {mt sb m : Nat} {S : Vst} (h : CM w F c none pr n X) (hF : F = [c, mt]) (hg : GM w mt 0 (fun _ => none)) (hs : VS w sb S m) (hm : m ≤ 60) (hser : SerOk S) (h1 : S.sv ≠ []) (h2 : S.vs ≠ []) (h3 : S.cs ≠ []) :
    Calls Tryz.prog 9 #[.pointer (some ⟨c, 0, none⟩), .pointer (some ⟨sb, 0, none⟩)] w fun e w' => e = .returned (.tuple #[]) ∧ ∃ xb, CM w' F c (some (xb, S)) pr n X ∧ Chg [c] w w' := by
  have hB := hs.1.byt hser hm
  obtain ⟨h0, no, m1, m2, m3, V, C, hv⟩ := hs
  have HB := hide (vbytes_calls w no sb m1 m2 m3 S V C hv hB)
  have HL := hide (fun w' (hb : Below w.heap.size w w') A cap (ho : OwnB w w' A cap S.bytes) => vload_calls [c, mt] w' (fun x hx => Nat.lt_of_lt_of_le (h.lt x (hF ▸ hx)) hb.size) A cap S.bytes (ho.rb (no := []) (by simp)).rd (by have := hB.len; omega) (encs_byte _) (ldOk_ser hser hB))
  have HS := hide (loadP_ser hser)
  have H := hide h
  have HG := hide hg
  have HN := hide (And.intro h1 (And.intro h2 h3))
  have HF := hide hF
  have hlc := h.lt c h.memc
  have HLC := hide hlc
  clear h hg h1 h2 h3 hv hF
  go_enter Tryz.func9, Tryz.ntmps9
  go_wp2_with fail
  refine HB.out.mono ?_
  rintro e w1 ⟨A, cap, rfl, ho, hb1⟩
  have HL2 := hide (HL.out w1 hb1 A cap ho)
  have HB1 := hide hb1
  clear hb1 ho
  go_wp2_with fail
  refine HL2.out.mono ?_
  rintro e w2 hlo
  rw [HS.out] at hlo
  obtain ⟨hb2, no2, xb, n1, n2, n3, V2, C2, rfl, hv2, hk2, hx2⟩ := hlo
  have hB2 := HB1.out.trans (hb2.mono HB1.out.size)
  have H2 := H.out.below hB2
  have HV2 := hide (And.intro hv2 hk2)
  have HB2 := hide hB2
  obtain ⟨xp, mt', cur, ans, out, Ft, Fc, Fa, Fo, h2⟩ := H2
  have e2 := h2.blk.cell 2
  have ef := h2.blk.frozen
  simp only [List.getElem?_cons_succ, List.getElem?_cons_zero] at e2
  have H2 := hide h2
  clear hb2 hv2 hk2 hB2 h2 HB HL HL2
  go_wp2
  go_end0
  obtain ⟨w3, hw3⟩ : ∃ w3, w2.setCell ⟨c, 2, none⟩ (.pointer (some ⟨xb, 0, none⟩)) = w3 := ⟨_, rfl⟩
  rw [hw3]
  have hc3 : Chg [c] w2 w3 := hw3 ▸ (Chg.refl _ _).setCell (Or.inl (by simp)) _
  have hm := H2.out.mem
  have hd := H2.out.dj
  have hcF : ∀ z ∈ [c], z ∈ F ∨ w2.heap.size ≤ z := fun z hz => Or.inl (by rw [List.mem_singleton.1 hz]; exact hm.1)
  have hF3 : ∀ z ∈ F, (z ∈ F ∨ w2.heap.size ≤ z) ∧ z < w3.heap.size := fun z hz => ⟨Or.inl hz, Nat.lt_of_lt_of_le (H2.out.lt z hz) hc3.size⟩
  have hvf : VF F w2 xb S := by
    rw [HF.out]
    exact VF.of HV2.out.1 HV2.out.2 H2.out.blk (HG.out.below HB2.out) HN.out.1 HN.out.2.1 HN.out.2.2
  refine ⟨rfl, xb, ⟨.pointer (some ⟨xb, 0, none⟩), mt', cur, ans, out, Ft, Fc, Fa, Fo, H2.out.turn hc3 ?_ H2.out.eF H2.out.nd hF3 ⟨rfl, hvf.grow hc3 hcF hF3⟩ rfl ?_ ?_ ?_⟩, (Chg.of_below HB2.out).same hc3⟩
  · rw [← hw3]; exact H2.out.blk.set 2 _
  · exact CurM.chg H2.out.cu hc3 (fun z hz => by have := (hd.1.2.1 z hz).1; simpa using this)
  · exact H2.out.an.chg hc3 hcF (fun z hz => (hF3 z hz).1) (fun z hz => by have := (hd.1.2.2.1 z hz).1; simpa using this)
  · exact H2.out.ou.chg hc3 hcF (fun z hz => (hF3 z hz).1) (fun z hz => by have := (hd.1.2.2.2 z hz).1; simpa using this)
end
end Go.Proofs.YtanfdnpnkdiiiaaGreat
