/- One text of: Nd Nf Ng. -/
import Derived.Test.YtcahcjfgmdpdoaaGreatQQA
import Derived.Test.YtcahcjfgmdpdoaaGreatQLC
set_option maxHeartbeats 4000000
set_option maxRecDepth 100000
namespace Go.Proofs.YtcahcjfgmdpdoaaGreat
open Go.RowKit Go.Proofs Go.Maps
set_option linter.unusedVariables false
set_option linter.unusedSimpArgs false

def Hard (w : World) (g : Nat) : Prop := (∃ t cs, Blk w g t cs ∧ t ≠ 5 ∧ t ≠ 3) ∨ ∃ es c, w.heap[g]? = some (.map es c)
def HardL (w : World) (G : List Nat) : Prop := ∀ g ∈ G, Hard w g
section
variable {w w' : World} {g : Nat} {G F : List Nat}
theorem Hard.lt (h : Hard w g) : g < w.heap.size := by
 rcases h with ⟨t, cs, h, _⟩ | ⟨es, c, h⟩
 ·exact h.lt
 ·exact heap_lt h
theorem Hard.notBlk (h : Hard w g) {t : TypeId} (ht : t = 5 ∨ t = 3) {cs : List Value} : ¬ Blk w g t cs := fun hb => by
 rcases h with ⟨t', cs', h, h1, h2⟩ | ⟨es, c, h⟩
 ·have := (hb.one h).2
  rcases ht with rfl | rfl
  ·exact h1 this.symm
  ·exact h2 this.symm
 ·have h3 := hb.symm.trans h
  simp at h3
theorem Hard.notByte (h : Hard w g) : ¬ ByteBlk w g := by
 rintro ⟨cs, fr, hb⟩
 rcases h with ⟨t', cs', h, h1, h2⟩ | ⟨es, c, h⟩
 ·exact h.notByte h1 ⟨cs, fr, hb⟩
 ·have := hb.symm.trans h
  simp at this
theorem HardL.nob (h : HardL w G) : NoB w G := fun g hg => Or.inl fun cs => (h g hg).notBlk (Or.inl rfl)
theorem HardL.app (h : HardL w G) (h' : HardL w F) : HardL w (G ++ F) := fun x hx => (List.mem_append.1 hx).elim (h x) (h' x)
theorem HardL.cons (h : Hard w g) (h' : HardL w F) : HardL w (g :: F) := fun x hx => (List.mem_cons.1 hx).elim (fun e => e ▸ h) (h' x)
theorem Blk.hard {t : TypeId} {cs : List Value} (h : Blk w g t cs) (h1 : t ≠ 5) (h2 : t ≠ 3) : Hard w g := Or.inl ⟨t, cs, h, h1, h2⟩
theorem GM.hard {c : Nat} {f : Int → Option Value} (h : GM w g c f) : Hard w g := by
 obtain ⟨D, ⟨es, clock, hb, _⟩, _⟩ := h
 exact Or.inr ⟨_, _, hb⟩
theorem IM.hard {c : Nat} {f : Int → Option Int} (h : IM w g c f) : Hard w g := by
 obtain ⟨D, ⟨es, clock, hb, _⟩, _⟩ := h
 exact Or.inr ⟨_, _, hb⟩
theorem JrnM.hard {j d : Nat} {J : Jrn} (h : JrnM w j d F J) : HardL w F := by
 obtain ⟨A, c, X, h1, h2, h3, h4, rfl⟩ := h.ex
 intro x hx
 simp only [List.mem_cons, Option.mem_toList] at hx
 rcases hx with rfl | hx
 ·exact h1.hard (by decide) (by decide)
 ·obtain ⟨cs, hb⟩ := own_blk h2 hx
  exact hb.hard (by decide) (by decide)
theorem DevM.hard {d : Nat} {D : Dev} (h : DevM w d F D) : HardL w F := by
 obtain ⟨lb, A, c, h1, h2, h3, rfl⟩ := h.ex
 intro x hx
 simp only [List.mem_cons, Option.mem_toList] at hx
 rcases hx with rfl | rfl | hx
 ·exact h1.hard (by decide) (by decide)
 ·exact h2.hard (by decide) (by decide)
 ·obtain ⟨cs, hb⟩ := own_blk h3 hx
  exact hb.hard (by decide) (by decide)
theorem VltM.hard {v d : Nat} {V : Vlt} (h : VltM w v d F V) : HardL w F := by
 obtain ⟨jp, mb, Fj, Fd, h1, ⟨X, h2, _⟩, h3, h4, rfl⟩ := h.ex
 refine HardL.cons (h1.hard (by decide) (by decide)) (HardL.cons h2.gm.hard (HardL.app ?_ h4.hard))
 rcases h3 with ⟨j, _, h3⟩ | ⟨_, rfl⟩
 ·exact h3.hard
 ·intro x hx; cases hx
theorem LG.hard {p : Nat} {base term : Int} {L : List Con} (h : LG w p base term L F) : HardL w F := by
 obtain ⟨A, cap, es, hl, _, rfl⟩ := h
 intro x hx
 unfold foot at hx
 rcases List.mem_cons.1 hx with rfl | hx
 ·exact hl.blk.hard (by decide) (by decide)
 ·obtain ⟨cs, hc⟩ := rowBlk hl.own (g := x) (by simpa using hx)
  exact Or.inl ⟨157, cs.toList, hc, by decide, by decide⟩
structure It (w : World) (A : Option Addr) (c : Nat) (l : List Int) : Prop where
 sl : Sl w [] A c l
 ty : ∀ a, A = some a → ∃ cs, Blk w a.block 3 cs
theorem It.chg {A : Option Addr} {c : Nat} {l : List Int} (h : It w A c l) (hc : Chg G w w') (hG : HardL w G) : It w' A c l := by
 have hn : ∀ a, A = some a → a.block ∉ G := fun a ha hx => by
  obtain ⟨cs, hb⟩ := h.ty a ha
  exact (hG _ hx).notBlk (Or.inr rfl) hb
 have h2 : Sl w G A c l := ⟨h.sl.le, h.sl.ln, h.sl.rd, fun a ha => ⟨(h.sl.ap a ha).1, hn a ha, (h.sl.ap a ha).2.2⟩⟩
 exact ⟨(h2.chg hc (fun x hx => Or.inl hx)).sub (by simp), fun a ha => by
  obtain ⟨cs, hb⟩ := h.ty a ha
  exact ⟨cs, hb.chg hc (hn a ha)⟩⟩
theorem It.below {A : Option Addr} {c : Nat} {l : List Int} (h : It w A c l) (hb : Below w.heap.size w w') : It w' A c l := h.chg (G := []) (Chg.of_below hb) (fun g hg => by cases hg)
theorem OwnI.it {w0 : World} {A : Option Addr} {c : Nat} {l : List Int} (h : OwnI w0 w A c l) (hl : l.length ≤ 1024) : It w A c l := by
 refine ⟨h.sl hl (by simp), fun a ha => ?_⟩
 subst ha
 rcases h.1.2 with ⟨h6, _⟩ | ⟨g, cap, cur, e2, _, hg, _⟩
 ·cases h6
 ·cases e2
  exact ⟨cur.toList, hg⟩
theorem It.nil (w : World) : It w none 0 [] := ⟨Sl.nil w [] 0, fun a ha => by cases ha⟩
end
structure Nd where
 id : Int
 V : Vlt
 dead : Bool
 bt : Int
 bv : Int
 sm : List Int
 L : List Con
 commit : Int
 told : Int
 role : Int
 leader : Int
 quiet : Int
 beats : Int
 votes : List Int
 next : Int → Option Int
 mat : Int → Option Int
structure Pl where
 v : Nat
 d : Nat
 lb : Nat
 nx : Nat
 mx : Nat
 Am : Option Addr
 cm : Nat
 Av : Option Addr
 cv : Nat
def Nd.cells (N : Nd) (p : Pl) : List Value := [.int .i64 N.id, .pointer (some ⟨p.v, 0, none⟩), .bool N.dead, .int .i64 N.bt, .int .i64 N.bv, .int .i64 0, .int .i64 0, .slice p.Am N.sm.length p.cm, .slice none 0 0, .pointer (some ⟨p.lb, 0, none⟩), .int .i64 N.commit, .int .i64 N.told, .bool false, .int .i64 N.role, .int .i64 N.leader, .int .i64 N.quiet, .int .i64 N.beats, .slice p.Av N.votes.length p.cv, .map (some p.nx), .map (some p.mx), .slice none 0 0]
def cnt16 (f : Int → Option Int) : Nat := (List.range 16).countP fun (k : Nat) => (f (k : Int)).isSome
theorem cntL_upd {f : Int → Option Int} {k : Nat} {v : Int} : ∀ l : List Nat, l.Nodup → (l.countP fun (j : Nat) => ((upd f (k : Int) (some v)) (j : Int)).isSome) = (l.countP fun (j : Nat) => (f (j : Int)).isSome) + if k ∈ l ∧ (f (k : Int)).isSome = false then 1 else 0
 |[], _ => rfl
 |y :: t, hn => by
  have ih := cntL_upd (f := f) (k := k) (v := v) t (List.nodup_cons.1 hn).2; have hy := (List.nodup_cons.1 hn).1; rw [List.countP_cons, List.countP_cons, ih]
  by_cases e : y = k
  ·subst e
   rw [upd_same]
   cases hf : (f (y : Int)).isSome <;> simp [hy]
  ·have h1 : (upd f (k : Int) (some v)) (y : Int) = f (y : Int) := upd_other (by omega) _
   rw [h1]
   have h2 : k ∈ y :: t ↔ k ∈ t := by simp [show ¬ k = y from fun h => e h.symm]
   simp only [h2]
   omega
theorem cnt16_upd {f : Int → Option Int} {k v : Int} (hk : 0 ≤ k ∧ k ≤ 15) : cnt16 (upd f k (some v)) = if (f k).isSome then cnt16 f else cnt16 f + 1 := by
 obtain ⟨n, rfl⟩ : ∃ n : Nat, k = n := ⟨k.toNat, by omega⟩; unfold cnt16; rw [cntL_upd (List.range 16) List.nodup_range]
 cases hf : (f (n : Int)).isSome
 ·simp; omega
 ·simp
theorem cnt16_le (f : Int → Option Int) : cnt16 f ≤ 16 := List.countP_le_length
theorem IM.wp_putR {o : Oper} {a : Act} {K : Act → World → Prop} {Q : Exit → Act → World → Prop} {w : World} {b : Nat} {f : Int → Option Int} {k v : Int} (m x y : Operand)
  (ho : o.op = .mapUpdate 72 m x y) (hm : a.eval m = .map (some b)) (hx : a.eval x = .int .i64 k) (hy : a.eval y = .int .i64 v) (h : IM w b (cnt16 f) f) (hk : 0 ≤ k ∧ k ≤ 15) (hv : i64ok v)
  (hK : ∀ w', IM w' b (cnt16 (upd f k (some v))) (upd f k (some v)) → Chg [b] w w' → K (a.put o.dst undef) w') : o.wp Tryz.prog a w K Q := by
 obtain ⟨w', hrun, r1, r2⟩ := h.put (k := k) (by unfold i64ok; omega) hv (by have := cnt16_le f; omega); rw [← cnt16_upd (v := v) hk] at r1; unfold Oper.wp
 simp [execOp, ho, hm, hx, hy, hrun, Result.andThen]
 exact hK w' r1 r2
theorem IM.wpl_putR {ops : Array Oper} {rest : List Oper} {o : Oper} {a : Act} {Q : Exit → Act → World → Prop} {w : World} {b : Nat} {f : Int → Option Int} {k v : Int} (hg : o.guard = none) (m x y : Operand)
  (ho : o.op = .mapUpdate 72 m x y) (hm : a.eval m = .map (some b)) (hx : a.eval x = .int .i64 k) (hy : a.eval y = .int .i64 v) (h : IM w b (cnt16 f) f) (hk : 0 ≤ k ∧ k ≤ 15) (hv : i64ok v)
  (hK : ∀ w', IM w' b (cnt16 (upd f k (some v))) (upd f k (some v)) → Chg [b] w w' → wpList Tryz.prog ops Q rest (a.put o.dst undef) w') : wpList Tryz.prog ops Q (o :: rest) a w :=
 wpList_plain hg fun _ hK' => IM.wp_putR m x y ho hm hx hy h hk hv fun w' h1 h2 => hK' _ _ (hK w' h1 h2)
structure Sep (nb nx mx : Nat) (Fl Fv : List Nat) : Prop where
 a : nx ≠ mx
 b : nx ∉ Fl ++ Fv
 c : mx ∉ Fl ++ Fv
 d : ∀ x ∈ Fl, x ∉ Fv
 e : nb ∉ nx :: mx :: (Fl ++ Fv)
structure NP (w : World) (nb : Nat) (p : Pl) (Fl Fv : List Nat) (N : Nd) : Prop where
 blk : Blk w nb 111 (N.cells p)
 vlt : VltM w p.v p.d Fv N.V
 log : LG w p.lb 0 0 N.L Fl
 sm : It w p.Am p.cm N.sm
 vo : It w p.Av p.cv N.votes
 nx : IM w p.nx (cnt16 N.next) N.next
 mx : IM w p.mx (cnt16 N.mat) N.mat
 sep : Sep nb p.nx p.mx Fl Fv
section
variable {w w' : World} {nb : Nat} {p : Pl} {G F Fl Fv Fl' Fv' : List Nat} {N : Nd}
def ft (nb : Nat) (p : Pl) (Fl Fv : List Nat) : List Nat := nb :: p.nx :: p.mx :: (Fl ++ Fv)
theorem NP.hard (h : NP w nb p Fl Fv N) : HardL w (ft nb p Fl Fv) := by
 have h1 := h.nx; have h2 := h.mx
 exact HardL.cons (h.blk.hard (by decide) (by decide)) (HardL.cons h1.hard (HardL.cons h2.hard (h.log.hard.app h.vlt.hard)))
theorem VltM.chg {v d : Nat} {V : Vlt} (h : VltM w v d F V) (hc : Chg G w w') (hn : ∀ x ∈ F, x ∉ G) (hG : NoB w G) : VltM w' v d F V := by
 obtain ⟨jp, mb, Fj, Fd, h1, h2, h3, h4, rfl⟩ := h.ex
 exact ⟨jp, mb, Fj, Fd, h1.chg hc (hn _ (by simp)), h2.chg hc (hn _ (by simp)) hG, h3.chg hc (fun x hx => hn x (by simp [hx])) hG, h4.chg hc (fun x hx => hn x (by simp [hx])), rfl⟩
theorem NP.below (h : NP w nb p Fl Fv N) (hb : Below w.heap.size w w') : NP w' nb p Fl Fv N :=
 ⟨h.blk.below hb, h.vlt.below hb, h.log.below hb, h.sm.below hb, h.vo.below hb, h.nx.chg (L := []) (Chg.of_below hb) (by simp), h.mx.chg (L := []) (Chg.of_below hb) (by simp), h.sep⟩
theorem NP.own (h : NP w nb p Fl Fv N) (hc : Chg [nb] w w') {dead : Bool} {bt bv commit told role leader quiet beats : Int} (hb : Blk w' nb 111 (Nd.cells { N with dead := dead, bt := bt, bv := bv, commit := commit, told := told, role := role, leader := leader, quiet := quiet, beats := beats } p)) :
  NP w' nb p Fl Fv { N with dead := dead, bt := bt, bv := bv, commit := commit, told := told, role := role, leader := leader, quiet := quiet, beats := beats } := by
 have hh : HardL w [nb] := HardL.cons (h.blk.hard (by decide) (by decide)) (fun g hg => by cases hg); have hs := h.sep.e; simp only [List.mem_cons, List.mem_append, not_or] at hs
 refine ⟨hb, h.vlt.chg hc (fun x hx hy => hs.2.2.2 (List.mem_singleton.1 hy ▸ hx)) hh.nob, h.log.keep hc (fun x hx hy => hs.2.2.1 (List.mem_singleton.1 hy ▸ hx)) (fun x hx => (hh x hx).notByte), h.sm.chg hc hh, h.vo.chg hc hh, h.nx.chg hc (fun hx => hs.1 (List.mem_singleton.1 hx).symm), h.mx.chg hc (fun hx => hs.2.1 (List.mem_singleton.1 hx).symm), h.sep⟩
theorem NP.vault (h : NP w nb p Fl Fv N) {V' : Vlt} (hv : VltT w w' p.v p.d Fv V') : ∃ Fv', NP w' nb p Fl Fv' { N with V := V' } ∧ Chg Fv w w' ∧ ∀ x ∈ Fv', x ∈ Fv ∨ w.heap.size ≤ x := by
 obtain ⟨Fv', h1, hc, hf⟩ := hv; have hs := h.sep.e; simp only [List.mem_cons, List.mem_append, not_or] at hs; have hb := h.sep.b; have hc' := h.sep.c; simp only [List.mem_append, not_or] at hb hc'; have k1 := h.nx; have k2 := h.mx; have hlt := h.log.lt
 have nin : ∀ x, x < w.heap.size → x ∉ Fv → x ∉ Fv' := fun x hx hn hx' => (hf x hx').elim hn (fun h => by omega)
 refine ⟨Fv', ⟨h.blk.chg hc hs.2.2.2, h1, h.log.keep hc (fun x hx => h.sep.d x hx) (fun x hx => (h.vlt.hard x hx).notByte), h.sm.chg hc h.vlt.hard, h.vo.chg hc h.vlt.hard, k1.chg hc hb.2, k2.chg hc hc'.2, ⟨h.sep.a, ?_, ?_, fun x hx => nin x (hlt x hx) (h.sep.d x hx), ?_⟩⟩, hc, hf⟩
 ·simp only [List.mem_append, not_or]; exact ⟨hb.1, nin _ k1.lt hb.2⟩
 ·simp only [List.mem_append, not_or]; exact ⟨hc'.1, nin _ k2.lt hc'.2⟩
 ·simp only [List.mem_cons, List.mem_append, not_or]; exact ⟨hs.1, hs.2.1, hs.2.2.1, nin _ h.blk.lt hs.2.2.2⟩
theorem NP.logT (h : NP w nb p Fl Fv N) {L' : List Con} (hl : LG w' p.lb 0 0 L' Fl') (hc : Chg Fl w w') (hf : ∀ x ∈ Fl', x ∈ Fl ∨ w.heap.size ≤ x) : NP w' nb p Fl' Fv { N with L := L' } := by
 have hs := h.sep.e; simp only [List.mem_cons, List.mem_append, not_or] at hs; have hb := h.sep.b; have hc' := h.sep.c; simp only [List.mem_append, not_or] at hb hc'; have k1 := h.nx; have k2 := h.mx
 have hvl : ∀ x ∈ Fv, x < w.heap.size := fun x hx => (h.vlt.hard x hx).lt
 have nin : ∀ x, x < w.heap.size → x ∉ Fl → x ∉ Fl' := fun x hx hn hx' => (hf x hx').elim hn (fun h => by omega)
 refine ⟨h.blk.chg hc hs.2.2.1, h.vlt.chg hc (fun x hx hy => h.sep.d x hy hx) h.log.hard.nob, hl, h.sm.chg hc h.log.hard, h.vo.chg hc h.log.hard, k1.chg hc hb.1, k2.chg hc hc'.1, ⟨h.sep.a, ?_, ?_, fun x hx hx' => nin x (hvl x hx') (fun h' => h.sep.d x h' hx') hx, ?_⟩⟩
 ·simp only [List.mem_append, not_or]; exact ⟨nin _ k1.lt hb.1, hb.2⟩
 ·simp only [List.mem_append, not_or]; exact ⟨nin _ k2.lt hc'.1, hc'.2⟩
 ·simp only [List.mem_cons, List.mem_append, not_or]; exact ⟨hs.1, hs.2.1, nin _ h.blk.lt hs.2.2.1, hs.2.2.2⟩
theorem NP.nextT (h : NP w nb p Fl Fv N) {f : Int → Option Int} (hi : IM w' p.nx (cnt16 f) f) (hc : Chg [p.nx] w w') : NP w' nb p Fl Fv { N with next := f } := by
 have hs := h.sep.e; simp only [List.mem_cons, List.mem_append, not_or] at hs; have hb := h.sep.b; simp only [List.mem_append, not_or] at hb; have k1 := h.nx; have k2 := h.mx; have hh : HardL w [p.nx] := HardL.cons k1.hard (fun g hg => by cases hg)
 exact ⟨h.blk.chg hc (fun hx => hs.1 (List.mem_singleton.1 hx)), h.vlt.chg hc (fun x hx hy => hb.2 (List.mem_singleton.1 hy ▸ hx)) hh.nob, h.log.keep hc (fun x hx hy => hb.1 (List.mem_singleton.1 hy ▸ hx)) (fun x hx => (hh x hx).notByte), h.sm.chg hc hh, h.vo.chg hc hh, hi, k2.chg hc (fun hx => h.sep.a (List.mem_singleton.1 hx).symm), h.sep⟩
theorem NP.matT (h : NP w nb p Fl Fv N) {f : Int → Option Int} (hi : IM w' p.mx (cnt16 f) f) (hc : Chg [p.mx] w w') : NP w' nb p Fl Fv { N with mat := f } := by
 have hs := h.sep.e; simp only [List.mem_cons, List.mem_append, not_or] at hs; have hb := h.sep.c; simp only [List.mem_append, not_or] at hb; have k1 := h.nx; have k2 := h.mx; have hh : HardL w [p.mx] := HardL.cons k2.hard (fun g hg => by cases hg)
 exact ⟨h.blk.chg hc (fun hx => hs.2.1 (List.mem_singleton.1 hx)), h.vlt.chg hc (fun x hx hy => hb.2 (List.mem_singleton.1 hy ▸ hx)) hh.nob, h.log.keep hc (fun x hx hy => hb.1 (List.mem_singleton.1 hy ▸ hx)) (fun x hx => (hh x hx).notByte), h.sm.chg hc hh, h.vo.chg hc hh, k1.chg hc (fun hx => h.sep.a (List.mem_singleton.1 hx)), hi, h.sep⟩
def NodeM (w : World) (nb : Nat) (F : List Nat) (N : Nd) : Prop := ∃ p Fl Fv, NP w nb p Fl Fv N ∧ F = ft nb p Fl Fv
def NodeT (w w' : World) (nb : Nat) (F : List Nat) (N : Nd) : Prop := ∃ F', NodeM w' nb F' N ∧ Chg F w w' ∧ ∀ x ∈ F', x ∈ F ∨ w.heap.size ≤ x
theorem NodeT.step {w w1 w2 : World} {F1 : List Nat} (hc : Chg F w w1) (hF : ∀ x ∈ F1, x ∈ F ∨ w.heap.size ≤ x) (h : NodeT w1 w2 nb F1 N) : NodeT w w2 nb F N := by
 obtain ⟨F2, h1, h2, h3⟩ := h
 exact ⟨F2, h1, hc.trans h2 hF, fun x hx => (h3 x hx).elim (hF x) (fun h => Or.inr (Nat.le_trans hc.size h))⟩
theorem NodeM.below (h : NodeM w nb F N) (hb : Below w.heap.size w w') : NodeM w' nb F N := by
 obtain ⟨p, Fl, Fv, h, rfl⟩ := h
 exact ⟨p, Fl, Fv, h.below hb, rfl⟩
theorem NodeM.stay (h : NodeM w nb F N) (hb : Below w.heap.size w w') : NodeT w w' nb F N := ⟨F, h.below hb, Chg.of_below hb, fun x hx => Or.inl hx⟩
theorem NP.node {w0 : World} {p0 : Pl} {Fl0 Fv0 : List Nat} (h : NP w' nb p Fl Fv N) (hc : Chg (ft nb p0 Fl0 Fv0) w0 w') (hF : ∀ x ∈ ft nb p Fl Fv, x ∈ ft nb p0 Fl0 Fv0 ∨ w0.heap.size ≤ x) : NodeT w0 w' nb (ft nb p0 Fl0 Fv0) N := ⟨_, ⟨p, Fl, Fv, h, rfl⟩, hc, hF⟩
end

def Nd.put (N : Nd) (k : Int) (b : List Nat) : Nd := if N.dead then N else { N with V := (N.V.put k b).2, dead := (N.V.put k b).1 != 0 }
def PutT (w w' : World) (nb : Nat) (p : Pl) (Fl Fv : List Nat) (N : Nd) : Prop := ∃ Fv', NP w' nb p Fl Fv' N ∧ Chg (nb :: Fv) w w' ∧ ∀ x ∈ Fv', x ∈ Fv ∨ w.heap.size ≤ x
section
variable {w w' : World} {nb : Nat} {p : Pl} {Fl Fv : List Nat} {N : Nd}
theorem PutT.stay (h : NP w nb p Fl Fv N) (hb : Below w.heap.size w w') : PutT w w' nb p Fl Fv N := ⟨Fv, h.below hb, Chg.of_below hb, fun x hx => Or.inl hx⟩
theorem PutT.step {w1 w2 : World} {Fv1 : List Nat} (hc : Chg (nb :: Fv) w w1) (hF : ∀ x ∈ Fv1, x ∈ Fv ∨ w.heap.size ≤ x) (h : PutT w1 w2 nb p Fl Fv1 N) : PutT w w2 nb p Fl Fv N := by
 obtain ⟨Fv', h1, h2, h3⟩ := h
 refine ⟨Fv', h1, hc.trans h2 (fun z hz => ?_), fun x hx => (h3 x hx).elim (hF x) (fun h => Or.inr (Nat.le_trans hc.size h))⟩
 rcases List.mem_cons.1 hz with rfl | hz
 ·exact Or.inl (by simp)
 ·exact (hF z hz).imp (List.mem_cons_of_mem _) id
theorem nput_calls (h : NP w nb p Fl Fv N) {g : Nat} (hV : VltOk N.V g) (hg : g < 2 ^ 60) (k : Int) {A : Option Addr} {c : Nat} {b : List Nat} (hb : Bt w A c b) (hbb : ∀ x ∈ b, x < 256) (hbl : b.length ≤ 100000) :
  Calls Tryz.prog 85 #[.pointer (some ⟨nb, 0, none⟩), .int .i64 k, .slice A b.length c] w fun e w' => e = .returned (.bool (!(N.put k b).dead)) ∧ PutT w w' nb p Fl Fv (N.put k b) ∧ VltOk (N.put k b).V (g + 1) := by
 obtain ⟨R, hR⟩ : ∃ R, N.put k b = R := ⟨_, rfl⟩; rw [hR]; unfold Nd.put at hR; have r0 := Below.refl w.heap.size w; have y2 : w.cell? ⟨nb, 2, none⟩ = some (.bool N.dead) := h.blk.cell 2
 by_cases hd : N.dead = true
 ·rw [if_pos hd] at hR
  subst hR; rw [hd] at y2 ⊢; have HF := hd2 (PutT.stay h r0) (hV.up (Nat.le_succ _)); clear hd h hV hb hbb
  go_enter Tryz.func85, Tryz.ntmps85
  go_wp2; go_ret
  exact ⟨rfl, HF.out⟩
 ·rw [if_neg hd] at hR
  have hd' : N.dead = false := by simpa using hd
  rw [hd'] at y2; have y1 : w.cell? ⟨nb, 1, none⟩ = some (.pointer (some ⟨p.v, 0, none⟩)) := h.blk.cell 1; have HPU := vlput_calls h.vlt hV hg k hb hbb hbl; obtain ⟨⟨e1, V1⟩, hq⟩ : ∃ x, N.V.put k b = x := ⟨_, rfl⟩; rw [hq] at HPU; simp only [hq] at hR HPU; have HPU := hide HPU; have H := hd2 h hd'; have HR := hide hR; clear hd hd' h hV hb hbb hq hR
  go_enter Tryz.func85, Tryz.ntmps85
  go_wp2_with fail
  with_reducible refine HPU.out.mono ?_
  rintro e w1 ⟨rfl, hv1, hok1⟩; obtain ⟨Fv1, h1, hc1, hF1⟩ := H.out.1.vault hv1
  have y2' : w1.cell? ⟨nb, 2, none⟩ = some (.bool false) := by
   have := h1.blk.cell 2; simp only [Nd.cells, List.getElem?_cons_succ, List.getElem?_cons_zero, H.out.2] at this
   exact this
  have H1 := hd4 h1 (hc1.mono (L' := nb :: Fv) (fun z hz => Or.inl (List.mem_cons_of_mem _ hz))) hF1 hok1; clear hv1 h1 hc1 hF1 hok1 HPU y1 y2
  by_cases he : e1 = 0
  ·subst he
   have hRn : R = { N with V := V1 } := by
    rw [← HR.out]; have := H.out.2
    cases N
    simp only at this; subst this
    rfl
   subst hRn; go_wp2; go_ret
   exact ⟨by simp [H.out.2], ⟨Fv1, H1.out.1, H1.out.2.1, H1.out.2.2.1⟩, H1.out.2.2.2⟩
  ·have u1 : ((e1 : Int) != 0) = true := by simp; omega
   have hRn : R = { N with V := V1, dead := true } := by
    rw [← HR.out]
    have : (e1 != 0) = true := by simpa using he
    rw [this]
   subst hRn; have q2 := H1.out.1.blk.cell 2; have f2 := H1.out.1.blk.frozen 2; simp only [Nd.cells, List.getElem?_cons_succ, List.getElem?_cons_zero] at q2; have b2 := H1.out.1.blk.set 2 (.bool true); have c2 : Chg [nb] w1 (w1.setCell ⟨nb, 2, none⟩ (.bool true)) := (Chg.refl [nb] w1).setCell (p := ⟨nb, 2, none⟩) (Or.inl (by simp)) _; have h2 := H1.out.1.own c2 (dead := true) (bt := N.bt) (bv := N.bv) (commit := N.commit) (told := N.told) (role := N.role) (leader := N.leader) (quiet := N.quiet) (beats := N.beats) b2; have H2 := hd2 h2 (H1.out.2.1.trans c2 (fun z hz => Or.inl (by rw [List.mem_singleton.1 hz]; simp))); clear he b2 c2 h2; go_wp2; go_ret
   exact ⟨rfl, ⟨Fv1, H2.out.1, H2.out.2, H1.out.2.2.1⟩, H1.out.2.2.2⟩
theorem lg_last0 {p : Nat} {L : List Con} {F : List Nat} (h : LG w p 0 0 L F) (hn : L.length ≤ 1000000) :
  Calls Tryz.prog 97 #[.pointer (some ⟨p, 0, none⟩)] w fun e w' => e = .returned (.tuple #[.int .i64 (L.length : Nat), .int .i64 ((L.getLast?.map (·.1)).getD 0)]) ∧ ∃ n, w' = w.drewN n := by
 have := lg_last h (Int.le_refl _) (by omega) hn; rw [Int.zero_add] at this
 exact this
theorem nmem_calls (h : NP w nb p Fl Fv N) (hk : ∀ c ∈ N.L, c.2.1 ≠ 2) (hf : FewC N.L) (hl : N.L.length ≤ 100000) :
  Calls Tryz.prog 92 #[.pointer (some ⟨nb, 0, none⟩)] w fun e w' => e = .returned (.tuple #[.slice p.Am N.sm.length p.cm, .int .i64 0]) ∧ Below w.heap.size w w' := by
 have r0 := Below.refl w.heap.size w; obtain ⟨n, hn⟩ : ∃ n, N.L.length = n := ⟨_, rfl⟩; have HLA := lg_last0 h.log (by omega); rw [hn] at HLA; have HLA := hide HLA
 have hnl : n ≤ 100000 := by omega
 have y9 : w.cell? ⟨nb, 9, none⟩ = some (.pointer (some ⟨p.lb, 0, none⟩)) := h.blk.cell 9; have H := hd5 h hk hf hl hn; clear h hk hf hl hn
 go_enter Tryz.func92, Tryz.ntmps92
 go_wp2_with fail
 with_reducible refine HLA.out.mono ?_
 rintro e w1 ⟨rfl, q, rfl⟩; have HB1 := hide (below_drewN r0 q); clear y9 HLA; go_wp2
 go_loopw [6, 7, 8, 9, 10, 20, 21, 22, 23, 24, 25, 26, 27, 28, 29, 30, 31, 32, 33, 34, 35, 36, 37, 38, 39, 40, 41, 42, 43, 44, 45, 46] (fun iv _ _ _ _ _ _ _ _ _ _ _ _ _ _ _ _ _ _ _ _ _ _ _ _ _ _ _ _ _ _ _ wr => ∃ k : Nat, k ≤ n ∧ iv = .int .i64 k ∧ Hid (Below w.heap.size w wr)) (fun iv _ _ _ _ _ _ _ _ _ _ _ _ _ _ _ _ _ _ _ _ _ _ _ _ _ _ _ _ _ _ _ _ => (Go.RowKit.intOf iv).toNat)
 case atStart => exact ⟨n, Nat.le_refl _, rfl, HB1⟩
 case round =>
  obtain ⟨k, hkn, rfl, HB⟩ := hrel; have b1 := H.out.1.blk.below HB.out; have y5 : wr.cell? ⟨nb, 5, none⟩ = some (.int .i64 0) := b1.cell 5
  by_cases hlt : 0 < k
  ·have i1 : (0 : Int) < k := by omega
   have y9 : wr.cell? ⟨nb, 9, none⟩ = some (.pointer (some ⟨p.lb, 0, none⟩)) := b1.cell 9; have HG := hide (lg_get (i := (k : Int)) (k - 1) (H.out.1.log.below HB.out) (by rw [H.out.2.2.2.2]; omega) H.out.2.2.1 (Int.le_refl _) (by omega) (by have := H.out.2.2.2.1; omega) (by omega))
   have q1 : IntKind.i64.wrap ((k : Int) - 1) = ((k - 1 : Nat) : Int) := by rw [IntWalk.i64_in _ (by omega)]; omega
   clear b1; go_wp2_with fail
   with_reducible refine HG.out.mono ?_
   rintro e w2 ⟨x, rfl, hxc, hxo, hb2⟩
   have hxk : x.k ≠ 2 := by
    have h9 : x.con ∈ N.L := by rw [hxc]; exact List.getElem_mem _
    exact H.out.2.1 _ h9
   have u2 : (x.k == 2) = false := by simpa using hxk
   have HB2 := hide (belowL (belowA hb2 HB.out) (.cells #[.int .i64 x.t, .int .i64 x.k, .slice x.A x.b.length x.c] 157)); clear hxc hxo hb2 hxk HG y5 y9; go_wp2
   go_roundw
   case rel => exact ⟨k - 1, by omega, rfl, HB2⟩
   case measure => simp [Go.RowKit.intOf]; omega
  ·have i1 : ¬ (0 : Int) < k := by omega
   have r1 := Below.refl wr.heap.size wr; have y7r := b1.rule 7 _ rfl; have y5r := b1.rule 5 _ rfl; clear b1
   go_upto_region 9 with fail
   refine region_lx (fun w' => Below wr.heap.size wr w') [] [2, 2, 2, 2, 0, 2, 2, 2, 2, 0, 2, 2] (by (exact r1.drew)) (fun hS0 => ?_)
   (iterate 12 (first | refine lxt ?_ | refine lxp ?_))
   refine lxN ?_
   go_wp2
   go_ret2
   exact ⟨rfl, belowA r1.drew HB.out⟩
end

theorem run_eqI2 (n : Nat) (x y : Int) (w : World) : (Op.equalIn (n + 1) 3 (.int .i64 x) (.int .i64 y)).run Tryz.prog w = .ok (x == y) w := by
 simp [Op.equalIn, run_underlying Tryz.underlying3]
theorem balStood : Tryz.prog.stoodInHeld 105 = false := by kernel_rfl
theorem run_eqBalIn (n : Nat) (a b a' b' : Int) (w : World) : (Op.equalIn (n + 2) 105 (.agg #[.int .i64 a, .int .i64 b]) (.agg #[.int .i64 a', .int .i64 b'])).run Tryz.prog w = .ok (a == a' && b == b') w := by
 have h := run_eqI2 n; have hp := balStood; unfold Op.equalIn
 simp [run_underlying Tryz.underlying105, part, go_sem, Tryz.isAgg3, h]
 by_cases e1 : a = a' <;> by_cases e2 : b = b' <;> simp [e1, e2]
theorem run_eqBal (a b a' b' : Int) (w : World) : (binOp .eql 105 (.agg #[.int .i64 a, .int .i64 b]) (.agg #[.int .i64 a', .int .i64 b'])).run Tryz.prog w = .ok (.bool (a == a' && b == b')) w := by
 simp only [binOp]
 simp [Op.equal, Op.maxDepth, run_eqBalIn 9998]
def Nd.seeB (N : Nd) (t v : Int) : Nd := { N with bt := t, bv := v, role := if N.bt < t then 0 else N.role, leader := if N.bt < t then -1 else N.leader }
def Nd.keepB (N : Nd) (t v : Int) : Nd := if t = N.bt ∧ v = N.bv then N else (N.seeB t v).put 0 (bbytes t v)
section
variable {w w' : World} {nb : Nat} {p : Pl} {Fl Fv : List Nat} {N : Nd}
theorem nkeep_calls (h : NP w nb p Fl Fv N) {g : Nat} (hV : VltOk N.V g) (hg : g < 2 ^ 60) (t v : Int) (ht : 0 ≤ t ∧ t < 2 ^ 59) (hv : -1 ≤ v ∧ v < 2 ^ 59) :
  Calls Tryz.prog 95 #[.pointer (some ⟨nb, 0, none⟩), .agg #[.int .i64 t, .int .i64 v]] w fun e w' => e = .returned (.bool (!(N.keepB t v).dead)) ∧ PutT w w' nb p Fl Fv (N.keepB t v) ∧ VltOk (N.keepB t v).V (g + 1) := by
 obtain ⟨R, hR⟩ : ∃ R, N.keepB t v = R := ⟨_, rfl⟩; rw [hR]; unfold Nd.keepB at hR; obtain ⟨w0, hw0⟩ : ∃ w0, w.alloc (.cells #[.int .i64 t, .int .i64 v] 105) = w0 := ⟨_, rfl⟩; obtain ⟨xb, hxb⟩ : ∃ xb, w.heap.size = xb := ⟨_, rfl⟩
 have hb0 : Below w.heap.size w w0 := hw0 ▸ belowL (Below.refl _ _) _
 have bX : Blk w0 xb 105 [.int .i64 t, .int .i64 v] := by rw [← hw0, ← hxb]; exact Blk.new rfl
 have h0 := h.below hb0; have r0 := Below.refl w0.heap.size w0; have x0 := bX.rule 0 _ rfl; have x1 := bX.rule 1 _ rfl; have y3 := h0.blk.rule 3 _ rfl; have y4 := h0.blk.rule 4 _ rfl; have HW := hd2 hw0 hxb; have heq := run_eqBal t v N.bt N.bv
 by_cases he : t = N.bt ∧ v = N.bv
 ·rw [if_pos he] at hR
  subst hR
  have hbq : (t == N.bt && v == N.bv) = true := by simp [he]
  rw [hbq] at heq; have y2 := h0.blk.rule 2 _ rfl; have HF := hd3 (fun w' hb => PutT.stay (w' := w') h hb) (hV.up (Nat.le_succ _)) hb0; clear h h0 hV bX hb0 hw0 hxb he hbq
  go_enter Tryz.func95, Tryz.ntmps95
  go_upto_region 1 with fail
  (try rw [HW.out.1])
  (try rw [HW.out.2])
  refine region_lx (fun w' => Below w0.heap.size w0 w') [] [0, 2, 2, 2, 0, 2] (by (exact r0.drew)) (fun hS0 => ?_)
  (iterate 6 (first | refine lxt ?_ | refine lxp ?_))
  refine lxN ?_
  have y2' := y2 _ r0.drew; have HB := hide (belowA r0.drew HF.out.2.2); clear y2 y3 y4 x0 x1; go_wp2; go_ret
  exact ⟨rfl, HF.out.1 _ HB.out, HF.out.2.1⟩
 ·rw [if_neg he] at hR
  have hbq : (t == N.bt && v == N.bv) = false := by
   rw [Bool.and_eq_false_iff]; simp only [beq_eq_false_iff_ne]
   by_cases h1 : t = N.bt
   ·exact Or.inr (fun h2 => he ⟨h1, h2⟩)
   ·exact Or.inl h1
  rw [hbq] at heq; have H := hd5 h0 hV hg ht hv; have HB0 := hd2 hb0 bX; have HR := hide hR; clear h h0 hV bX hb0 hw0 hxb he hbq ht hv hg hR
  by_cases htb : N.bt < t
  ·have u1 : decide (N.bt < t) = true := decide_eq_true htb
   go_enter Tryz.func95, Tryz.ntmps95
   go_upto_region 1 with fail
   (try rw [HW.out.1])
   (try rw [HW.out.2])
   refine region_lx (fun w' => Below w0.heap.size w0 w') [] [0, 2, 2, 2, 0, 2] (by (exact r0.drew)) (fun hS0 => ?_)
   (iterate 6 (first | refine lxt ?_ | refine lxp ?_))
   refine lxN ?_
   have r2 : Below w0.heap.size w0 w0.drew.drew := r0.drew.drew; clear heq
   go_upto_region 3 with fail
   refine region_lx (fun w' => Below w0.heap.size w0 w') [] [2, 0, 2, 2, 2, 2, 0, 2] (by (exact r2)) (fun hS0 => ?_)
   (iterate 8 (first | refine lxt ?_ | refine lxp ?_))
   refine lxN ?_
   have x0' := x0 _ r2; have x1' := x1 _ r2; have hn2 := H.out.1.below r2; obtain ⟨w2, hw2⟩ : ∃ w2, w0.drew.drew = w2 := ⟨_, rfl⟩; rw [hw2] at x0' x1' hn2 r2; rw [hw2]; clear y3 y4 x0 x1 hS0 hw2; have q3 := hn2.blk.cell 3; have q4 := hn2.blk.cell 4; have q13 := hn2.blk.cell 13; have q14 := hn2.blk.cell 14; have f3 := hn2.blk.frozen 3; have f4 := hn2.blk.frozen 4; have f13 := hn2.blk.frozen 13; have f14 := hn2.blk.frozen 14; simp only [Nd.cells, List.getElem?_cons_succ, List.getElem?_cons_zero] at q3 q4 q13 q14
   have hne : xb ≠ nb := fun e => by
    have h1 := HB0.out.2; rw [e] at h1
    exact absurd (h1.one H.out.1.blk).2 (by decide)
   have hne' : nb ≠ xb := fun e => hne e.symm
   have b3 := (((hn2.blk.set 13 (.int .i64 0)).set 14 (.int .i64 (-1))).set 3 (.int .i64 t)).set 4 (.int .i64 v); obtain ⟨w3, hw3⟩ : ∃ w3, (((w2.setCell ⟨nb, 13, none⟩ (.int .i64 0)).setCell ⟨nb, 14, none⟩ (.int .i64 (-1))).setCell ⟨nb, 3, none⟩ (.int .i64 t)).setCell ⟨nb, 4, none⟩ (.int .i64 v) = w3 := ⟨_, rfl⟩
   have c3 : Chg [nb] w2 w3 := by rw [← hw3]; exact ((((Chg.refl [nb] w2).setCell (p := ⟨nb, 13, none⟩) (Or.inl (by simp)) _).setCell (p := ⟨nb, 14, none⟩) (Or.inl (by simp)) _).setCell (p := ⟨nb, 3, none⟩) (Or.inl (by simp)) _).setCell (p := ⟨nb, 4, none⟩) (Or.inl (by simp)) _
   rw [hw3] at b3; have h3 := hn2.own c3 (dead := N.dead) (bt := t) (bv := v) (commit := N.commit) (told := N.told) (role := 0) (leader := -1) (quiet := N.quiet) (beats := N.beats) b3
   have hse : N.seeB t v = { N with bt := t, bv := v, role := 0, leader := -1 } := by unfold Nd.seeB; rw [if_pos htb, if_pos htb]
   have hbo := bbytes_ok (t := t) (v := v) (by have := H.out; omega) (by have := H.out; omega); have HBB := hide (ballb_calls (w := w3) t v ⟨by have := H.out; omega, by have := H.out; omega⟩ ⟨by have := H.out; omega, by have := H.out; omega⟩); have H3 := hd3 (hse ▸ h3) (((Chg.of_below (L := nb :: Fv) (belowA r2 HB0.out.1)).trans c3 (fun z hz => Or.inl (by rw [List.mem_singleton.1 hz]; simp)))) hbo; have HW3 := hide hw3; clear b3 c3 h3 hse hn2 hw3 hbo; go_wp2_with fail
   (try rw [HW3.out])
   with_reducible refine HBB.out.mono ?_
   rintro e w4 ⟨A4, c4, rfl, ho4, hb4⟩; have hpu := nput_calls (H3.out.1.below hb4) (show VltOk (N.seeB t v).V g from H.out.2.1) H.out.2.2.1 0 ho4.bt H3.out.2.2.2 (by have := H3.out.2.2.1; omega); rw [HR.out] at hpu; have HPU := hide hpu; have HC4 := hide (H3.out.2.1.below hb4); clear hpu ho4 hb4 HBB; go_wp2_with fail
   with_reducible refine HPU.out.mono ?_
   rintro e w5 ⟨rfl, hp5, hok5⟩; have H5 := hd2 (PutT.step HC4.out (fun x hx => Or.inl hx) hp5) hok5; clear hp5 hok5 HPU; go_wp2; go_ret
   exact ⟨rfl, H5.out⟩
  ·have u1 : decide (N.bt < t) = false := decide_eq_false htb
   go_enter Tryz.func95, Tryz.ntmps95
   go_upto_region 1 with fail
   (try rw [HW.out.1])
   (try rw [HW.out.2])
   refine region_lx (fun w' => Below w0.heap.size w0 w') [] [0, 2, 2, 2, 0, 2] (by (exact r0.drew)) (fun hS0 => ?_)
   (iterate 6 (first | refine lxt ?_ | refine lxp ?_))
   refine lxN ?_
   have r2 : Below w0.heap.size w0 w0.drew.drew := r0.drew.drew; clear heq
   go_upto_region 3 with fail
   refine region_lx (fun w' => Below w0.heap.size w0 w') [] [2, 0, 2, 2, 2, 2, 0, 2] (by (exact r2)) (fun hS0 => ?_)
   (iterate 8 (first | refine lxt ?_ | refine lxp ?_))
   refine lxN ?_
   have x0' := x0 _ r2; have x1' := x1 _ r2; have hn2 := H.out.1.below r2; obtain ⟨w2, hw2⟩ : ∃ w2, w0.drew.drew = w2 := ⟨_, rfl⟩; rw [hw2] at x0' x1' hn2 r2; rw [hw2]; clear y3 y4 x0 x1 hS0 hw2; have q3 := hn2.blk.cell 3; have q4 := hn2.blk.cell 4; have f3 := hn2.blk.frozen 3; have f4 := hn2.blk.frozen 4; simp only [Nd.cells, List.getElem?_cons_succ, List.getElem?_cons_zero] at q3 q4
   have hne : xb ≠ nb := fun e => by
    have h1 := HB0.out.2; rw [e] at h1
    exact absurd (h1.one H.out.1.blk).2 (by decide)
   have hne' : nb ≠ xb := fun e => hne e.symm
   have b3 := (hn2.blk.set 3 (.int .i64 t)).set 4 (.int .i64 v); obtain ⟨w3, hw3⟩ : ∃ w3, (w2.setCell ⟨nb, 3, none⟩ (.int .i64 t)).setCell ⟨nb, 4, none⟩ (.int .i64 v) = w3 := ⟨_, rfl⟩
   have c3 : Chg [nb] w2 w3 := by rw [← hw3]; exact ((Chg.refl [nb] w2).setCell (p := ⟨nb, 3, none⟩) (Or.inl (by simp)) _).setCell (p := ⟨nb, 4, none⟩) (Or.inl (by simp)) _
   rw [hw3] at b3; have h3 := hn2.own c3 (dead := N.dead) (bt := t) (bv := v) (commit := N.commit) (told := N.told) (role := N.role) (leader := N.leader) (quiet := N.quiet) (beats := N.beats) b3
   have hse : N.seeB t v = { N with bt := t, bv := v, role := N.role, leader := N.leader } := by unfold Nd.seeB; rw [if_neg htb, if_neg htb]
   have hbo := bbytes_ok (t := t) (v := v) (by have := H.out; omega) (by have := H.out; omega); have HBB := hide (ballb_calls (w := w3) t v ⟨by have := H.out; omega, by have := H.out; omega⟩ ⟨by have := H.out; omega, by have := H.out; omega⟩); have H3 := hd3 (hse ▸ h3) (((Chg.of_below (L := nb :: Fv) (belowA r2 HB0.out.1)).trans c3 (fun z hz => Or.inl (by rw [List.mem_singleton.1 hz]; simp)))) hbo; have HW3 := hide hw3; clear b3 c3 h3 hse hn2 hw3 hbo; go_wp2_with fail
   (try rw [HW3.out])
   with_reducible refine HBB.out.mono ?_
   rintro e w4 ⟨A4, c4, rfl, ho4, hb4⟩; have hpu := nput_calls (H3.out.1.below hb4) (show VltOk (N.seeB t v).V g from H.out.2.1) H.out.2.2.1 0 ho4.bt H3.out.2.2.2 (by have := H3.out.2.2.1; omega); rw [HR.out] at hpu; have HPU := hide hpu; have HC4 := hide (H3.out.2.1.below hb4); clear hpu ho4 hb4 HBB; go_wp2_with fail
   with_reducible refine HPU.out.mono ?_
   rintro e w5 ⟨rfl, hp5, hok5⟩; have H5 := hd2 (PutT.step HC4.out (fun x hx => Or.inl hx) hp5) hok5; clear hp5 hok5 HPU; go_wp2; go_ret
   exact ⟨rfl, H5.out⟩
end
end Go.Proofs.YtcahcjfgmdpdoaaGreat
