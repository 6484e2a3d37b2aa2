/- One text of: Sm. -/
import Derived.Test.YtcgecalbgkkinaaGreatQVaw
import Derived.Test.YtcgecalbgkkinaaGreatQPol3
import Derived.Test.YtcgecalbgkkinaaGreatQReg3
namespace Go.Proofs.YtcgecalbgkkinaaGreat
open Go.RowKit Go.Proofs Go.Maps
set_option linter.unusedVariables false
set_option linter.unusedSimpArgs false

theorem run_eqI (n : Nat) (x y : Int) (w : World) : (Op.equalIn (n + 1) 3 (.int .i64 x) (.int .i64 y)).run Tryz.prog w = .ok (x == y) w := by
  simp [Op.equalIn, run_underlying Tryz.underlying3]
theorem polStood : Tryz.prog.stoodInHeld 36 = false := by kernel_rfl
theorem run_eqPolIn (n : Nat) (a b c d a' b' c' d' : Int) (w : World) : (Op.equalIn (n + 2) 36 (.agg #[.int .i64 a, .int .i64 b, .int .i64 c, .int .i64 d]) (.agg #[.int .i64 a', .int .i64 b', .int .i64 c', .int .i64 d'])).run Tryz.prog w = .ok (a == a' && (b == b' && (c == c' && d == d'))) w := by
  have h := run_eqI n
  have hp := polStood
  unfold Op.equalIn
  simp [run_underlying Tryz.underlying36, part, go_sem, Tryz.isAgg3, h]
  by_cases e1 : a = a' <;> by_cases e2 : b = b' <;> by_cases e3 : c = c' <;> by_cases e4 : d = d' <;> simp [e1, e2, e3, e4]
theorem run_eqPol (a b c d a' b' c' d' : Int) (w : World) : (binOp .eql 36 (.agg #[.int .i64 a, .int .i64 b, .int .i64 c, .int .i64 d]) (.agg #[.int .i64 a', .int .i64 b', .int .i64 c', .int .i64 d'])).run Tryz.prog w = .ok (.bool (a == a' && (b == b' && (c == c' && d == d')))) w := by
  simp only [binOp]
  simp [Op.equal, Op.maxDepth, run_eqPolIn 9998]
theorem run_nePol (a b c d a' b' c' d' : Int) (w : World) : (binOp .neq 36 (.agg #[.int .i64 a, .int .i64 b, .int .i64 c, .int .i64 d]) (.agg #[.int .i64 a', .int .i64 b', .int .i64 c', .int .i64 d'])).run Tryz.prog w = .ok (.bool (!(a == a' && (b == b' && (c == c' && d == d'))))) w := by
  simp only [binOp]
  simp [Op.equal, Op.maxDepth, run_eqPolIn 9998]
/-- a slice read as numbers -/
structure RdI (w : World) (A : Option Addr) (l : List Int) : Prop where
  rd : Reads w w.heap.size 1 A l.length (l.map (Value.int .i64))
  ln : l.length ≤ 1024
theorem RdI.below {w w' : World} {A : Option Addr} {l : List Int} (h : RdI w A l) (hb : Below w.heap.size w w') : RdI w' A l := ⟨(h.rd.below hb).more hb.size, h.ln⟩
theorem RdI.chg {w w' : World} {A : Option Addr} {l : List Int} {L : List Nat} (h : RdI w A l) (hc : Chg L w w') (hn : ∀ a, A = some a → a.block ∉ L) : RdI w' A l :=
  ⟨⟨h.rd.1, fun h0 => by
    obtain ⟨b, o, e, hb, hcell⟩ := h.rd.2 h0
    exact ⟨b, o, e, Nat.lt_of_lt_of_le hb hc.size, fun j u hu => (hc.cell (p := ⟨b, o + j, none⟩) hb (show b ∉ L from hn ⟨b, o, Option.none⟩ e)).trans (hcell j u hu)⟩⟩, h.ln⟩
theorem MadeI.rdI {w w' : World} {A : Option Addr} {c : Nat} {l : List Int} (h : MadeI w w' A c l) (hl : l.length ≤ 1024) : RdI w' A l := ⟨h.rd, hl⟩
theorem RdI.same {w : World} {A B : Option Addr} {l : List Int} (h1 : RdI w A l) (h2 : RdI w B l) (c d : Nat) :
    Calls Tryz.prog 70 #[.slice A l.length c, .slice B l.length d] w fun e w' => e = .returned (.bool true) ∧ ∃ n, w' = w.drewN n :=
  (sameInts_calls l l A B c d w h1.rd h2.rd (by have := h1.ln; omega) (by have := h1.ln; omega)).mono fun e w' ⟨he, h⟩ => ⟨by rw [he]; simp, h⟩
set_option maxHeartbeats 4000000 in
set_option maxRecDepth 100000 in
theorem sameChunk_calls (k : Ck) (A B A' B' : Option Addr) (c d c' d' : Nat) (w : World) (h1 : RdI w A k.me) (h2 : RdI w B k.jo) (h3 : RdI w A' k.me) (h4 : RdI w B' k.jo) :
    Calls Tryz.prog 30 #[(⟨k, A, c, B, d⟩ : CkM).val, (⟨k, A', c', B', d'⟩ : CkM).val] w fun e w' => e = .returned (.bool true) ∧ Below w.heap.size w w' := by
  obtain ⟨id, vol, ep, me, jo⟩ := k
  simp only [CkM.val, CkM.cells]
  simp only [] at h1 h2 h3 h4
  obtain ⟨w0, hw0⟩ : ∃ w0, (w.alloc (.cells #[.int .i64 id, .int .i64 vol, .int .i64 ep, .slice A me.length c, .slice B jo.length d] 47)).alloc (.cells #[.int .i64 id, .int .i64 vol, .int .i64 ep, .slice A' me.length c', .slice B' jo.length d'] 47) = w0 := ⟨_, rfl⟩
  have hb0 : Below w.heap.size w w0 := hw0 ▸ ((Below.refl w.heap.size w).alloc (Nat.le_refl _) _).alloc (by simp) _
  have d1 : Blk w0 w.heap.size 47 [.int .i64 id, .int .i64 vol, .int .i64 ep, .slice A me.length c, .slice B jo.length d] := hw0 ▸ (Blk.new rfl).alloc _
  have d2 : Blk w0 (w.heap.size + 1) 47 [.int .i64 id, .int .i64 vol, .int .i64 ep, .slice A' me.length c', .slice B' jo.length d'] := hw0 ▸ Blk.new (by simp)
  have HM := hide (fun w' (hb : Below w0.heap.size w0 w') => ((h1.below hb0).below hb).same ((h3.below hb0).below hb) c c')
  have HJ := hide (fun w' (hb : Below w0.heap.size w0 w') => ((h2.below hb0).below hb).same ((h4.below hb0).below hb) d d')
  have r0 := Below.refl w0.heap.size w0
  have a0 := d1.rule 0 _ rfl
  have a1 := d1.rule 1 _ rfl
  have a2 := d1.rule 2 _ rfl
  have a3 := d1.rule 3 _ rfl
  have a4 := d1.rule 4 _ rfl
  have b0 := d2.rule 0 _ rfl
  have b1 := d2.rule 1 _ rfl
  have b2 := d2.rule 2 _ rfl
  have b3 := d2.rule 3 _ rfl
  have b4 := d2.rule 4 _ rfl
  have HB0 := hide hb0
  clear h1 h2 h3 h4 hb0 d1 d2
  go_enter Tryz.func30, Tryz.ntmps30
  go_wp2_with fail
  refine (HM.out _ r0).mono ?_
  rintro e w2 ⟨rfl, n, rfl⟩
  have HW0 := hide hw0
  clear hw0
  go_wp2_with fail
  refine (HJ.out _ (below_drewN r0 n)).mono ?_
  rintro e w2 ⟨rfl, n2, rfl⟩
  go_wp2
  go_ret
  exact ⟨rfl, below_drewN HB0.out _⟩
set_option maxHeartbeats 4000000 in
set_option maxRecDepth 100000 in
theorem sameVol_calls (k : Vo) (A A' : Option Addr) (c c' : Nat) (w : World) (h1 : RdI w A k.ch) (h3 : RdI w A' k.ch) :
    Calls Tryz.prog 29 #[(⟨k, A, c⟩ : VoM).val, (⟨k, A', c'⟩ : VoM).val] w fun e w' => e = .returned (.bool true) ∧ Below w.heap.size w w' := by
  obtain ⟨id, bl, ⟨pr, pw, pl, pb⟩, ver, ch⟩ := k
  simp only [VoM.val, VoM.cells]
  simp only [] at h1 h3
  obtain ⟨w0, hw0⟩ : ∃ w0, (w.alloc (.cells #[.int .i64 id, .int .i64 bl, .int .i64 pr, .int .i64 pw, .int .i64 pl, .int .i64 pb, .int .i64 ver, .slice A ch.length c] 43)).alloc (.cells #[.int .i64 id, .int .i64 bl, .int .i64 pr, .int .i64 pw, .int .i64 pl, .int .i64 pb, .int .i64 ver, .slice A' ch.length c'] 43) = w0 := ⟨_, rfl⟩
  have hb0 : Below w.heap.size w w0 := hw0 ▸ ((Below.refl w.heap.size w).alloc (Nat.le_refl _) _).alloc (by simp) _
  have d1 : Blk w0 w.heap.size 43 [.int .i64 id, .int .i64 bl, .int .i64 pr, .int .i64 pw, .int .i64 pl, .int .i64 pb, .int .i64 ver, .slice A ch.length c] := hw0 ▸ (Blk.new rfl).alloc _
  have d2 : Blk w0 (w.heap.size + 1) 43 [.int .i64 id, .int .i64 bl, .int .i64 pr, .int .i64 pw, .int .i64 pl, .int .i64 pb, .int .i64 ver, .slice A' ch.length c'] := hw0 ▸ Blk.new (by simp)
  have HM := hide (fun w' (hb : Below w0.heap.size w0 w') => ((h1.below hb0).below hb).same ((h3.below hb0).below hb) c c')
  have r0 := Below.refl w0.heap.size w0
  have a0 := d1.rule 0 _ rfl
  have a1 := d1.rule 1 _ rfl
  have a2 := d1.rule 2 _ rfl
  have a3 := d1.rule 3 _ rfl
  have a4 := d1.rule 4 _ rfl
  have a5 := d1.rule 5 _ rfl
  have a6 := d1.rule 6 _ rfl
  have a7 := d1.rule 7 _ rfl
  have b0 := d2.rule 0 _ rfl
  have b1 := d2.rule 1 _ rfl
  have b2 := d2.rule 2 _ rfl
  have b3 := d2.rule 3 _ rfl
  have b4 := d2.rule 4 _ rfl
  have b5 := d2.rule 5 _ rfl
  have b6 := d2.rule 6 _ rfl
  have b7 := d2.rule 7 _ rfl
  have heq := run_eqPol pr pw pl pb pr pw pl pb
  simp only [beq_self_eq_true, Bool.and_self] at heq
  have HB0 := hide hb0
  clear h1 h3 hb0 d1 d2
  go_enter Tryz.func29, Tryz.ntmps29
  go_wp2_with fail
  refine (HM.out _ r0).mono ?_
  rintro e w2 ⟨rfl, n, rfl⟩
  have HW0 := hide hw0
  clear hw0
  go_wp2
  go_ret
  exact ⟨rfl, below_drewN HB0.out n⟩
end Go.Proofs.YtcgecalbgkkinaaGreat
