/- One text of: Sm. -/
import Derived.Test.YtanfdnpnkdiiiaaGreatQVaw
import Derived.Test.YtanfdnpnkdiiiaaGreatQPol3
import Derived.Test.YtanfdnpnkdiiiaaGreatQReg3
namespace Go.Proofs.YtanfdnpnkdiiiaaGreat
open Go.RowKit Go.Proofs Go.Maps
set_option linter.unusedVariables false
set_option linter.unusedSimpArgs false

theorem run_eqI (n : Nat) (x y : Int) (w : World) : (Op.equalIn (n + 1) 3 (.int .i64 x) (.int .i64 y)).run Tryz.prog w = .ok (x == y) w := by
  simp [Op.equalIn, run_underlying Tryz.underlying3]
theorem polStood : Tryz.prog.stoodInHeld 66 = false := by kernel_rfl
theorem run_eqPolIn (n : Nat) (a b c d a' b' c' d' : Int) (w : World) : (Op.equalIn (n + 2) 66 (.agg #[.int .i64 a, .int .i64 b, .int .i64 c, .int .i64 d]) (.agg #[.int .i64 a', .int .i64 b', .int .i64 c', .int .i64 d'])).run Tryz.prog w = .ok (a == a' && (b == b' && (c == c' && d == d'))) w := by
  have h := run_eqI n
  have hp := polStood
  unfold Op.equalIn
  simp [run_underlying Tryz.underlying66, part, go_sem, Tryz.isAgg3, h]
  by_cases e1 : a = a' <;> by_cases e2 : b = b' <;> by_cases e3 : c = c' <;> by_cases e4 : d = d' <;> simp [e1, e2, e3, e4]
theorem run_eqPol (a b c d a' b' c' d' : Int) (w : World) : (binOp .eql 66 (.agg #[.int .i64 a, .int .i64 b, .int .i64 c, .int .i64 d]) (.agg #[.int .i64 a', .int .i64 b', .int .i64 c', .int .i64 d'])).run Tryz.prog w = .ok (.bool (a == a' && (b == b' && (c == c' && d == d')))) w := by
  simp only [binOp]
  simp [Op.equal, Op.maxDepth, run_eqPolIn 9998]
theorem run_nePol (a b c d a' b' c' d' : Int) (w : World) : (binOp .neq 66 (.agg #[.int .i64 a, .int .i64 b, .int .i64 c, .int .i64 d]) (.agg #[.int .i64 a', .int .i64 b', .int .i64 c', .int .i64 d'])).run Tryz.prog w = .ok (.bool (!(a == a' && (b == b' && (c == c' && d == d'))))) w := by
  simp only [binOp]
  simp [Op.equal, Op.maxDepth, run_eqPolIn 9998]
/-- a slice read as numbers -/
structure RdI (w : World) (A : Option Addr) (l : List Int) : Prop where
  rd : Reads w w.heap.size 1 A l.length (l.map (Value.int .i64))
  ln : l.length ≤ 1024
theorem RdI.below {w w' : World} {A : Option Addr} {l : List Int} (h : RdI w A l) (hb : Below w.heap.size w w') : RdI w' A l := ⟨(h.rd.below hb).more hb.size, h.ln⟩
theorem RdI.chg {w w' : World} {A : Option Addr} {l : List Int} {L : List Nat} (h : RdI w A l) (hc : Chg L w w') (hn : ∀ a, A = some a → a.block ∉ L) : RdI w' A l :=
  ⟨⟨h.rd.1, fun h0 => by
    obtain ⟨b, o, e, hb, hcell⟩ := h.rd.2 h0
    exact ⟨b, o, e, Nat.lt_of_lt_of_le hb hc.size, fun j u hu => (hc.cell (p := ⟨b, o + j, none⟩) hb (show b ∉ L from hn ⟨b, o, Option.none⟩ e)).trans (hcell j u hu)⟩⟩, h.ln⟩
theorem MadeI.rdI {w w' : World} {A : Option Addr} {c : Nat} {l : List Int} (h : MadeI w w' A c l) (hl : l.length ≤ 1024) : RdI w' A l := ⟨h.rd, hl⟩
end Go.Proofs.YtanfdnpnkdiiiaaGreat
