/- What the laws of layer 11 (clocks) share: the example, the arguments, the two boxes. -/
import Derived.Test.YtpjckplokolcnaaClk3
import Derived.Test.YtpjckplokolcnaaLaw10c
namespace Go.Proofs.Ytpjckplokolcnaa
open Go.ChangeShapes Go.WideShapes Go.ChangeAt Go.RowKit Go.Joins
set_option linter.unusedVariables false

theorem aw11a : (charge ⟨1000, 1, 0, 0⟩ ⟨0, 0, 0⟩ 0 1 0 0).r = 65536 := by decide
theorem aw11b : (charge ⟨1000, 1, 0, 0⟩ ⟨0, 0, 0⟩ 0 2 0 0).r = 0 := by decide
theorem aw11c : (charge ⟨1000, 1, 0, 0⟩ ⟨0, 0, 0⟩ 0 2 0 0).p = 67108864 := by decide
theorem aw11d : byReserve ⟨1000, 1, 0, 0⟩ ⟨0, 0, 0⟩ 0 = true := by decide
set_option maxHeartbeats 1000000 in
theorem awake11_calls (W : World) : Calls Try.prog 39 #[] W fun e w' => e = .returned (.bool true) ∧ Below W.heap.size W w' := by
  go_enter Try.func39, Try.ntmps39
  go_wp2_with fail
  with_reducible refine (charge_calls ⟨1000, 1, 0, 0⟩ ⟨0, 0, 0⟩ 0 1 0 0 _ (by decide)).mono ?_
  rw [aw11a]
  rintro e w1 ⟨rfl, hb1⟩
  have I1 := ((Inv.refl W).new (t := 33) (cs := #[.int .i64 1000, .int .i64 1, .int .i64 0, .int .i64 0]) rfl).below hb1
  clear hb1
  have c0 : w1.cell? ⟨W.heap.size, 0, none⟩ = _ := I1.cell (List.Mem.head _) 0
  have c1 : w1.cell? ⟨W.heap.size, 1, none⟩ = _ := I1.cell (List.Mem.head _) 1
  have c2 : w1.cell? ⟨W.heap.size, 2, none⟩ = _ := I1.cell (List.Mem.head _) 2
  have c3 : w1.cell? ⟨W.heap.size, 3, none⟩ = _ := I1.cell (List.Mem.head _) 3
  have z1 := I1.lt (List.Mem.head _)
  go_wp2_with fail
  with_reducible refine (charge_calls ⟨1000, 1, 0, 0⟩ ⟨0, 0, 0⟩ 0 2 0 0 _ (by decide)).mono ?_
  rw [aw11b, aw11c]
  rintro e w2 ⟨rfl, hb2⟩
  have I2 := (I1.new (t := 45) rfl).below hb2
  clear hb2 I1 c0 c1 c2 c3
  have d0 : w2.cell? ⟨w1.heap.size, 0, none⟩ = _ := I2.cell (List.Mem.head _) 0
  have c0 : w2.cell? ⟨W.heap.size, 0, none⟩ = _ := I2.cell (List.Mem.tail _ (List.Mem.head _)) 0
  have c1 : w2.cell? ⟨W.heap.size, 1, none⟩ = _ := I2.cell (List.Mem.tail _ (List.Mem.head _)) 1
  have c2 : w2.cell? ⟨W.heap.size, 2, none⟩ = _ := I2.cell (List.Mem.tail _ (List.Mem.head _)) 2
  have c3 : w2.cell? ⟨W.heap.size, 3, none⟩ = _ := I2.cell (List.Mem.tail _ (List.Mem.head _)) 3
  have z2 := I2.lt (List.Mem.head _)
  have z3 := I2.lt (List.Mem.tail _ (List.Mem.head _))
  go_wp2_with fail
  with_reducible refine (byReserve_calls ⟨1000, 1, 0, 0⟩ ⟨0, 0, 0⟩ 0 _).mono ?_
  rw [aw11d]
  rintro e w3 ⟨rfl, hb3⟩
  have I3 := (I2.new (t := 45) rfl).below hb3
  go_wp2
  go_ret
  exact ⟨rfl, I3.base⟩

theorem Try.cellsClk : Try.prog.cellsOf 45 = 3 := by kernel_rfl
theorem open_clk {H : Type} {enc : TypeId × Value → H} {W : World} {base : Nat} {v : Value} {d : DataW H} {p : List MemPlace}
    (ok : Value.okWide Try.prog W .any base 45 v) (h : DataW.Trod enc Try.prog W 0 (fun _ => true) true 45 v d p) :
    ∃ q : Clk, v = .agg #[.int .i64 q.r, .int .i64 q.p, .int .i64 q.l] ∧ (Lit.int .i64 q.r).wf = true ∧ (Lit.int .i64 q.p).wf = true ∧ (Lit.int .i64 q.l).wf = true := by
  obtain ⟨v0, v1, v2, y0, y1, y2, n, rfl, _, _, h0, h1, h2⟩ := open_agg3 Try.underlying45 (by kernel_rfl) Try.cellsClk ok h
  obtain ⟨a, e0, _, w0⟩ := DataW.trod_int Try.underlying3 h0
  obtain ⟨b, e1, _, w1⟩ := DataW.trod_int Try.underlying3 h1
  obtain ⟨c, e2, _, w2⟩ := DataW.trod_int Try.underlying3 h2
  simp only [List.cons.injEq, and_true] at e0 e1 e2
  subst e0 e1 e2
  exact ⟨⟨a, b, c⟩, rfl, w0, w1, w2⟩

/-- the two boxes of a law that takes a policy and clocks -/
def PC (W : World) (p : Pol) (c : Clk) (w : World) : Prop :=
  Inv W [(W.heap.size, 33, #[.int .i64 p.r, .int .i64 p.w, .int .i64 p.l, .int .i64 p.b]), (W.heap.size + 1, 45, #[.int .i64 c.r, .int .i64 c.p, .int .i64 c.l])] w
section
variable {W w w' : World} {p : Pol} {c : Clk}
theorem PC.start (W : World) (p : Pol) (c : Clk) : PC W p c ((W.alloc (.cells #[.int .i64 p.r, .int .i64 p.w, .int .i64 p.l, .int .i64 p.b] 33)).alloc (.cells #[.int .i64 c.r, .int .i64 c.p, .int .i64 c.l] 45)) :=
  (((Inv.refl W).new rfl).new (b := W.heap.size + 1) (by simp)).sub (fun q hq => by
    simp only [List.mem_cons, List.mem_nil_iff, or_false] at hq ⊢
    exact hq.symm)
theorem PC.below (h : PC W p c w) (hb : Below w.heap.size w w') : PC W p c w' := Inv.below h hb
theorem PC.drew (h : PC W p c w) : PC W p c w.drew := Inv.drew h
theorem PC.rules (W : World) (p : Pol) (c : Clk) :
    (∀ w, PC W p c w → w.cell? ⟨W.heap.size, 0, none⟩ = some (.int .i64 p.r)) ∧ (∀ w, PC W p c w → w.cell? ⟨W.heap.size, 1, none⟩ = some (.int .i64 p.w)) ∧
    (∀ w, PC W p c w → w.cell? ⟨W.heap.size, 2, none⟩ = some (.int .i64 p.l)) ∧ (∀ w, PC W p c w → w.cell? ⟨W.heap.size, 3, none⟩ = some (.int .i64 p.b)) ∧
    (∀ w, PC W p c w → w.cell? ⟨W.heap.size + 1, 0, none⟩ = some (.int .i64 c.r)) ∧ (∀ w, PC W p c w → w.cell? ⟨W.heap.size + 1, 1, none⟩ = some (.int .i64 c.p)) ∧
    (∀ w, PC W p c w → w.cell? ⟨W.heap.size + 1, 2, none⟩ = some (.int .i64 c.l)) :=
  have m0 := List.Mem.head _
  have m1 := List.Mem.tail _ (List.Mem.head _)
  ⟨fun w h => Inv.cell h m0 0, fun w h => Inv.cell h m0 1, fun w h => Inv.cell h m0 2, fun w h => Inv.cell h m0 3, fun w h => Inv.cell h m1 0, fun w h => Inv.cell h m1 1, fun w h => Inv.cell h m1 2⟩
end
theorem clk_ok {c : Clk} (h : c.ok = true) : (0 ≤ c.r ∧ c.r ≤ 2305843009213693952) ∧ (0 ≤ c.p ∧ c.p ≤ 2305843009213693952) ∧ (0 ≤ c.l ∧ c.l ≤ 2305843009213693952) := by
  simpa [Clk.ok, tag, and_assoc] using h

end Go.Proofs.Ytpjckplokolcnaa
