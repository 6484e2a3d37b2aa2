/- The walks through slices.Clone at []int, volume.New, State.clone, State.Volume; maps at the operations. -/
import Derived.Test.YtcgecalbgkkinaaGreatVm2
import Derived.Test.YtcgecalbgkkinaaGreatClones
import Derived.Test.YtcgecalbgkkinaaGreatReg2
import Derived.Lib.SliceRun
import Derived.Carry
namespace Go.Proofs.YtcgecalbgkkinaaGreat
open Go.RowKit Go.Proofs Go.Maps
set_option linter.unusedVariables false
set_option linter.unusedSimpArgs false

theorem Tryz.infoI3 : (Tryz.prog.info? 3).map (fun i => (i.zero, i.size, i.bytes)) = some (some (.int .i64 0), 1, 8) := by kernel_rfl
set_option maxHeartbeats 1000000 in
theorem cloneI_nil (n c : Nat) (w : World) : Calls Tryz.prog 33 #[.slice none n c] w fun e w' => e = .returned (.slice none 0 0) ∧ w = w' := by
  have q22 : ∀ (w : World) (a : Option Addr) (n c n' c' : Nat), (binOp .eql 27 (.slice a n c) (.slice none n' c')).run Tryz.prog w = .ok (.bool a.isNone) w := fun w a n c n' c' => Lib.run_eql_slice_nil w _ _ a n c n' c' Tryz.underlying27
  go_enter Tryz.func33, Tryz.ntmps33
  go_wp2
  go_ret
  exact ⟨rfl, rfl⟩
set_option maxHeartbeats 1000000 in
theorem cloneI_some (b o n c : Nat) (xs : List Value) (w : World) (hl : xs.length = n * 1) (hn : n ≤ 1048576) (hc : ∀ j u, xs[j]? = some u → w.cell? ⟨b, o + j, none⟩ = some u) (h1 : ∀ u ∈ xs, u.oneCell' = true) :
    Calls Tryz.prog 33 #[.slice (some ⟨b, o, none⟩) n c] w fun e w' => ∃ v, e = .returned v ∧ w'.ownsRow 0 3 1 v n xs ∧ (∀ g, v.ownBlock = some g → w.heap.size ≤ g) ∧ Below w.heap.size w w' := by
  have q22 : ∀ (w : World) (a : Option Addr) (n c n' c' : Nat), (binOp .eql 27 (.slice a n c) (.slice none n' c')).run Tryz.prog w = .ok (.bool a.isNone) w := fun w a n c n' c' => Lib.run_eql_slice_nil w _ _ a n c n' c' Tryz.underlying27
  obtain ⟨i0, hi, hz0, hz1, hz2⟩ := info_parts Tryz.infoI3
  have HC := hide hc
  clear hc
  go_enter Tryz.func33, Tryz.ntmps33
  go_wp2_with (at_builtin; refine wpList_append_own _ rfl _ _ 27 rfl w.heap.size 3 i0 _ 1 8 Tryz.underlying27 hi hz0 hz1 hz2 rfl (by decide) _ _ _ rfl (World.ownsRow_made w #[] 0 (Nat.le_refl _) (Nat.zero_le _) (by simp)) ⟨b, o, none⟩ n c xs rfl ?qc1 ?qc2 ?qc3 ?qc4 ?qc5 ?qc6 ?_)
  case qc1 => exact hl
  case qc2 =>
    intro j u hj
    rw [add_addr]
    exact Lib.cell?_alloc_some _ (HC.out j u hj)
  case qc3 => exact h1
  case qc4 => unfold maxLen; omega
  case qc5 => omega
  case qc6 => simp
  intro v' w1 hown hgrow hnil
  have hlt := hown.lt
  go_wp2
  go_ret
  exact ⟨v', rfl, by simpa using own_base hown, fun g hg => (hlt g hg).1, ((Below.refl _ w).alloc (Nat.le_refl _) _).grown hgrow (by simp) (by intro k hk; simp [Value.ownBlock] at hk; omega)⟩
/-- a slice of numbers that the call has made -/
def OwnI (w w' : World) (A : Option Addr) (c : Nat) (l : List Int) : Prop :=
  w'.ownsRow 0 3 1 (.slice A l.length c) l.length (l.map (Value.int .i64)) ∧ ∀ g, A.map Addr.block = some g → w.heap.size ≤ g
theorem OwnI.sl {w w' : World} {A : Option Addr} {c : Nat} {l : List Int} {no : List Nat} (h : OwnI w w' A c l) (hl : l.length ≤ 1024) (hn : ∀ x ∈ no, x < w.heap.size) : Sl w' no A c l := Sl.own h.1 rfl hl h.2 hn
theorem OwnI.below {w w' w'' : World} {A : Option Addr} {c : Nat} {l : List Int} (h : OwnI w w' A c l) (hb : Below w'.heap.size w' w'') : OwnI w w'' A c l :=
  ⟨own_chg h.1 (Chg.of_below (L := []) hb) (fun _ _ hx => by cases hx), h.2⟩
theorem OwnI.back {w w0 w' : World} {A : Option Addr} {c : Nat} {l : List Int} (h : OwnI w0 w' A c l) (hb : Below w.heap.size w w0) : OwnI w w' A c l := ⟨h.1, fun g hg => Nat.le_trans hb.size (h.2 g hg)⟩
theorem cloneI_calls (A : Option Addr) (n c : Nat) (l : List Int) (no : List Nat) (w : World) (hn : l.length = n) (h : Sl w no A c l) :
    Calls Tryz.prog 33 #[.slice A n c] w fun e w' => ∃ A' c', e = .returned (.slice A' n c') ∧ OwnI w w' A' c' l ∧ Below w.heap.size w w' := by
  subst hn
  cases A with
  | none =>
    have h0 : l = [] := by
      rcases Nat.eq_zero_or_pos l.length with h0 | h0
      · exact List.eq_nil_of_length_eq_zero h0
      · obtain ⟨b, o, h, _⟩ := h.rd.2 h0
        cases h
    subst h0
    refine (cloneI_nil 0 c w).mono fun e w' ⟨he, hw⟩ => ?_
    subst hw
    exact ⟨none, 0, he, ⟨⟨rfl, Or.inl ⟨rfl, rfl⟩⟩, fun g hg => by cases hg⟩, Below.refl _ _⟩
  | some a =>
    obtain ⟨b, o, s⟩ := a
    obtain rfl : s = none := (h.ap _ rfl).1
    refine (cloneI_some b o l.length c (l.map (Value.int .i64)) w h.rd.1 (by have := h.ln; omega) (fun j u hu => ?_) (by simp; intro x _; rfl)).mono fun e w' ⟨v, he, hown, hg, hb⟩ => ?_
    · have h0 : 0 < l.length := by have := (List.getElem?_eq_some_iff.1 hu).1; simp at this; omega
      obtain ⟨b', o', e, _, h⟩ := h.rd.2 h0
      cases e
      exact h j u hu
    · obtain ⟨A', c', rfl, _⟩ := own_view hown
      exact ⟨A', c', he, ⟨hown, fun g h => hg g (by rw [ownBlock_slice]; exact h)⟩, hb⟩
theorem GM.clone {ρ : Shelf.Ren} (L : SlLaysW.n5 Tryz.prog ρ) {w : World} {b c : Nat} {f : Int → Option Value} (h : GM w b c f) :
    Calls Tryz.prog (ρ.f 5) #[.map (some b)] w fun e w' => e = .returned (.map (some w.heap.size)) ∧ GM w' w.heap.size c f ∧ Below w.heap.size w w' ∧ w.heap.size < w'.heap.size := by
  obtain ⟨D, ho, h2⟩ := h
  refine (AnyW.maps_Clone_owns L _ _ _ _ _ _ ho).mono fun e w' ⟨he, h3, _, h5⟩ => ⟨he, ⟨D, h3, h2⟩, h5, h3.lt⟩
section
variable {α : Type} {key : α → Int} {val : α → Value} {w : World} {b : Nat} {L : List α} {mt et : TypeId}
theorem Tab.clone {ρ : Shelf.Ren} (La : SlLaysW.n5 Tryz.prog ρ) (h : Tab key val w b L) :
    Calls Tryz.prog (ρ.f 5) #[.map (some b)] w fun e w' => e = .returned (.map (some w.heap.size)) ∧ Tab key val w' w.heap.size L ∧ Below w.heap.size w w' ∧ w.heap.size < w'.heap.size :=
  (GM.clone La h.gm).mono fun e w' ⟨he, h1, h2, h3⟩ => ⟨he, ⟨h1, h.rise, h.ok⟩, h2, h3⟩
/-- 'm[k] = v' at the operation -/
theorem Tab.wp_put {o : Oper} {a : Act} {K : Act → World → Prop} {Q : Exit → Act → World → Prop} (m k v : Operand) (x : α) (ho : o.op = Op.mapUpdate mt m k v) (hm : Tryz.prog.underlying mt = some (.map 3 et))
    (em : a.eval m = .map (some b)) (ek : a.eval k = .int .i64 (key x)) (ev : a.eval v = val x) (h : Tab key val w b L) (hx : i64ok (key x)) (hn : L.length < 1000000)
    (hK : ∀ w', Tab key val w' b (ins key x L) → Chg [b] w w' → K (a.put o.dst undef) w') : o.wp Tryz.prog a w K Q := by
  obtain ⟨w', hrun, h1, h2⟩ := h.put x hx hm hn
  unfold Oper.wp
  simp [execOp, ho, em, ek, ev, hrun, Result.andThen]
  exact hK _ h1 h2
theorem Tab.wpl_put {ops : Array Oper} {rest : List Oper} {o : Oper} {a : Act} {Q : Exit → Act → World → Prop} (hg : o.guard = none) (m k v : Operand) (x : α) (ho : o.op = Op.mapUpdate mt m k v) (hm : Tryz.prog.underlying mt = some (.map 3 et))
    (em : a.eval m = .map (some b)) (ek : a.eval k = .int .i64 (key x)) (ev : a.eval v = val x) (h : Tab key val w b L) (hx : i64ok (key x)) (hn : L.length < 1000000)
    (hK : ∀ w', Tab key val w' b (ins key x L) → Chg [b] w w' → wpList Tryz.prog ops Q rest (a.put o.dst undef) w') : wpList Tryz.prog ops Q (o :: rest) a w := by
  refine wpList_plain hg fun K' hK' => ?_
  exact h.wp_put m k v x ho hm em ek ev hx hn fun w' h1 h2 => hK' _ _ (hK w' h1 h2)
end
set_option maxHeartbeats 1000000 in
theorem vnew_calls (w : World) : Calls Tryz.prog 8 #[] w fun e w' => ∃ no b m1 m2 m3, e = .returned (.pointer (some ⟨b, 0, none⟩)) ∧ VM w' no b m1 m2 m3 ⟨[], [], [], 1⟩ [] [] ∧ Below w.heap.size w w' ∧ ∀ x ∈ no, w.heap.size ≤ x := by
  have hmm := @run_makeMap Tryz.prog
  go_enter Tryz.func8, Tryz.ntmps8
  go_wp2
  go_ret
  have b1 := (Below.refl w.heap.size w).alloc (Nat.le_refl _) (.map #[] 0)
  have b2 := b1.alloc b1.size (.map #[] 0)
  have b3 := b2.alloc b2.size (.map #[] 0)
  have b4 := b3.alloc b3.size (.cells #[.map (some w.heap.size), .map (some (w.heap.size + 1)), .map (some (w.heap.size + 2)), .int .i64 1] 64)
  have t1 := Tab.made (key := Prod.fst) (val := svVal) w
  have t2 := Tab.made (key := VoM.key) (val := VoM.val) (w.alloc (.map #[] 0))
  have t3 := Tab.made (key := CkM.key) (val := CkM.val) ((w.alloc (.map #[] 0)).alloc (.map #[] 0))
  have q : ∀ (w : World) (o : Obj), Below w.heap.size w (w.alloc o) := fun w o => (Below.refl _ _).alloc (Nat.le_refl _) _
  refine ⟨[w.heap.size + 3, w.heap.size, w.heap.size + 1, w.heap.size + 2], w.heap.size + 3, w.heap.size, w.heap.size + 1, w.heap.size + 2, by simp, ⟨?_, ?_, ?_, ?_, rfl, rfl, by simp, by simp, by simp, by simp, by simp, by simp, by simp; omega, by omega⟩, b4, by simp⟩
  · exact Blk.new (by simp)
  · exact ((t1.below (q _ _)).below (q _ _)).below (q _ _)
  · simpa using (t2.below (q _ _)).below (q _ _)
  · simpa using t3.below (q _ _)
end Go.Proofs.YtcgecalbgkkinaaGreat
