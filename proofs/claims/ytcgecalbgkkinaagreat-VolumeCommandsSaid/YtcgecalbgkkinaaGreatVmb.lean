/- The walks through slices.DeleteFunc at []int, volume.without and its closure. -/
import Derived.Test.YtcgecalbgkkinaaGreatVma
import Derived.Test.YtcgecalbgkkinaaGreatVok
import Derived.Test.YtcgecalbgkkinaaGreatDels
import Derived.Sort.OwnSortedInts
namespace Go.Proofs.YtcgecalbgkkinaaGreat
open Go.RowKit Go.Proofs Go.Maps Go.Sort Go.Shelf
set_option linter.unusedVariables false
set_option linter.unusedSimpArgs false

/-- a slice of numbers in a new block -/
structure MadeI (w w' : World) (A : Option Addr) (c : Nat) (l : List Int) : Prop where
  le : l.length ≤ c
  rd : Reads w' w'.heap.size 1 A l.length (l.map (Value.int .i64))
  ap : ∀ a, A = some a → a.spot = none ∧ w.heap.size ≤ a.block ∧ a.block < w'.heap.size
section
variable {w w0 w' w'' : World} {A : Option Addr} {c : Nat} {l : List Int} {no : List Nat}
theorem MadeI.sl (h : MadeI w w' A c l) (hl : l.length ≤ 1024) (hn : ∀ x ∈ no, x < w.heap.size) : Sl w' no A c l :=
  ⟨h.le, hl, h.rd, fun a ha => ⟨(h.ap a ha).1, fun hx => by have := hn _ hx; have := (h.ap a ha).2.1; omega, (h.ap a ha).2.2⟩⟩
theorem MadeI.below (h : MadeI w w' A c l) (hb : Below w'.heap.size w' w'') : MadeI w w'' A c l :=
  ⟨h.le, (h.rd.below hb).more hb.size, fun a ha => ⟨(h.ap a ha).1, (h.ap a ha).2.1, Nat.lt_of_lt_of_le (h.ap a ha).2.2 hb.size⟩⟩
theorem MadeI.back (h : MadeI w0 w' A c l) (hb : w.heap.size ≤ w0.heap.size) : MadeI w w' A c l :=
  ⟨h.le, h.rd, fun a ha => ⟨(h.ap a ha).1, Nat.le_trans hb (h.ap a ha).2.1, (h.ap a ha).2.2⟩⟩
theorem OwnI.made (h : OwnI w w' A c l) : MadeI w w' A c l := by
  obtain ⟨A2, c2, e, h1, h2, h3, h4, h5⟩ := own_view h.1
  cases e
  refine ⟨h1, h5 _ (fun g hg => own_lt h.1 hg), fun a ha => ?_⟩
  subst ha
  rcases h.1.2 with ⟨h6, _⟩ | ⟨g, cap, cur, e2, _⟩
  · cases h6
  · cases e2
    exact ⟨rfl, h.2 g rfl, own_lt h.1 rfl⟩
end
theorem putRow_chg (w : World) (g n : Nat) (d : Array Int) : Chg [g] w (putRow (Value.int .i64) (Sort.ahead w n) g 0 d) :=
  ⟨rfl, rfl, rfl, by rw [size_putRow]; exact Nat.le_refl _, fun k hk hn => by
    have hne : g ≠ k := fun e => hn (by simp [e])
    simp [putRow, mapBlock, Array.getElem?_modify, hne, Sort.ahead]⟩
theorem del_none (c : Nat) (g : Nat) (lb : Array Value) (p : Int → Bool) (w : World) (eg : ∀ args w, (callFunc g args).run Tryz.prog w = .ok (.enter g args) w) :
    Calls Tryz.prog 103 #[.slice none 0 c, .func (.func g) #[] lb] w fun e w' => e = .returned (.slice none 0 c) ∧ Below w.heap.size w w' := by
  have H := hide (indexF_calls none 0 c [] g lb p w eg rfl (Nat.zero_le _) Reads.none_ (fun x hx => by cases hx))
  go_enter Tryz.func103, Tryz.ntmps103
  go_wp2_with fail
  refine H.out.mono ?_
  rintro e w' ⟨⟨z, rfl, hz, hzz⟩, hb⟩
  have hz1 : z = -1 := by
    rcases hzz with h | h
    · exact h
    · simp at hz; omega
  subst hz1
  have HB := hide hb
  clear hz hzz hb
  go_wp2
  go_ret
  exact ⟨rfl, HB.out⟩
theorem without1_gives (x id : Int) (B : Nat) (W : World) (hc : W.cell? ⟨B, 0, none⟩ = some (.int .i64 id)) :
    FnGives Tryz.prog 104 #[.pointer (some ⟨B, 0, none⟩)] #[.int .i64 x] (.bool (x == id)) W := by
  show Calls Tryz.prog 104 #[.int .i64 x, .pointer (some ⟨B, 0, none⟩)] W _
  go_enter Tryz.func104, Tryz.ntmps104
  go_wp2
  go_ret
  exact ⟨rfl, 0, rfl⟩
set_option maxHeartbeats 1000000 in
theorem del_calls (A : Option Addr) (c : Nat) (l : List Int) (id : Int) (B : Nat) (w0 w : World) (ho : OwnI w0 w A c l) (hB : B < w0.heap.size) (hl : l.length ≤ 1024) (hc : w.cell? ⟨B, 0, none⟩ = some (.int .i64 id)) :
    Calls Tryz.prog 103 #[.slice A l.length c, .func (.func 104) #[] #[.pointer (some ⟨B, 0, none⟩)]] w fun e w' => ∃ A' c', e = .returned (.slice A' (wout l id).length c') ∧ MadeI w0 w' A' c' (wout l id) ∧ Chg (A.map Addr.block).toList w w' := by
  have eg : ∀ args w, (callFunc 104 args).run Tryz.prog w = .ok (.enter 104 args) w := enters_of Tryz.func104 (by kernel_rfl) rfl
  have hm := ho.made
  obtain ⟨hrow, hg⟩ := ho
  rcases hrow.2 with ⟨h6, h0⟩ | ⟨g, cap, cur, e2, _, hgg, hn, hcc, hcs, ht⟩
  · injection h6 with e1 e2 e3
    subst e1
    subst e3
    have hl0 : l = [] := List.eq_nil_of_length_eq_zero e2
    subst hl0
    exact (del_none 0 _ _ (fun x => x == id) w eg).mono fun e w' ⟨he, hb⟩ => ⟨none, 0, he, ⟨Nat.le_refl _, Reads.none_, fun a ha => by cases ha⟩, (Chg.refl _ w).below hb⟩
  · injection e2 with e1 e2 e3
    subst e1
    subst e3
    have hgl := hg g rfl
    have hgw := heap_lt hgg
    have hH : Holds (Value.int .i64) w g 0 l.toArray := holds_of_blockI hgg (by
      simpa using ht)
    have hne : B ≠ g := by omega
    have hc1 := AnyE.slices_DeleteFunc Go.Proofs.YtcgecalbgkkinaaGreat.delI (Value.int .i64) (fun _ => rfl) (fun x => x == id) 104 #[.pointer (some ⟨B, 0, none⟩)] eg 0 Tryz.zeroValue3 g 0 c l.toArray w
      (fun W x hb => without1_gives x id B W ((hb.cell (p := ⟨B, 0, none⟩) (show B < w.heap.size by omega)).trans hc))
      (fun n os dk x _ => without1_gives x id B _ (by
        unfold sortWorld
        rw [cell?_grow _ _ _ (by show B < (putRow _ _ _ _ _).heap.size; rw [size_putRow]; show B < w.heap.size; omega), cell?_putRow_other _ _ g 0 _ _ (Or.inl hne)]
        exact hc)) hH (by simp; omega) (by simpa using hm.le)
    have hf : (l.toArray.toList.filter fun x => !(x == id)) = wout l id := rfl
    rw [hf] at hc1
    have hle : (wout l id).length ≤ l.length := List.length_filter_le _ _
    refine Calls.mono hc1 fun e w' ⟨he, q, hw⟩ => ⟨some ⟨g, 0, none⟩, c, he, ⟨Nat.le_trans hle hm.le, ?_, fun a ha => ?_⟩, ?_⟩
    · refine ⟨by simp, fun _ => ⟨g, 0, rfl, by rw [hw, size_putRow]; exact hgw, fun j u hu => ?_⟩⟩
      rw [hw]
      have hj : j < (wout l id).length := by have := (List.getElem?_eq_some_iff.1 hu).1; simpa using this
      rw [cell?_putRow (Value.int .i64) (Sort.ahead w q) g 0 l.toArray _ (by exact hH) (by simp; omega) j (by simp; omega)]
      rw [List.getElem?_map, List.getElem?_eq_getElem hj] at hu
      rw [← hu, getElem!_pos _ j (by simp; omega)]
      simp [List.getElem_append_left hj]
    · cases ha
      exact ⟨rfl, hgl, by rw [hw, size_putRow]; exact hgw⟩
    · rw [hw]
      exact putRow_chg w g q _
set_option maxHeartbeats 1000000 in
theorem without_calls (A : Option Addr) (c : Nat) (l : List Int) (no : List Nat) (id : Int) (w : World) (h : Sl w no A c l) :
    Calls Tryz.prog 87 #[.slice A l.length c, .int .i64 id] w fun e w' => ∃ A' c', e = .returned (.slice A' (wout l id).length c') ∧ MadeI w w' A' c' (wout l id) ∧ Below w.heap.size w w' := by
  have hb0 := (Below.refl w.heap.size w).alloc (Nat.le_refl _) (.cells #[.int .i64 id] 3)
  have B0 : Blk (w.alloc (.cells #[.int .i64 id] 3)) w.heap.size 3 [.int .i64 id] := Blk.new rfl
  have H := hide (cloneI_calls A l.length c l no _ rfl (h.below hb0))
  have HB0 := hide hb0
  have HBK := hide B0
  have hln := h.ln
  clear h hb0 B0
  go_enter Tryz.func87, Tryz.ntmps87
  go_wp2_with fail
  refine H.out.mono ?_
  rintro e w1 ⟨A1, c1, rfl, ho, hb1⟩
  have hD := hide (del_calls A1 c1 l id w.heap.size _ w1 ho (by simp) hln ((HBK.out.below hb1).cell 0))
  have HF := hide ho.2
  have HB1 := hide hb1
  clear ho hb1 H
  go_wp2_with fail
  refine hD.out.mono ?_
  rintro e w2 ⟨A2, c2, rfl, hm, hch⟩
  have hsz : (w.alloc (.cells #[.int .i64 id] 3)).heap.size = w.heap.size + 1 := by simp
  have HR : Hid (MadeI w w2 A2 c2 (wout l id) ∧ Below w.heap.size w w2) := hide ⟨hm.back (by omega), Chg.onto (HB0.out.trans (HB1.out.mono HB0.out.size)) (Nat.le_trans HB0.out.size HB1.out.size) hch (fun x hx => by have := HF.out x (by simpa using hx); omega)⟩
  clear hm hch hD
  go_wp2
  go_ret
  exact ⟨A2, c2, rfl, HR.out.1, HR.out.2⟩
end Go.Proofs.YtcgecalbgkkinaaGreat
