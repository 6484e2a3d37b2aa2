/- The laws of layer 14 (rlog): the document's example; what pieces does. -/
import Derived.Test.YtjdgkdaebkflpaaLg
import Derived.Test.YtjdgkdaebkflpaaOpen
namespace Go.Proofs.Ytjdgkdaebkflpaa
open Go.ChangeShapes Go.WideShapes Go.ChangeAt Go.RowKit Go.Joins
set_option linter.unusedVariables false

theorem entOk_nil (w : World) (t k : Int) : EntOk w ⟨t, k, none, 0, []⟩ := ⟨Nat.le_refl 0, (by unfold maxLen; exact Nat.zero_le _), (fun x hx => by cases hx), (fun a ha => by cases ha), fun h => absurd h (Nat.lt_irrefl 0)⟩
theorem ents_of_blk {w : World} {B n : Nat} (es : List Ent) (hn : es.length = n) (hB : Blk w B 39 (entCells es)) (ok : ∀ e ∈ es, EntOk w e) : Ents w (some ⟨B, 0, none⟩) n n (cons es) :=
  ⟨⟨es, hn, rfl, ⟨by rw [entCells_length, hn], fun _ => ⟨B, 0, rfl, hB.lt, fun j u hu => by rw [Nat.zero_add]; exact (hB.cell j).trans hu⟩⟩, ok⟩, Nat.le_refl _⟩
set_option maxHeartbeats 2000000 in
theorem awake14_calls (w : World) : Calls Try.prog 18 #[] w fun e w' => e = .returned (.bool true) ∧ Below w.heap.size w w' := by
  go_enter Try.func18, Try.ntmps18
  go_wp2_with fail
  with_reducible refine (lg_new _ _ _ (by decide) (by decide)).mono ?_
  rintro e w1 ⟨p, rfl, L1, hp, b1⟩
  go_wp2_with fail
  refine (lg_push ⟨1, 0, none, 0, []⟩ L1 (entOk_nil _ _ _) (by decide) (by decide) (by decide) (by decide)).mono ?_
  rintro e w2 ⟨F2, rfl, L2, C2, G2⟩
  have B2 : Below w.heap.size w w2 := Chg.onto b1 b1.size C2 (fun x hx => by rw [List.mem_singleton.1 hx]; exact hp)
  have H2 : ∀ x ∈ F2, w.heap.size ≤ x := fun x hx => by
    rcases G2 x hx with h | h
    · rw [List.mem_singleton.1 h]; exact hp
    · have := b1.size; omega
  clear L1 b1 C2 G2
  go_wp2_with fail
  refine (lg_push ⟨1, 0, none, 0, []⟩ L2 (entOk_nil _ _ _) (by decide) (by decide) (by decide) (by decide)).mono ?_
  rintro e w3 ⟨F3, rfl, L3, C3, G3⟩
  have B3 : Below w.heap.size w w3 := Chg.onto B2 B2.size C3 H2
  have H3 : ∀ x ∈ F3, w.heap.size ≤ x := fun x hx => by
    rcases G3 x hx with h | h
    · exact H2 x h
    · have := B2.size; omega
  clear L2 B2 C3 G3 H2
  go_wp2_with fail
  have L4 := L3.below ((Below.refl _ _).alloc (Nat.le_refl _) (.cells (Ent.cells ⟨2, 0, none, 0, []⟩).toArray 39))
  have E4 := ents_of_blk (w := w3.alloc (.cells (Ent.cells ⟨2, 0, none, 0, []⟩).toArray 39)) (B := w3.heap.size) (n := 1) [⟨2, 0, none, 0, []⟩] rfl (Blk.new rfl) (fun e he => by rw [List.mem_singleton.1 he]; exact entOk_nil _ _ _)
  have B4 : Below w.heap.size w (w3.alloc (.cells (Ent.cells ⟨2, 0, none, 0, []⟩).toArray 39)) := B3.alloc B3.size _
  refine (lg_match 1 1 (some ⟨w3.heap.size, 0, none⟩) 1 1 _ L4 (by decide) (by decide) (by decide) (by decide) (by decide) E4 (by intro c hc; rw [List.mem_singleton.1 hc]; decide) ?_ (by decide)).mono ?_
  · intro g hg hF
    have h5 := L3.lt g hF
    have h6 : w3.heap.size = g := by simpa using hg
    omega
  rintro e w5 ⟨F5, rfl, L5, C5, G5⟩
  rw [show firstC 0 _ 1 _ = 2 from by decide +kernel]
  have B5 : Below w.heap.size w w5 := Chg.onto B4 B4.size C5 H3
  clear L4 E4 B4 C5 G5 H3 L3 B3
  go_wp2_with fail
  with_reducible refine (lg_last L5 (by decide) (by decide) (by decide +kernel)).mono ?_
  rintro e w6 ⟨he6, n6, hw6⟩
  rw [show Ending.returned (.tuple #[.int .i64 ((0 : Int) + ((matchC ([] ++ [Ent.con ⟨1, 0, none, 0, []⟩] ++ [Ent.con ⟨1, 0, none, 0, []⟩]) 1 (cons [⟨2, 0, none, 0, []⟩])).length : Nat)), .int .i64 (((matchC ([] ++ [Ent.con ⟨1, 0, none, 0, []⟩] ++ [Ent.con ⟨1, 0, none, 0, []⟩]) 1 (cons [⟨2, 0, none, 0, []⟩])).getLast?.map (·.1)).getD 0)]) = Ending.returned (.tuple #[.int .i64 2, .int .i64 2]) from by rfl] at he6
  subst he6
  have B6 : Below w.heap.size w w6 := by rw [hw6]; exact below_drewN B5 _
  clear hw6 B5 L5
  go_wp2_with fail
  with_reducible refine (new_none _ _ _ (Or.inl (by decide))).mono ?_
  rintro e w7 ⟨rfl, rfl⟩
  go_wp2
  go_ret
  exact ⟨rfl, B6⟩

theorem agree_take : ∀ (D : List Con) (a c : Nat), agree (D.take a) (D.take c) = min (min a c) D.length
  | [], a, c => by simp [agree]
  | x :: D, 0, c => by simp [agree]
  | x :: D, a + 1, 0 => by simp [agree]
  | x :: D, a + 1, c + 1 => by
    rw [List.take_succ_cons, List.take_succ_cons, agree, if_pos rfl, agree_take D a c, List.length_cons]
    omega
theorem matchC_prefix (P : List Con) (m q c : Nat) (hq : q ≤ m) (hm : m ≤ P.length) : ∃ m', m' ≤ P.length ∧ matchC (P.take m) q ((P.drop q).take c) = P.take m' := by
  have e1 : (P.take m).drop q = (P.drop q).take (m - q) := by rw [List.drop_take]
  have e2 : agree ((P.take m).drop q) ((P.drop q).take c) = min (min (m - q) c) (P.length - q) := by rw [e1, agree_take, List.length_drop]
  have e3 : ((P.drop q).take c).length = min c (P.length - q) := by rw [List.length_take, List.length_drop]
  unfold matchC
  rw [e2, e3]
  by_cases h : min (min (m - q) c) (P.length - q) = min c (P.length - q)
  · rw [if_pos h]; exact ⟨m, hm, rfl⟩
  · rw [if_neg h]
    have e4 : min (min (m - q) c) (P.length - q) = m - q := by omega
    rw [e4, show q + (m - q) = m by omega, List.take_take, Nat.min_self]
    have e5 : P.take m ++ List.drop (m - q) (List.take c (List.drop q P)) = P.take (m + (c - (m - q))) := by rw [List.drop_take, List.drop_drop, show q + (m - q) = m by omega, List.take_add]
    rw [e5]
    by_cases h6 : m + (c - (m - q)) ≤ P.length
    · exact ⟨_, h6, rfl⟩
    · exact ⟨P.length, Nat.le_refl _, by rw [List.take_of_length_le (by omega), List.take_length]⟩
theorem termC_take {P : List Con} {m q : Nat} (h : q ≤ m) (hm : m ≤ P.length) : termC 0 0 (P.take m) q = termC 0 0 P q := by
  cases q with
  | zero => rfl
  | succ k =>
    simp only [termC]
    rw [List.getElem?_take, if_pos (by omega)]
theorem termC_in {P : List Con} {q : Nat} (h : q ≤ P.length) : termC 0 0 P q = ((termC 0 0 P q).1, true) := by
  cases q with
  | zero => rfl
  | succ k =>
    simp only [termC]
    rw [List.getElem?_eq_getElem (by omega)]
theorem termC_out {P : List Con} {q : Nat} (h : P.length < q) : (termC 0 0 P q).2 = false := by
  cases q with
  | zero => omega
  | succ k =>
    simp only [termC]
    rw [List.getElem?_eq_none (by omega)]
theorem FewC.take {P : List Con} (h : FewC P) (n : Nat) : FewC (P.take n) := fun c hc => h c (List.mem_of_mem_take hc)
theorem FewC.drop {P : List Con} (h : FewC P) (n : Nat) : FewC (P.drop n) := fun c hc => h c (List.mem_of_mem_drop hc)
set_option maxHeartbeats 4000000 in
theorem pieces_calls (P : List Con) (pl px : Nat) (Fl Fx : List Nat) (m : Nat) (xs : List Int) (A : Option Addr) (c : Nat) (w : World) (hl : LG w pl 0 0 P Fl) (hx : LG w px 0 0 (P.take m) Fx) (hm : m ≤ P.length) (hd : ∀ x ∈ Fl, x ∉ Fx)
    (hP : P.length ≤ 20) (hf : FewC P) (hr : Reads w w.heap.size 1 A xs.length (xs.map (Value.int .u8))) (ha : ∀ x ∈ xs, 0 ≤ x ∧ x ≤ 255) (hn : xs.length ≤ 30) (hb : 0 < xs.length → ∀ g, A.map Addr.block = some g → g ∉ Fx) :
    Calls Try.prog 21 #[.pointer (some ⟨pl, 0, none⟩), .pointer (some ⟨px, 0, none⟩), .slice A xs.length c] w fun e w' => e = .returned (.tuple #[]) ∧ ∃ m' F', m' ≤ P.length ∧ LG w' px 0 0 (P.take m') F' ∧ Chg Fx w w' ∧ Grew w Fx F' := by
  go_enter Try.func21, Try.ntmps21
  go_wp2_with fail
  with_reducible refine (lg_last hl (by decide) (by decide) (by omega)).mono ?_
  rintro e w1 ⟨rfl, n1, rfl⟩
  obtain ⟨t1, ht1⟩ : ∃ t1, (P.getLast?.map (·.1)).getD (0 : Int) = t1 := ⟨_, rfl⟩
  rw [ht1]
  clear ht1
  go_wp2
  have HF := hide hf
  have HB := hide hb
  have HD := hide hd
  have HA := hide ha
  clear hf hb hd ha
  go_loopw [8] (fun i wr => ∃ (j m' : Nat) (F' : List Nat), j ≤ xs.length ∧ i = .int .i64 j ∧ m' ≤ P.length ∧ LG wr px 0 0 (P.take m') F' ∧ Chg Fx w wr ∧ Grew w Fx F') (fun i _ => xs.length - (intOf i).toNat)
  case atStart => exact ⟨0, m, Fx, Nat.zero_le _, rfl, hm, hx.drewN _, (Chg.refl _ _).drewN _, fun g hg => Or.inl hg⟩
  case round =>
    obtain ⟨j, m', F', hj, rfl, hm', hx', hch, hg⟩ := hrel
    have HG := hide hg
    clear hg
    by_cases hlt : j < xs.length
    · obtain ⟨b, o, rfl, hbB, hcell⟩ := hr.at_ (by omega)
      have hcj : wr.cell? ⟨b, o + j, none⟩ = some (.int .u8 xs[j]) := (hch.cell (p := ⟨b, o + j, none⟩) hbB (HB.out (by omega) b rfl)).trans (hcell j _ (by simp [hlt]))
      have hv := HA.out _ (List.getElem_mem hlt)
      obtain ⟨v, hvv⟩ : ∃ v, xs[j] = v := ⟨_, rfl⟩
      rw [hvv] at hcj hv
      have HR := hide hr
      clear hvv hcell hr
      obtain ⟨v0, v1⟩ := hv
      obtain ⟨q, hq⟩ : ∃ q : Nat, v % ((P.length : Int) + 1) = q := ⟨(v % ((P.length : Int) + 1)).toNat, by have := Int.emod_nonneg v (show (P.length : Int) + 1 ≠ 0 by omega); omega⟩
      have hqP : q ≤ P.length := by have := Int.emod_lt_of_pos v (show (0 : Int) < (P.length : Int) + 1 by omega); omega
      have hl' : LG wr pl 0 0 P Fl := hl.keep hch HD.out hx.noByte
      go_wp2_with fail
      with_reducible refine (lg_term q hl' (by decide) (by decide) (by omega) (by omega)).mono ?_
      rintro e w2 ⟨rfl, n2, hw2⟩
      have hti := termC_in hqP
      have h2 : (termC 0 0 P q).2 = true := by rw [hti]
      obtain ⟨tt, htt⟩ : ∃ tt, (termC 0 0 P q).1 = tt := ⟨_, rfl⟩
      rw [h2, htt]
      rw [htt] at hti
      have HTI := hide hti
      have hl2 : LG w2 pl 0 0 P Fl := by rw [hw2]; exact hl'.drewN _
      have hx2 : LG w2 px 0 0 (P.take m') F' := by rw [hw2]; exact hx'.drewN _
      have hch2 : Chg Fx w w2 := by rw [hw2]; exact hch.drewN _
      have hcj2 : w2.cell? ⟨b, o + j, none⟩ = some (.int .u8 v) := by rw [hw2]; exact hcj
      clear hw2 hti h2 htt hl' hx' hch hcj
      go_wp2_with fail
      with_reducible refine (lg_from q _ hl2 HF.out (by decide) (by decide) (by omega) (by omega) (by omega)).mono ?_
      rintro e w3 hout
      obtain ⟨A3, n3, c3, rfl, -, hE, hgA, hb3⟩ := hout.ents
      have hx3 := hx2.below hb3
      have hch3 := hch2.below hb3
      have hG3 := HG.out
      have hsep : ∀ g, A3.map Addr.block = some g → g ∉ F' := fun g hg hF => by
        have := hgA g hg
        have := hx2.lt g hF
        omega
      clear hout hcj2
      by_cases hqm : q ≤ m'
      · go_wp2_with fail
        refine (lg_match (i := (q : Int)) q tt A3 n3 c3 _ hx3 (by decide) (by decide) ?_ ?_ ?_ hE ?_ hsep (by omega)).mono ?_
        · rw [List.length_take]; omega
        · rw [List.length_take, List.length_take, List.length_drop]; omega
        · rw [termC_take hqm hm']; exact HTI.out
        · exact (HF.out.drop q).take _
        rintro e w4 ⟨F4, rfl, hx4, hch4, hg4⟩
        obtain ⟨m4, hm4, hme⟩ := matchC_prefix P m' q _ hqm hm'
        rw [hme] at hx4
        have hch5 : Chg Fx w w4 := hch3.trans hch4 hG3
        have hg5 : Grew w Fx F4 := fun g hg => by
          rcases hg4 g hg with h | h
          · exact hG3 g h
          · exact Or.inr (Nat.le_trans hch3.size h)
        clear hme hch4 hg4 hch3 hG3 hx3 hE hgA hb3 hsep hl2 hx2 hch2
        go_wp2
        go_roundw
        case rel => exact ⟨j + 1, m4, F4, by omega, by go_num, hm4, hx4, hch5, hg5⟩
        case measure => simp [intOf]; omega
      · go_wp2_with fail
        refine (lg_match_no (i := (q : Int)) q tt A3 n3 c3 hx3 (by decide) (by decide) (by omega) (Or.inl (termC_out (by rw [List.length_take]; omega))) (by omega)).mono ?_
        rintro e w4 ⟨rfl, n4, hw4⟩
        have hx4 : LG w4 px 0 0 (P.take m') F' := by rw [hw4]; exact hx3.drewN _
        have hch4 : Chg Fx w w4 := by rw [hw4]; exact hch3.drewN _
        clear hw4 hch3 hx3 hE hgA hb3 hsep hl2 hx2 hch2
        go_wp2
        go_roundw
        case rel => exact ⟨j + 1, m', F', by omega, by go_num, hm', hx4, hch4, hG3⟩
        case measure => simp [intOf]; omega
    · have e : j = xs.length := by omega
      subst e
      go_wp2
      go_end0
      exact ⟨rfl, m', F', hm', hx', hch, HG.out⟩
end Go.Proofs.Ytjdgkdaebkflpaa
