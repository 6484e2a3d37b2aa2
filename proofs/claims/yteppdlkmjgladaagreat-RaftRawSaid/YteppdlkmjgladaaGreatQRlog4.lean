/- One text of: Rlog4. -/
import Derived.Test.YteppdlkmjgladaaGreatQRlog3
namespace Go.Proofs.YteppdlkmjgladaaGreat
open Go.RowKit
theorem zA21 {α : Type} (l : List α) (i : Nat) (a : α) : l.toArray.setIfInBounds i a = (l.set i a).toArray := by simp
theorem zB21 {α : Type} (x a : α) (l : List α) : (x :: l).set 0 a = a :: l := rfl
theorem zC21 {α : Type} (x a : α) (l : List α) (n : Nat) : (x :: l).set (n + 1) a = x :: l.set n a := rfl

abbrev Con := Int × Int × List Int
def agree : List Con → List Con → Nat
 |a :: l, b :: r => if a.1 = b.1 then agree l r + 1 else 0
 |_, _ => 0
theorem agree_le : ∀ (a b : List Con), agree a b ≤ a.length ∧ agree a b ≤ b.length
 |[], b => by simp [agree]
 |a :: l, [] => by simp [agree]
 |a :: l, b :: r => by
  have := agree_le l r
  unfold agree
  split <;> simp <;> omega
theorem agree_yes {L Y : List Con} {q j : Nat} (h1 : q + j < L.length) (h2 : j < Y.length) (h : L[q + j].1 = Y[j].1) : agree (L.drop (q + j)) (Y.drop j) = agree (L.drop (q + (j + 1))) (Y.drop (j + 1)) + 1 := by
 rw [List.drop_eq_getElem_cons h1, List.drop_eq_getElem_cons h2, agree, if_pos h]
 rfl
theorem agree_no {L Y : List Con} {q j : Nat} (h1 : q + j < L.length) (h2 : j < Y.length) (h : ¬ L[q + j].1 = Y[j].1) : agree (L.drop (q + j)) (Y.drop j) = 0 := by
 rw [List.drop_eq_getElem_cons h1, List.drop_eq_getElem_cons h2, agree, if_neg h]
theorem agree_out {L Y : List Con} {q j : Nat} (h1 : L.length ≤ q + j) : agree (L.drop (q + j)) (Y.drop j) = 0 := by
 rw [List.drop_eq_nil_of_le h1]; simp [agree]
theorem agree_end {L Y : List Con} {q j : Nat} (h1 : Y.length ≤ j) : agree (L.drop (q + j)) (Y.drop j) = 0 := by
 rw [List.drop_eq_nil_of_le h1]
 cases L.drop (q + j) <;> rfl
theorem own_take {w : World} {e : TypeId} {size n k c : Nat} {A : Option Addr} {xs : List Value} (h : w.ownsRow 0 e size (.slice A n c) n xs) (hk : k ≤ n) : w.ownsRow 0 e size (.slice A k c) k (xs.take (k * size)) := by
 refine ⟨by rw [List.length_take, h.1]; exact Nat.min_eq_left (Nat.mul_le_mul_right _ hk), ?_⟩
 rcases h.2 with ⟨hv, h0⟩ | ⟨g, cap, cur, hv, hb, hh, hn, hc, hs, ht⟩
 ·cases hv
  obtain rfl : k = 0 := by omega
  exact Or.inl ⟨rfl, rfl⟩
 ·cases hv
  refine Or.inr ⟨g, c, cur, rfl, hb, hh, by omega, hc, hs, ?_⟩
  rw [← ht, List.take_take, Nat.min_eq_left (Nat.mul_le_mul_right _ hk)]
theorem LogAt.take {w : World} {p : Nat} {A : Option Addr} {cap : Nat} {base term : Int} {es : List Ent} {k : Nat} (h : LogAt w p A cap base term es) (hk : k ≤ es.length) :
  w.ownsRow 0 73 3 (.slice A k cap) (es.take k).length (entCells (es.take k)) := by
 have := own_take h.own hk
 rw [entCells_take] at this
 rw [show (es.take k).length = k by rw [List.length_take]; omega]
 exact this
set_option maxHeartbeats 1000000 in
theorem match_no (p : Nat) (A : Option Addr) (cap : Nat) (base term : Int) (es : List Ent) (prev t : Int) (A2 : Option Addr) (n2 c2 : Nat) (w : World) (h : LogAt w p A cap base term es) (h0 : 0 ≤ base) (h1 : base ≤ 4611686018426339328)
  (i0 : -4611686018427387904 ≤ prev) (i1 : prev ≤ 4611686018427387904) (hno : (termL base term es prev).2 = false ∨ (termL base term es prev).1 ≠ t) :
  Calls Tryz.prog 128 #[.pointer (some ⟨p, 0, none⟩), .int .i64 prev, .int .i64 t, .slice A2 n2 c2] w fun e w' => e = .returned (.tuple #[.int .i64 0, .bool false]) ∧ ∃ n, w' = w.drewN n := by
 cases hb : (termL base term es prev).2 with
 |false =>
  have HB := hide hb
  clear hno hb
  go_enter Tryz.func128, Tryz.ntmps128
  go_wp2
  go_step3
  go_wp2_with fail
  with_reducible refine (term_calls _ _ _ _ _ _ _ _ h h0 (by omega) i0 i1).mono ?_
  rintro e w1 ⟨rfl, n, rfl⟩
  rw [HB.out]
  go_wp2
  rw [Exit.noGoto_ret]
  go_ret2
  exact ⟨rfl, n, rfl⟩
 |true =>
  have hne : ((termL base term es prev).1 != t) = true := by
   rcases hno with hno | hno
   ·rw [hb] at hno; cases hno
   ·simpa using hno
  have HB := hide hb
  obtain ⟨t', ht'⟩ : ∃ t', (termL base term es prev).1 = t' := ⟨_, rfl⟩
  rw [ht'] at hne
  have HT := hide ht'
  clear hno hb ht'
  go_enter Tryz.func128, Tryz.ntmps128
  go_wp2
  go_step3
  go_wp2_with fail
  with_reducible refine (term_calls _ _ _ _ _ _ _ _ h h0 (by omega) i0 i1).mono ?_
  rintro e w1 ⟨rfl, n, rfl⟩
  rw [HB.out, HT.out]
  go_wp2
  rw [Exit.noGoto_ret]
  go_ret2
  exact ⟨rfl, n, rfl⟩

theorem con_get (es : List Ent) (k : Nat) (h : k < es.length) : (cons es)[k]'(by rw [cons_length]; exact h) = es[k].con := by simp [cons]
def MatchEnd (p : Nat) (A : Option Addr) (base term : Int) (q : Nat) (es ys : List Ent) (w : World) (e : Ending) (w' : World) : Prop :=
 ∃ A' cap' es', e = .returned (.tuple #[.int .i64 (if agree ((cons es).drop q) (cons ys) = ys.length then base + es.length + 1 else base + q + 1 + agree ((cons es).drop q) (cons ys)), .bool true]) ∧
  LogAt w' p A' cap' base term es' ∧
  cons es' = (if agree ((cons es).drop q) (cons ys) = ys.length then cons es else (cons es).take (q + agree ((cons es).drop q) (cons ys)) ++ (cons ys).drop (agree ((cons es).drop q) (cons ys))) ∧
  Chg (foot p A) w w' ∧ (∀ g ∈ foot p A', g ∈ foot p A ∨ w.heap.size ≤ g)
theorem entry_at2 {w wr : World} {es : List Ent} {b o k j : Nat} (hc : ∀ (j : Nat) (u : Value), (entCells es)[j]? = some u → w.cell? ⟨b, o + j, none⟩ = some u) (hs : wr.heap[b]? = w.heap[b]?) (hj : k + j < es.length) :
  wr.cell? ⟨b, o + k * 3 + j * 3, none⟩ = some (.int .i64 es[k + j].t) ∧ wr.cell? ⟨b, o + k * 3 + j * 3 + 1, none⟩ = some (.int .i64 es[k + j].k) ∧ wr.cell? ⟨b, o + k * 3 + j * 3 + 2, none⟩ = some (.slice es[k + j].A es[k + j].b.length es[k + j].c) := by
 have g : ∀ q u, q < 3 → es[k + j].cells[q]? = some u → wr.cell? ⟨b, o + k * 3 + j * 3 + q, none⟩ = some u := fun q u hq hu => by
  rw [show o + k * 3 + j * 3 + q = o + ((k + j) * 3 + q) by omega]
  exact (World.cell?_of_block (w := w) (a := ⟨b, o + ((k + j) * 3 + q), none⟩) hs).trans (hc _ _ ((entCells_get es (k + j) q hj hq).trans hu))
 exact ⟨g 0 _ (by omega) rfl, g 1 _ (by omega) rfl, g 2 _ (by omega) rfl⟩
set_option maxHeartbeats 4000000 in
theorem match_yes (p : Nat) (A : Option Addr) (cap : Nat) (base term : Int) (es : List Ent) (q : Nat) (t : Int) (A2 : Option Addr) (c2 : Nat) (ys : List Ent) (w : World) (h : LogAt w p A cap base term es) (h0 : 0 ≤ base) (h1 : base ≤ 4611686018426339328)
  (hq : q ≤ es.length) (hn : es.length + ys.length ≤ 1000000) (ht : termL base term es (base + q) = (t, true)) (hc2 : ys.length ≤ c2)
  (hr : Reads w w.heap.size 3 A2 ys.length (entCells ys)) (hok : ∀ y ∈ ys, EntOk w y) (hfew : Few ys) (hsep : ∀ g, A2.map Addr.block = some g → g ∉ foot p A) :
  Calls Tryz.prog 128 #[.pointer (some ⟨p, 0, none⟩), .int .i64 (base + q), .int .i64 t, .slice A2 ys.length c2] w (MatchEnd p A base term q es ys w) := by
 have HT := hide ht
 clear ht
 go_enter Tryz.func128, Tryz.ntmps128
 go_wp2
 go_step3
 go_wp2_with fail
 with_reducible refine (term_calls _ _ _ _ _ _ _ _ h h0 (by omega) (by omega) (by omega)).mono ?_
 rintro e w1 ⟨rfl, n, rfl⟩
 rw [HT.out]
 go_wp2
 go_step3
 go_wp2
 go_loopw [12] (fun i wr => ∃ j nq : Nat, j ≤ ys.length ∧ i = .int .i64 j ∧ wr = w.drewN nq ∧ agree ((cons es).drop (q + j)) ((cons ys).drop j) + j = agree ((cons es).drop q) (cons ys)) (fun i _ => ys.length - (intOf i).toNat)
 case atStart => exact ⟨0, n, Nat.zero_le _, rfl, rfl, by simp⟩
 case round =>
  obtain ⟨j, nq, hj, rfl, rfl, hag⟩ := hrel
  have HA := hide hag
  clear hag
  by_cases hlt : j < ys.length
  ·obtain ⟨b, o, rfl, hbB, hcell⟩ := hr.at_ (by omega)
   have hcy : w.cell? ⟨b, o + j * 3, none⟩ = some (.int .i64 ys[j].t) := hcell _ _ (entCells_get ys j 0 hlt (by omega))
   have HC := hide hcell
   have HR := hide hr
   have e1 : IntKind.i64.wrap (base + q + 1) = base + q + 1 := IntWalk.i64_in _ (by omega)
   have e2 : IntKind.i64.wrap (base + q + 1 + j) = base + q + 1 + j := IntWalk.i64_in _ (by omega)
   clear hcell hr
   by_cases hin : q + j < es.length
   ·have ht2 : termL base term es (base + q + 1 + j) = (es[q + j].t, true) := by
     have := termL_in (base := base) (term := term) hin
     rw [show base + ((q + j : Nat) : Int) + 1 = base + q + 1 + j by omega] at this
     exact this
    have HT2 := hide ht2
    clear ht2
    by_cases hs : es[q + j].t = ys[j].t
    ·have hs' : (es[q + j].t == ys[j].t) = true := by simp [hs]
     have hs'' : (es[q + j].t != ys[j].t) = false := by simp [hs]
     have HS := hide hs
     clear hs
     go_wp2_with fail
     with_reducible refine (term_calls _ _ _ _ _ _ _ _ (h.drewN nq) h0 (by omega) (by omega) (by omega)).mono ?_
     rintro e w1 ⟨rfl, n1, rfl⟩
     rw [HT2.out]
     go_wp2
     go_roundw
     case rel =>
      refine ⟨j + 1, nq + n1, by omega, by go_num, rfl, ?_⟩
      have := agree_yes (L := cons es) (Y := cons ys) (q := q) (j := j) (by rw [cons_length]; exact hin) (by rw [cons_length]; exact hlt) (by rw [con_get, con_get]; exact HS.out)
      have := HA.out
      omega
     case measure => simp [intOf]; omega
    ·have hs' : (es[q + j].t != ys[j].t) = true := by simp [hs]
     have HS := hide hs
     clear hs
     go_wp2_with fail
     with_reducible refine (term_calls _ _ _ _ _ _ _ _ (h.drewN nq) h0 (by omega) (by omega) (by omega)).mono ?_
     rintro e w1 ⟨rfl, n1, rfl⟩
     rw [HT2.out]
     have HAG := hide (show agree ((cons es).drop q) (cons ys) = j by
      have := agree_no (L := cons es) (Y := cons ys) (q := q) (j := j) (by rw [cons_length]; exact hin) (by rw [cons_length]; exact hlt) (by rw [con_get, con_get]; exact HS.out)
      have := HA.out
      omega)
     go_wp2_with fail
     with_reducible refine (last_calls _ _ _ _ _ _ _ (h.drewN _) h0 (by omega) (by omega)).mono ?_
     rintro e w2 ⟨rfl, n2, hw2⟩
     have L0 : LogAt w2 p A cap base term es := by rw [hw2]; exact (h.drewN _).drewN _
     have W2 : Below w.heap.size w w2 := by rw [hw2]; exact below_drewN (below_drewN (Below.refl _ _) _) _
     clear hw2 hcy
     rw [show (lastL base term es).1 = base + es.length from rfl]
     obtain ⟨lt, hlt2⟩ : ∃ lt, (lastL base term es).2 = lt := ⟨_, rfl⟩
     rw [hlt2]
     clear hlt2
     have c0 := L0.blk.rule 0 _ rfl
     have c2' := L0.blk.rule 2 _ rfl
     have f2 := L0.blk.frozen 2
     have d2 := c2' w2 (Below.refl _ _)
     have r0 := Below.refl w2.heap.size w2
     have e3 : IntKind.i64.wrap (base + q + j) = base + q + j := IntWalk.i64_in _ (by omega)
     have e4 : IntKind.i64.wrap (base + q + j - base) = (q : Int) + j := by rw [IntWalk.i64_in _ (by omega)]; omega
     have e5 : ((q : Int) + j).toNat = q + j := by omega
     have cg := L0.cap_ge.1
     have hagl : agree ((cons es).drop q) (cons ys) = j := HAG.out
     have hql : q + j ≤ es.length := by
      have := (agree_le ((cons es).drop q) (cons ys)).1
      rw [hagl, List.length_drop, cons_length] at this
      omega
     clear hagl
     have e6 : (q : Int) + j ≤ cap := by omega
     have e7 : 0 ≤ (q : Int) + j := by omega
     go_wp2
     refine lxR (fun w' => Below w2.heap.size w2 w') [16] 0 [(2, 0), (2, 1), (2, 2), (2, 3), (0, 4), (2, 5), (2, 6), (2, 7), (2, 8), (2, 9), (2, 10), (0, 11), (2, 12), (2, 13), (2, 14), (2, 15), (3, 16)] #[true, true, true, true, true, true, true, true, true, true, true, true, true, true, true, true, true] (by kernel_rfl) (by kernel_rfl) (by decide) (by kernel_rfl) (by kernel_rfl) (fun _ _ _ _ _ h => h) (by (exact r0.drew)) (fun hS0 => ?_)
     simp only [List.map_cons, List.map_nil, List.getElem?_toArray, List.getElem?_cons_succ, List.getElem?_cons_zero]
     (iterate 4 ((apply lxP (by rfl); (focus (intro w; go_simp; (try with_reducible rfl); done)); simp only [Act.put, zA21, zB21, zC21]))); (apply lxT (by rfl); (focus (intro w hw; (try dsimp only at hw); go_simp; (try with_reducible rfl); done)); simp only [Act.put, zA21, zB21, zC21]); (iterate 6 ((apply lxP (by rfl); (focus (intro w; go_simp; (try with_reducible rfl); done)); simp only [Act.put, zA21, zB21, zC21]))); (apply lxT (by rfl); (focus (intro w hw; (try dsimp only at hw); go_simp; (try with_reducible rfl); done)); simp only [Act.put, zA21, zB21, zC21]); (iterate 4 ((apply lxP (by rfl); (focus (intro w; go_simp; (try with_reducible rfl); done)); simp only [Act.put, zA21, zB21, zC21]))); (refine lxF (by rfl) ?_; go_simp)
     refine lxN (fun _ => wqD (by kernel_rfl) ?_ _)
     have CH : Chg [p] w2 (w2.setCell ⟨p, 2, none⟩ (.slice A (q + j) cap)).drew := ((Chg.refl [p] w2).setCell (Or.inl (by simp)) _).drew
     have P3 : Blk (w2.setCell ⟨p, 2, none⟩ (.slice A (q + j) cap)).drew p 160 [.int .i64 base, .int .i64 term, .slice A (q + j) cap] := L0.blk.set 2 _
     have T3 := LogAt.take L0 hql
     have tl : (es.take (q + j)).length = q + j := by rw [List.length_take]; omega
     have L3 : LogAt (w2.setCell ⟨p, 2, none⟩ (.slice A (q + j) cap)).drew p A cap base term (es.take (q + j)) := by
      refine ⟨by rw [tl]; exact P3, ?_, fun e he => (L0.ok e (List.mem_of_mem_take he)).chg CH (by simpa using L0.blk.notByte (by decide))⟩
      have := own_chg T3 CH (fun g hg => by
       have h5 := L0.sep
       rw [owS] at hg
       rw [List.mem_singleton]
       intro e
       subst e
       exact h5 (by simpa using hg))
      rw [tl] at this ⊢
      exact this
     have C3 : Chg (foot p A) w (w2.setCell ⟨p, 2, none⟩ (.slice A (q + j) cap)).drew := (Chg.of_below W2).trans CH (fun z hz => Or.inl (by rw [List.mem_singleton.1 hz]; simp [foot]))
     generalize (w2.setCell ⟨p, 2, none⟩ (.slice A (q + j) cap)).drew = w3 at *
     clear P3 T3 CH c0 c2' f2 d2 r0 e3 e4 e5 e6 e7 L0 hS0
     have hcj : ¬ c2 = j := by omega
     have hnb := h.noByte
     have hbf : b ∉ foot p A := hsep b rfl
     have HNB := hide hnb
     have HOK := hide hok
     clear hnb hok hsep
     go_wp2
     obtain ⟨m, hm⟩ : ∃ m, ys.length - j = m := ⟨_, rfl⟩
     rw [hm]
     have hm2 : j + m = ys.length := by omega
     have HM2 := hide hm2
     have hmb : m ≤ 1000000 := by omega
     clear hm hm2
     go_loopw [90] (fun i wr => ∃ (k : Nat) (A' : Option Addr) (cap' : Nat) (es' : List Ent), k ≤ m ∧ i = .int .i64 k ∧ LogAt wr p A' cap' base term es' ∧ cons es' = (cons es).take (q + j) ++ ((cons ys).drop j).take k ∧ Chg (foot p A) w wr ∧ (∀ g ∈ foot p A', g ∈ foot p A ∨ w.heap.size ≤ g)) (fun i _ => m - (intOf i).toNat)
     case atStart => exact ⟨0, A, cap, es.take (q + j), Nat.zero_le _, rfl, L3, by simp [cons], C3, fun g hg => Or.inl hg⟩
     case round =>
      obtain ⟨k, A', cap', es', hk, rfl, L4, hcon, C4, hft⟩ := hrel
      have HCN := hide hcon
      have HF := hide hft
      clear hcon hft
      by_cases hkm : k < m
      ·have hjk : j + k < ys.length := by have := HM2.out; omega
       obtain ⟨g0, g1, g2⟩ := entry_at2 HC.out (C4.block b hbB hbf) hjk
       have okx := (HOK.out ys[j + k] (List.getElem_mem hjk)).chg C4 HNB.out
       have fw := hfew ys[j + k] (List.getElem_mem hjk)
       have hst := cons_step ys j k hjk
       obtain ⟨x, hx⟩ : ∃ x, ys[j + k] = x := ⟨_, rfl⟩
       rw [hx] at g0 g1 g2 okx fw hst
       have HST := hide hst
       clear hx hst
       have hel : es'.length ≤ q + j + k := by
        have := congrArg List.length HCN.out
        rw [cons_length, List.length_append, List.length_take, List.length_take] at this
        omega
       go_wp2_with fail
       with_reducible refine (push_calls p A' cap' base term es' x _ (L4.below ((Below.refl _ _).alloc (Nat.le_refl _) _)) (okx.below ((Below.refl _ _).alloc (Nat.le_refl _) _)) h0 (by omega) (by omega) (by omega)).mono ?_
       rintro e w5 ⟨y, A5, cap5, rfl, hxy, L5, C5, hft5⟩
       have C6 : Chg (foot p A) w w5 := (C4.alloc _).trans C5 (fun z hz => HF.out z hz)
       have F6 : ∀ g ∈ foot p A5, g ∈ foot p A ∨ w.heap.size ≤ g := fun g hg => by
        rcases hft5 g hg with h5 | h5
        ·exact HF.out g h5
        ·have := C4.size
         simp at h5
         exact Or.inr (by omega)
       have K6 : cons (es' ++ [y]) = (cons es).take (q + j) ++ ((cons ys).drop j).take (k + 1) := by
        rw [HST.out, ← List.append_assoc, ← HCN.out, hxy.con]; simp [cons]
       have HC6 := hide C6
       have HF6 := hide F6
       have HK6 := hide K6
       clear C5 hft5 C6 F6 K6 g0 g1 g2 L4
       go_wp2
       go_roundw
       case rel => exact ⟨k + 1, A5, cap5, es' ++ [y], by omega, by go_num, L5, HK6.out, HC6.out, HF6.out⟩
       case measure => simp [intOf]; omega
      ·have hkm2 : k = m := by omega
       have e8 : IntKind.i64.wrap (base + q + 1 + j) = base + q + 1 + j := IntWalk.i64_in _ (by omega)
       have HKM := hide hkm2
       clear hkm2
       go_wp2
       rw [Exit.noGoto_ret]
       go_ret2
       have e9 : agree ((cons es).drop q) (cons ys) ≠ ys.length := by rw [HAG.out]; omega
       refine ⟨A', cap', es', ?_, L4, ?_, C4, HF.out⟩
       ·rw [if_neg e9, HAG.out]; rfl
       ·rw [if_neg e9, HAG.out, HCN.out]
        congr 1
        exact List.take_of_length_le (by rw [List.length_drop, cons_length]; have := HM2.out; have := HKM.out; omega)
   ·have hhas : hasL base es.length (base + q + 1 + j) = false := by simp [hasL]; omega
    have ht2 : termL base term es (base + q + 1 + j) = (0, false) := termL_out (by omega) hhas
    have HT2 := hide ht2
    clear ht2 hhas
    have HAG := hide (show agree ((cons es).drop q) (cons ys) = j by
     have := agree_out (L := cons es) (Y := cons ys) (q := q) (j := j) (by rw [cons_length]; omega)
     have := HA.out
     omega)
    go_wp2_with fail
    with_reducible refine (term_calls _ _ _ _ _ _ _ _ (h.drewN nq) h0 (by omega) (by omega) (by omega)).mono ?_
    rintro e w1 ⟨rfl, n1, rfl⟩
    rw [HT2.out]
    go_wp2_with fail
    with_reducible refine (last_calls _ _ _ _ _ _ _ (h.drewN _) h0 (by omega) (by omega)).mono ?_
    rintro e w2 ⟨rfl, n2, hw2⟩
    have L0 : LogAt w2 p A cap base term es := by rw [hw2]; exact (h.drewN _).drewN _
    have W2 : Below w.heap.size w w2 := by rw [hw2]; exact below_drewN (below_drewN (Below.refl _ _) _) _
    clear hw2 hcy
    rw [show (lastL base term es).1 = base + es.length from rfl]
    obtain ⟨lt, hlt2⟩ : ∃ lt, (lastL base term es).2 = lt := ⟨_, rfl⟩
    rw [hlt2]
    clear hlt2
    have c0 := L0.blk.rule 0 _ rfl
    have c2' := L0.blk.rule 2 _ rfl
    have f2 := L0.blk.frozen 2
    have d2 := c2' w2 (Below.refl _ _)
    have r0 := Below.refl w2.heap.size w2
    have e3 : IntKind.i64.wrap (base + q + j) = base + q + j := IntWalk.i64_in _ (by omega)
    have e4 : IntKind.i64.wrap (base + q + j - base) = (q : Int) + j := by rw [IntWalk.i64_in _ (by omega)]; omega
    have e5 : ((q : Int) + j).toNat = q + j := by omega
    have cg := L0.cap_ge.1
    have hagl : agree ((cons es).drop q) (cons ys) = j := HAG.out
    have hql : q + j ≤ es.length := by
     have := (agree_le ((cons es).drop q) (cons ys)).1
     rw [hagl, List.length_drop, cons_length] at this
     omega
    clear hagl
    have e6 : (q : Int) + j ≤ cap := by omega
    have e7 : 0 ≤ (q : Int) + j := by omega
    go_wp2
    refine lxR (fun w' => Below w2.heap.size w2 w') [16] 0 [(2, 0), (2, 1), (2, 2), (2, 3), (0, 4), (2, 5), (2, 6), (2, 7), (2, 8), (2, 9), (2, 10), (0, 11), (2, 12), (2, 13), (2, 14), (2, 15), (3, 16)] #[true, true, true, true, true, true, true, true, true, true, true, true, true, true, true, true, true] (by kernel_rfl) (by kernel_rfl) (by decide) (by kernel_rfl) (by kernel_rfl) (fun _ _ _ _ _ h => h) (by (exact r0.drew)) (fun hS0 => ?_)
    simp only [List.map_cons, List.map_nil, List.getElem?_toArray, List.getElem?_cons_succ, List.getElem?_cons_zero]
    (iterate 4 ((apply lxP (by rfl); (focus (intro w; go_simp; (try with_reducible rfl); done)); simp only [Act.put, zA21, zB21, zC21]))); (apply lxT (by rfl); (focus (intro w hw; (try dsimp only at hw); go_simp; (try with_reducible rfl); done)); simp only [Act.put, zA21, zB21, zC21]); (iterate 6 ((apply lxP (by rfl); (focus (intro w; go_simp; (try with_reducible rfl); done)); simp only [Act.put, zA21, zB21, zC21]))); (apply lxT (by rfl); (focus (intro w hw; (try dsimp only at hw); go_simp; (try with_reducible rfl); done)); simp only [Act.put, zA21, zB21, zC21]); (iterate 4 ((apply lxP (by rfl); (focus (intro w; go_simp; (try with_reducible rfl); done)); simp only [Act.put, zA21, zB21, zC21]))); (refine lxF (by rfl) ?_; go_simp)
    refine lxN (fun _ => wqD (by kernel_rfl) ?_ _)
    have CH : Chg [p] w2 (w2.setCell ⟨p, 2, none⟩ (.slice A (q + j) cap)).drew := ((Chg.refl [p] w2).setCell (Or.inl (by simp)) _).drew
    have P3 : Blk (w2.setCell ⟨p, 2, none⟩ (.slice A (q + j) cap)).drew p 160 [.int .i64 base, .int .i64 term, .slice A (q + j) cap] := L0.blk.set 2 _
    have T3 := LogAt.take L0 hql
    have tl : (es.take (q + j)).length = q + j := by rw [List.length_take]; omega
    have L3 : LogAt (w2.setCell ⟨p, 2, none⟩ (.slice A (q + j) cap)).drew p A cap base term (es.take (q + j)) := by
     refine ⟨by rw [tl]; exact P3, ?_, fun e he => (L0.ok e (List.mem_of_mem_take he)).chg CH (by simpa using L0.blk.notByte (by decide))⟩
     have := own_chg T3 CH (fun g hg => by
      have h5 := L0.sep
      rw [owS] at hg
      rw [List.mem_singleton]
      intro e
      subst e
      exact h5 (by simpa using hg))
     rw [tl] at this ⊢
     exact this
    have C3 : Chg (foot p A) w (w2.setCell ⟨p, 2, none⟩ (.slice A (q + j) cap)).drew := (Chg.of_below W2).trans CH (fun z hz => Or.inl (by rw [List.mem_singleton.1 hz]; simp [foot]))
    generalize (w2.setCell ⟨p, 2, none⟩ (.slice A (q + j) cap)).drew = w3 at *
    clear P3 T3 CH c0 c2' f2 d2 r0 e3 e4 e5 e6 e7 L0 hS0
    have hcj : ¬ c2 = j := by omega
    have hnb := h.noByte
    have hbf : b ∉ foot p A := hsep b rfl
    have HNB := hide hnb
    have HOK := hide hok
    clear hnb hok hsep
    go_wp2
    obtain ⟨m, hm⟩ : ∃ m, ys.length - j = m := ⟨_, rfl⟩
    rw [hm]
    have hm2 : j + m = ys.length := by omega
    have HM2 := hide hm2
    have hmb : m ≤ 1000000 := by omega
    clear hm hm2
    go_loopw [90] (fun i wr => ∃ (k : Nat) (A' : Option Addr) (cap' : Nat) (es' : List Ent), k ≤ m ∧ i = .int .i64 k ∧ LogAt wr p A' cap' base term es' ∧ cons es' = (cons es).take (q + j) ++ ((cons ys).drop j).take k ∧ Chg (foot p A) w wr ∧ (∀ g ∈ foot p A', g ∈ foot p A ∨ w.heap.size ≤ g)) (fun i _ => m - (intOf i).toNat)
    case atStart => exact ⟨0, A, cap, es.take (q + j), Nat.zero_le _, rfl, L3, by simp [cons], C3, fun g hg => Or.inl hg⟩
    case round =>
     obtain ⟨k, A', cap', es', hk, rfl, L4, hcon, C4, hft⟩ := hrel
     have HCN := hide hcon
     have HF := hide hft
     clear hcon hft
     by_cases hkm : k < m
     ·have hjk : j + k < ys.length := by have := HM2.out; omega
      obtain ⟨g0, g1, g2⟩ := entry_at2 HC.out (C4.block b hbB hbf) hjk
      have okx := (HOK.out ys[j + k] (List.getElem_mem hjk)).chg C4 HNB.out
      have fw := hfew ys[j + k] (List.getElem_mem hjk)
      have hst := cons_step ys j k hjk
      obtain ⟨x, hx⟩ : ∃ x, ys[j + k] = x := ⟨_, rfl⟩
      rw [hx] at g0 g1 g2 okx fw hst
      have HST := hide hst
      clear hx hst
      have hel : es'.length ≤ q + j + k := by
       have := congrArg List.length HCN.out
       rw [cons_length, List.length_append, List.length_take, List.length_take] at this
       omega
      go_wp2_with fail
      with_reducible refine (push_calls p A' cap' base term es' x _ (L4.below ((Below.refl _ _).alloc (Nat.le_refl _) _)) (okx.below ((Below.refl _ _).alloc (Nat.le_refl _) _)) h0 (by omega) (by omega) (by omega)).mono ?_
      rintro e w5 ⟨y, A5, cap5, rfl, hxy, L5, C5, hft5⟩
      have C6 : Chg (foot p A) w w5 := (C4.alloc _).trans C5 (fun z hz => HF.out z hz)
      have F6 : ∀ g ∈ foot p A5, g ∈ foot p A ∨ w.heap.size ≤ g := fun g hg => by
       rcases hft5 g hg with h5 | h5
       ·exact HF.out g h5
       ·have := C4.size
        simp at h5
        exact Or.inr (by omega)
      have K6 : cons (es' ++ [y]) = (cons es).take (q + j) ++ ((cons ys).drop j).take (k + 1) := by
       rw [HST.out, ← List.append_assoc, ← HCN.out, hxy.con]; simp [cons]
      have HC6 := hide C6
      have HF6 := hide F6
      have HK6 := hide K6
      clear C5 hft5 C6 F6 K6 g0 g1 g2 L4
      go_wp2
      go_roundw
      case rel => exact ⟨k + 1, A5, cap5, es' ++ [y], by omega, by go_num, L5, HK6.out, HC6.out, HF6.out⟩
      case measure => simp [intOf]; omega
     ·have hkm2 : k = m := by omega
      have e8 : IntKind.i64.wrap (base + q + 1 + j) = base + q + 1 + j := IntWalk.i64_in _ (by omega)
      have HKM := hide hkm2
      clear hkm2
      go_wp2
      rw [Exit.noGoto_ret]
      go_ret2
      have e9 : agree ((cons es).drop q) (cons ys) ≠ ys.length := by rw [HAG.out]; omega
      refine ⟨A', cap', es', ?_, L4, ?_, C4, HF.out⟩
      ·rw [if_neg e9, HAG.out]; rfl
      ·rw [if_neg e9, HAG.out, HCN.out]
       congr 1
       exact List.take_of_length_le (by rw [List.length_drop, cons_length]; have := HM2.out; have := HKM.out; omega)
  ·have e : j = ys.length := by omega
   subst e
   have HAG := hide (show agree ((cons es).drop q) (cons ys) = ys.length by
    have := agree_end (L := cons es) (Y := cons ys) (q := q) (j := ys.length) (by rw [cons_length]; omega)
    have := HA.out
    omega)
   have e1 : IntKind.i64.wrap (base + es.length + 1) = base + es.length + 1 := IntWalk.i64_in _ (by omega)
   go_wp2_with fail
   with_reducible refine (last_calls _ _ _ _ _ _ _ (h.drewN _) h0 (by omega) (by omega)).mono ?_
   rintro e w2 ⟨rfl, n2, rfl⟩
   rw [show (lastL base term es).1 = base + es.length from rfl]
   go_wp2
   rw [Exit.noGoto_ret]
   go_ret2
   refine ⟨A, cap, es, ?_, h.drewN _, ?_, Chg.of_below (below_drewN (Below.refl _ _) _), fun g hg => Or.inl hg⟩
   ·rw [if_pos HAG.out]; rfl
   ·rw [if_pos HAG.out]
end Go.Proofs.YteppdlkmjgladaaGreat
