/- One text of: Vlm Vlr Vlc. -/
import Derived.Test.YtcahcjfgmdpdoaaGreatQJC
import Derived.Test.YtcahcjfgmdpdoaaGreatQBask
set_option maxHeartbeats 4000000
set_option maxRecDepth 100000
namespace Go.Proofs.YtcahcjfgmdpdoaaGreat
open Go.RowKit Go.Proofs Go.Maps
set_option linter.unusedVariables false
set_option linter.unusedSimpArgs false

section
variable {α : Type} {key : α → Int} {val : α → Value} {w : World} {b : Nat} {L : List α} {mt et : TypeId} {k : Int}
theorem Tab.wp_putK {o : Oper} {a : Act} {K : Act → World → Prop} {Q : Exit → Act → World → Prop} (m k v : Operand) (x : α) (ho : o.op = Op.mapUpdate mt m k v) (hm : Tryz.prog.underlying mt = some (.map 3 et))
  (em : a.eval m = .map (some b)) (ek : a.eval k = .int .i64 (key x)) (ev : a.eval v = val x) (h : Tab key val w b L) (hx : i64ok (key x)) (hn : L.length < 1000000)
  (hK : ∀ w', Tab key val w' b (ins key x L) → Chg [b] w w' → K (a.put o.dst undef) w') : o.wp Tryz.prog a w K Q := by
 obtain ⟨w', hrun, h1, h2⟩ := h.put x hx hm hn; unfold Oper.wp
 simp [execOp, ho, em, ek, ev, hrun, Result.andThen]
 exact hK _ h1 h2
theorem Tab.wpl_putK {ops : Array Oper} {rest : List Oper} {o : Oper} {a : Act} {Q : Exit → Act → World → Prop} (hg : o.guard = none) (m k v : Operand) (x : α) (ho : o.op = Op.mapUpdate mt m k v) (hm : Tryz.prog.underlying mt = some (.map 3 et))
  (em : a.eval m = .map (some b)) (ek : a.eval k = .int .i64 (key x)) (ev : a.eval v = val x) (h : Tab key val w b L) (hx : i64ok (key x)) (hn : L.length < 1000000)
  (hK : ∀ w', Tab key val w' b (ins key x L) → Chg [b] w w' → wpList Tryz.prog ops Q rest (a.put o.dst undef) w') : wpList Tryz.prog ops Q (o :: rest) a w := by
 refine wpList_plain hg fun K' hK' => ?_
 exact h.wp_putK m k v x ho hm em ek ev hx hn fun w' h1 h2 => hK' _ _ (hK w' h1 h2)
theorem Tab.wp_delK {o : Oper} {a : Act} {K : Act → World → Prop} {Q : Exit → Act → World → Prop} (m x : Operand) (ho : o.op = .call { callee := .builtin .delete, args := #[m, x], argTypes := #[mt, 3] }) (hm : Tryz.prog.underlying mt = some (.map 3 et))
  (em : a.eval m = .map (some b)) (ek : a.eval x = .int .i64 k) (h : Tab key val w b L) (hk : i64ok k)
  (hK : ∀ w', Tab key val w' b (out key L k) → Chg [b] w w' → K (a.put o.dst (.tuple #[])) w') : o.wp Tryz.prog a w K Q := by
 obtain ⟨w', hrun, h1, h2⟩ := h.del hk hm o.type; unfold Oper.wp
 simp [execOp, ho, resolve, invoke, builtin, em, ek, hrun, Result.andThen]
 exact hK _ h1 h2
theorem Tab.wpl_delK {ops : Array Oper} {rest : List Oper} {o : Oper} {a : Act} {Q : Exit → Act → World → Prop} (hg : o.guard = none) (m x : Operand) (ho : o.op = .call { callee := .builtin .delete, args := #[m, x], argTypes := #[mt, 3] }) (hm : Tryz.prog.underlying mt = some (.map 3 et))
  (em : a.eval m = .map (some b)) (ek : a.eval x = .int .i64 k) (h : Tab key val w b L) (hk : i64ok k)
  (hK : ∀ w', Tab key val w' b (out key L k) → Chg [b] w w' → wpList Tryz.prog ops Q rest (a.put o.dst (.tuple #[])) w') : wpList Tryz.prog ops Q (o :: rest) a w := by
 refine wpList_plain hg fun K' hK' => ?_
 exact h.wp_delK m x ho hm em ek hk fun w' h1 h2 => hK' _ _ (hK w' h1 h2)
end
structure Kx where
 k : Nat
 A : Option Addr
 c : Nat
 v : List Nat
def Kx.key (x : Kx) : Int := x.k
def Kx.val (x : Kx) : Value := .slice x.A x.v.length x.c
def Kx.kv (x : Kx) : Kv := ⟨x.k, x.v⟩
def KxOk (w : World) (x : Kx) : Prop := Bt w x.A x.c x.v ∧ x.v.length ≤ 900 ∧ (∀ y ∈ x.v, y < 256) ∧ x.k ≤ 1099511627776
def KvM (w : World) (b : Nat) (l : KV) : Prop := ∃ X : List Kx, Tab Kx.key Kx.val w b X ∧ X.map Kx.kv = l ∧ ∀ x ∈ X, KxOk w x
theorem kvPut_ins (x : Kx) : ∀ X : List Kx, (ins Kx.key x X).map Kx.kv = kvPut x.kv (X.map Kx.kv)
 |[] => rfl
 |y :: t => by
  have kx : Kx.key x = (x.k : Int) := rfl; have ky : Kx.key y = (y.k : Int) := rfl; unfold ins; rw [List.map_cons, kvPut]
  by_cases h1 : x.k < y.k
  ·rw [if_neg (show ¬ Kx.key y < Kx.key x by omega), if_neg (show ¬ Kx.key y = Kx.key x by omega), if_pos (show x.kv.k < y.kv.k from h1)]; rfl
  ·by_cases h2 : x.k = y.k
   ·rw [if_neg (show ¬ Kx.key y < Kx.key x by omega), if_pos (show Kx.key y = Kx.key x by omega), if_neg (show ¬ x.kv.k < y.kv.k from h1), if_pos (show x.kv.k = y.kv.k from h2)]; rfl
   ·rw [if_pos (show Kx.key y < Kx.key x by omega), if_neg (show ¬ x.kv.k < y.kv.k from h1), if_neg (show ¬ x.kv.k = y.kv.k from h2), List.map_cons, kvPut_ins x t]
theorem kvOut_out (k : Nat) : ∀ X : List Kx, (out Kx.key X k).map Kx.kv = kvOut k (X.map Kx.kv)
 |[] => rfl
 |y :: t => by
  have h := kvOut_out k t; unfold out kvOut at h ⊢; rw [List.map_cons, List.filter_cons, List.filter_cons]
  by_cases h1 : y.k = k
  ·have a1 : (Kx.key y != (k : Int)) = false := by simp [Kx.key, h1]
   have a2 : ((Kx.kv y).k != k) = false := by simp [Kx.kv, h1]
   rw [a1, a2]
   exact h
  ·have a1 : (Kx.key y != (k : Int)) = true := by simp [Kx.key]; omega
   have a2 : ((Kx.kv y).k != k) = true := by simp [Kx.kv, h1]
   rw [a1, a2]; simp only [if_true, List.map_cons, h]
section
variable {w w' : World} {b : Nat} {l : KV} {G : List Nat}
theorem KxOk.chg {x : Kx} (h : KxOk w x) (hc : Chg G w w') (hG : NoB w G) : KxOk w' x := ⟨h.1.chg hc hG, h.2⟩
theorem KvM.lt (h : KvM w b l) : b < w.heap.size := by obtain ⟨X, h1, _⟩ := h; exact h1.lt
theorem KvM.chg (h : KvM w b l) (hc : Chg G w w') (hn : b ∉ G) (hG : NoB w G) : KvM w' b l := by
 obtain ⟨X, h1, h2, h3⟩ := h
 exact ⟨X, h1.chg hc hn, h2, fun x hx => (h3 x hx).chg hc hG⟩
theorem Rdr.text_len {r : Rdr} (most : Nat) : (r.text most).1.length ≤ most ∧ (r.text most).2.b.length ≤ r.b.length := by
 unfold Rdr.text; have h1 := Rdr.num_le (r := r) most; have h2 := Rdr.num_len (r := r) most; simp only []
 split
 ·exact ⟨Nat.zero_le _, h2⟩
 ·split
  ·exact ⟨Nat.zero_le _, h2⟩
  ·simp only [List.length_take, List.length_drop]; omega
theorem Rdr.text_byte {r : Rdr} (hb : ∀ c ∈ r.b, c < 256) (most : Nat) : ∀ c ∈ (r.text most).1, c < 256 := by
 unfold Rdr.text; have h1 := Rdr.num_byte hb most; simp only []
 split
 ·intro c hc; cases hc
 ·split
  ·intro c hc; cases hc
  ·exact fun c hc => h1 c (List.mem_of_mem_take hc)
theorem KvM.below (h : KvM w b l) (hb : Below w.heap.size w w') : KvM w' b l := h.chg (G := []) (Chg.of_below hb) (by simp) (fun g hg => by cases hg)
theorem GM.noBlk {c : Nat} {f : Int → Option Value} (h : GM w b c f) {t : TypeId} {cs : List Value} : ¬ Blk w b t cs := by
 obtain ⟨D, ⟨es, clock, hb, _⟩, _⟩ := h
 intro hk
 unfold Blk at hk; rw [hb] at hk
 cases hk
theorem KvM.nob (h : KvM w b l) : NoB w [b] := fun z hz => Or.inl fun cs hk => by
 obtain ⟨X, h1, _⟩ := h; rw [List.mem_singleton.1 hz] at hk
 exact h1.gm.noBlk hk
theorem vchange_calls (h : KvM w b l) {A : Option Addr} {c : Nat} {r : List Nat} (hr : Bt w A c r) (hrb : ∀ x ∈ r, x < 256) (hrl : r.length ≤ 100000) (hl : l.length < 1000000) :
  Calls Tryz.prog 40 #[.map (some b), .slice A r.length c] w fun e w' => e = .returned (.bool (kvChange l r).isSome) ∧ KvM w' b ((kvChange l r).getD l) ∧ Chg [b] w w' := by
 obtain ⟨R, hR⟩ : ∃ R, kvChange l r = R := ⟨_, rfl⟩; rw [hR]; unfold kvChange at hR; obtain ⟨r1, hr1⟩ : ∃ x, (⟨r, 0⟩ : Rdr).num 1099511627776 = x := ⟨_, rfl⟩; obtain ⟨r2, hr2⟩ : ∃ x, r1.2.num 1 = x := ⟨_, rfl⟩; obtain ⟨r3, hr3⟩ : ∃ x, r2.2.text 900 = x := ⟨_, rfl⟩; simp only [hr1, hr2, hr3] at hR; have n1 := Rdr.num_len (r := (⟨r, 0⟩ : Rdr)) 1099511627776; have n2 := Rdr.num_len (r := r1.2) 1; have m1 := Rdr.num_le (r := (⟨r, 0⟩ : Rdr)) 1099511627776; have b1 := Rdr.num_byte (r := (⟨r, 0⟩ : Rdr)) hrb 1099511627776; rw [hr1] at n1 m1 b1; have b2 := Rdr.num_byte b1 1; rw [hr2] at n2 b2; have t3 := Rdr.text_len (r := r2.2) 900; have b3 := Rdr.text_byte b2 900; rw [hr3] at t3 b3; simp only [] at n1; have HRR := hide (rread_calls w [] (by simp) A c r hr.rb.rd (by omega) hrb); have H := hd2 h hl; have HT := hd2 t3 b3; have HR1 := hide hr1; have HR2 := hide hr2; have HR3 := hide hr3; have HN := hd4 n1 n2 m1 hrl; clear h hr hrb hrl hl hr1 hr2 hr3 n1 n2 m1 b1 b2 t3 b3
 go_enter Tryz.func40, Tryz.ntmps40
 go_wp2_with fail; refine HRR.out.mono ?_; rintro e w3 ⟨rb, rfl, hro, hrb, hb3⟩; have HN1 := rnum_calls w3 rb [] _ 1099511627776 hro (by simp only []; have := HN.out; omega) (by omega); rw [HR1.out] at HN1; have HN1 := hide HN1; have H3 := hd2 hrb hb3; clear hro hrb hb3 HRR; go_wp2_with fail; refine HN1.out.mono ?_; rintro e w4 ⟨rfl, hro, hc4⟩; have HN2 := rnum_calls w4 rb [] _ 1 hro (by have := HN.out; omega) (by omega); rw [HR2.out] at HN2; have HN2 := hide HN2; have H4 := hide hc4; clear hro hc4 HN1; go_wp2_with fail; refine HN2.out.mono ?_; rintro e w5 ⟨rfl, hro, hc5⟩; have H5 := hide (H4.out.trans hc5 (fun z hz => Or.inl hz)); have HRO := hide hro; clear hro hc5 HN2 H4
 have bel : ∀ w' : World, Chg [rb] w3 w' → Below w.heap.size w w' := fun w' hc => Chg.onto H3.out.2 H3.out.2.size hc (fun z hz => by rw [List.mem_singleton.1 hz]; exact H3.out.1)
 have HBEL := hide bel; clear bel
 by_cases h0 : r2.1 = 0
 ·rw [if_pos h0] at hR
  have u0 : ((r2.1 : Int) == 0) = true := by simp [h0]
  have HEN := hide (rend_calls w5 rb [] _ HRO.out); clear h0; go_wp2_with fail; refine HEN.out.mono ?_; rintro e w6 ⟨rfl, hro, hc6⟩; have hb6 := HBEL.out w6 (H5.out.trans hc6 (fun z hz => Or.inl hz)); have H6 := hd2 hb6 (H.out.1.below hb6); clear hro hc6 hb6 HEN
  by_cases hf : r2.2.fin = 0
  ·rw [if_neg (by simpa using hf)] at hR
   subst hR
   have u1 : ((r2.2.fin : Int) != 0) = false := by simp [hf]
   obtain ⟨X, x1, x2, x3⟩ := H6.out.2; have HX := hd3 x1 x2 x3
   have hk1 : i64ok (r1.1 : Int) := by unfold i64ok; have := HN.out; omega
   have HK1 := hide hk1; clear hf x1 x2 x3 hk1
   go_wp2_with (at_delete; refine Tab.wpl_delK rfl _ _ rfl Tryz.underlying92 rfl rfl HX.out.1 HK1.out ?_)
   intro w7 ht7 hc7
   have hnb := H6.out.2.nob; have H7 : Hid (KvM w7 b (kvOut r1.1 l) ∧ Chg [b] w w7) := hide ⟨⟨_, ht7, by rw [kvOut_out, HX.out.2.1], fun x hx => (HX.out.2.2 x (mem_out.1 hx).1).chg hc7 hnb⟩, (Chg.of_below (L := [b]) H6.out.1).trans hc7 (fun z hz => Or.inl hz)⟩; clear ht7 hc7 hnb; go_wp2; go_ret
   exact ⟨rfl, H7.out⟩
  ·rw [if_pos (by simpa using hf)] at hR
   subst hR
   have u1 : ((r2.2.fin : Int) != 0) = true := by simp; omega
   clear hf; go_wp2; go_ret
   exact ⟨rfl, H6.out.2, Chg.of_below H6.out.1⟩
 ·rw [if_neg h0] at hR
  have u0 : ((r2.1 : Int) == 0) = false := by simp; omega
  have HN3 := rtext_calls w5 rb [] _ 900 HRO.out (by have := HN.out; omega) (by omega) (by simp); rw [HR3.out] at HN3; have HN3 := hide HN3; clear h0; go_wp2_with fail; refine HN3.out.mono ?_; rintro e w6 ⟨A6, c6, rfl, ho6, hro6, hc6⟩; have HEN := hide (rend_calls w6 rb [] _ hro6); have H6 := hd3 ho6 (H5.out.trans hc6 (fun z hz => Or.inl hz)) HRO.out.lt; clear ho6 hro6 hc6 HN3; go_wp2_with fail; refine HEN.out.mono ?_; rintro e w7 ⟨rfl, _, hc7⟩; have hb7 := HBEL.out w7 (H6.out.2.1.trans hc7 (fun z hz => Or.inl hz)); have H7 := hd3 hb7 (H.out.1.below hb7) (H6.out.1.chg hc7 (by simpa using H6.out.2.2)).bt; clear hc7 hb7 HEN
  by_cases hf : r3.2.fin = 0
  ·rw [if_neg (by simpa using hf)] at hR
   subst hR
   have u1 : ((r3.2.fin : Int) != 0) = false := by simp [hf]
   obtain ⟨X, x1, x2, x3⟩ := H7.out.2.1
   have hXl : X.length < 1000000 := by have := H.out.2; rw [← x2, List.length_map] at this; exact this
   have HX := hd4 x1 x2 x3 hXl
   have hk1 : i64ok (Kx.key ⟨r1.1, A6, c6, r3.1⟩) := by unfold i64ok; show -9223372036854775808 ≤ (r1.1 : Int) ∧ (r1.1 : Int) ≤ 9223372036854775807; have := HN.out; omega
   have HK1 := hide hk1; clear hf x1 x2 x3 hk1 hXl
   go_wp2_with (refine Tab.wpl_putK rfl _ _ _ ⟨r1.1, A6, c6, r3.1⟩ rfl Tryz.underlying92 rfl rfl rfl HX.out.1 HK1.out HX.out.2.2.2 ?_)
   intro w8 ht8 hc8
   have hnb := H7.out.2.1.nob
   have H8 : Hid (KvM w8 b (kvPut ⟨r1.1, r3.1⟩ l) ∧ Chg [b] w w8) := hide ⟨⟨_, ht8, by rw [kvPut_ins, HX.out.2.1]; rfl, fun x hx => by
    rcases (mem_ins HX.out.1.rise).1 hx with rfl | ⟨h1, _⟩
    ·exact ⟨H7.out.2.2.chg hc8 hnb, HT.out.1.1, HT.out.2, HN.out.2.2.1⟩
    ·exact (HX.out.2.2.1 x h1).chg hc8 hnb⟩, (Chg.of_below (L := [b]) H7.out.1).trans hc8 (fun z hz => Or.inl hz)⟩
   clear ht8 hc8 hnb; go_wp2; go_ret
   exact ⟨rfl, H8.out⟩
  ·rw [if_pos (by simpa using hf)] at hR
   subst hR
   have u1 : ((r3.2.fin : Int) != 0) = true := by simp; omega
   clear hf; go_wp2; go_ret
   exact ⟨rfl, H7.out.2.1, Chg.of_below H7.out.1⟩
end

theorem vgen_calls (w : World) {A : Option Addr} {c : Nat} {h : List Nat} (hr : Rb w [] A c h) (hb : ∀ x ∈ h, x < 256) (h3 : 3 ≤ h.length) (hl : h.length ≤ 1000) :
  Calls Tryz.prog 76 #[.slice A h.length c] w fun e w' => e = .returned (.int .i64 (kvGen h : Nat)) ∧ Below w.heap.size w w' := by
 have hsl : ∀ w : World, (Instr.slice 42 (.slice A h.length c) (some (.int .i64 3)) none none).run Tryz.prog w = .ok (.slice (if c = 3 then A else A.map (·.add (3 * 1))) (h.length - 3) (c - 3)) w := fun w => sliceB_from (A := A) (n := h.length) (c := c) (m := 3) h3 w
 have hrc := hr.cut (k := 3) h3; obtain ⟨A', hA'⟩ : ∃ A', (if c = 3 then A else A.map (·.add (3 * 1))) = A' := ⟨_, rfl⟩; obtain ⟨c', hc'⟩ : ∃ c', c - 3 = c' := ⟨_, rfl⟩; rw [hA', hc'] at hrc; simp only [hA', hc'] at hsl; have HRR := rread_calls w [] (by simp) A' c' (h.drop 3) hrc.rd (by rw [List.length_drop]; omega) (fun x hx => hb x (List.mem_of_mem_drop hx)); rw [List.length_drop] at HRR; have HRR := hide HRR; have HL := hd2 h3 hl; clear hA' hc' hrc hb hr h3 hl
 go_enter Tryz.func76, Tryz.ntmps76
 go_wp2_with fail; refine HRR.out.mono ?_; rintro e w3 ⟨rb, rfl, hro, hrb, hb3⟩; have HN1 := hide (rnum_calls w3 rb [] _ 1099511627776 hro (by simp only [List.length_drop]; have := HL.out; omega) (by omega)); have H3 := hd2 hrb hb3; clear hro hrb hb3 HRR; go_wp2_with fail; refine HN1.out.mono ?_; rintro e w4 ⟨rfl, hro, hc4⟩; have H4 := hide (show Below w.heap.size w w4 from Chg.onto H3.out.2 H3.out.2.size hc4 (fun z hz => by rw [List.mem_singleton.1 hz]; exact H3.out.1)); clear hro hc4 HN1; go_wp2; go_ret
 exact ⟨rfl, H4.out⟩
theorem undT : Tryz.prog.underlying 98 = some (.slice (Tryz.prog.elem 98)) := by kernel_rfl
theorem sizeT (w : World) : (sizeOf (Tryz.prog.elem 98)).run Tryz.prog w = .ok 1 w := by kernel_rfl
theorem sliceT_mid {A : Option Addr} {n c m k : Nat} (hk : m ≤ k) (hc : k ≤ c) (w : World) : (Instr.slice 98 (.slice A n c) (some (.int .i64 (m : Int))) (some (.int .i64 (k : Int))) none).run Tryz.prog w = .ok (.slice (if c = m then A else A.map (·.add (m * 1))) (k - m) (c - m)) w := by
 rw [run_slice_lh w _ A n c undT .i64 .i64 _ _ (by omega) (by omega) (by omega), sizeT w]; simp only [Result.andThen, sliced, Int.toNat_natCast]
theorem txCells_get : ∀ (X : List Tx) (k : Nat) (hk : k < X.length), (txCells X)[k]? = some (.slice X[k].A X[k].b.length X[k].c)
 |x :: t, 0, _ => rfl
 |x :: t, k + 1, hk => by
  have := txCells_get t k (by simpa using hk); simp only [txCells, List.flatMap_cons, Tx.cells] at this ⊢
  exact this

theorem kvPut_len (x : Kv) : ∀ l : KV, (kvPut x l).length ≤ l.length + 1
 |[] => by simp [kvPut]
 |y :: t => by
  unfold kvPut
  split
  ·simp
  ·split
   ·simp
   ·simpa using kvPut_len x t
theorem vreads_calls {w0 w : World} {A : Option Addr} {c : Nat} {L : List (List Nat)} (h : OwnT w0 w A c L) (hb : ∀ t ∈ L, t.length ≤ 100000 ∧ ∀ y ∈ t, y < 256) (hl : L.length ≤ 100000) :
  Calls Tryz.prog 78 #[.slice A L.length c] w fun e w' => ∃ mv, e = .returned (.tuple #[.map mv, .bool (kvRead L).isSome]) ∧ Below w.heap.size w w' ∧ ∀ l, kvRead L = some l → ∃ b, mv = some b ∧ w.heap.size ≤ b ∧ KvM w' b l ∧ l.length ≤ L.length := by
 obtain ⟨R, hR⟩ : ∃ R, kvRead L = R := ⟨_, rfl⟩; rw [hR]; have r0 := Below.refl w.heap.size w
 by_cases hL0 : L = []
 ·subst hL0
  subst hR; clear h hb hl; simp only [List.length_nil]
  go_enter Tryz.func78, Tryz.ntmps78
  go_wp2
  go_ret2
  exact ⟨none, rfl, r0, fun l hl => by cases hl⟩
 ·obtain ⟨t0, T, hLT⟩ : ∃ t0 T, L = t0 :: T := List.exists_cons_of_ne_nil hL0
  obtain ⟨X, x1, x2, x3, x4⟩ := h
  have hX0 : X ≠ [] := fun e => hL0 (by rw [← x1, e]; rfl)
  obtain ⟨x0, X', hXX⟩ : ∃ x0 X', X = x0 :: X' := List.exists_cons_of_ne_nil hX0; obtain ⟨A9, c9, e9, hnc, _, _, _, hrd⟩ := own_view x2
  cases e9
  have hXl : X.length = L.length := by rw [← x1, List.length_map]
  have hRX := hrd _ (fun g hg => own_lt x2 hg); have hpos : 0 < L.length := List.length_pos_iff.2 hL0; obtain ⟨bA, oA, rfl, hbA, hcA⟩ := hRX.at_ hpos
  have hcB : ∀ w' : World, Below w.heap.size w w' → ∀ (k : Nat) (hk : k < X.length), w'.cell? ⟨bA, oA + k, none⟩ = some (.slice X[k].A X[k].b.length X[k].c) := fun w' hb' k hk => (hb'.cell (p := ⟨bA, oA + k, none⟩) hbA).trans (hcA _ _ (txCells_get X k hk))
  have ht0 : x0.b = t0 ∧ X'.map Tx.b = T := by
   rw [hXX, List.map_cons, hLT] at x1
   injection x1 with h1 h2
   exact ⟨h1, h2⟩
  have hc0 := hcB w r0 0 (by omega); simp only [hXX, List.getElem_cons_zero, Nat.add_zero] at hc0; rw [ht0.1] at hc0; have hb0 := hb t0 (by rw [hLT]; exact List.mem_cons_self ..); have ho0 := x4 x0 (by rw [hXX]; exact List.mem_cons_self ..); rw [ht0.1] at ho0; rw [hLT] at hR; unfold kvRead at hR; simp only [] at hR; obtain ⟨r1, hr1⟩ : ∃ x, (⟨t0, 0⟩ : Rdr).num 1099511627776 = x := ⟨_, rfl⟩; have n1 := Rdr.num_len (r := (⟨t0, 0⟩ : Rdr)) 1099511627776; have m1 := Rdr.num_le (r := (⟨t0, 0⟩ : Rdr)) 1099511627776; rw [hr1] at hR n1 m1; have HRR := hide (rread_calls w [] (by simp) x0.A x0.c t0 ho0.bt.rb.rd (by omega) hb0.2); obtain ⟨N, hN⟩ : ∃ N, L.length = N := ⟨_, rfl⟩; rw [hN] at hpos hnc; rw [hN]
  have hTl : T.length + 1 = N := by rw [← hN, hLT]; rfl
  obtain ⟨N1, hN1⟩ : ∃ N1, T.length = N1 := ⟨_, rfl⟩; have HX := hd5 hcB x4 hXX ht0.2 hXl; have HB := hd3 hb hb0.1 n1; have HLT := hd3 hLT hN hr1; have HTl := hd2 hTl hN1; have HNc := hide hnc
  have hNN : N = N1 + 1 := by omega
  have hlN : N ≤ 100000 := by omega
  have q0 : IntKind.i64.wrap ((N : Int) - 1) = (N1 : Int) := by rw [IntWalk.i64_in _ (by omega)]; omega
  have hmm := @run_makeMap Tryz.prog; have HNN := hd3 hNN hlN m1; rw [hN1] at hR; clear x1 x2 x3 x4 hX0 hXl hRX hrd hcA hcB ht0 hb hb0 ho0 hL0 hLT hXX hTl hN1 hnc n1 hl hr1 hN hNN hlN m1 hbA
  go_enter Tryz.func78, Tryz.ntmps78
  go_wp2_with fail; refine HRR.out.mono ?_; rintro e w3 ⟨rb, rfl, hro, hrb, hb3⟩; have HN1 := rnum_calls w3 rb [] _ 1099511627776 hro (by simp only []; have := HB.out; omega) (by omega); rw [HLT.out.2.2] at HN1; have HN1 := hide HN1; have H3 := hd2 hrb hb3; clear hro hrb hb3 HRR hc0; go_wp2_with fail; refine HN1.out.mono ?_; rintro e w4 ⟨rfl, hro, hc4⟩; have HEN := hide (rend_calls w4 rb [] _ hro); have H4 := hide hc4; clear hro hc4 HN1; go_wp2_with fail; refine HEN.out.mono ?_; rintro e w5 ⟨rfl, _, hc5⟩; have hb5 : Below w.heap.size w w5 := Chg.onto H3.out.2 H3.out.2.size (H4.out.trans hc5 (fun z hz => Or.inl hz)) (fun z hz => by rw [List.mem_singleton.1 hz]; exact H3.out.1); have H5 := hide hb5; clear hc5 hb5 HEN
  by_cases hf : r1.2.fin = 0
  ·have u1 : ((r1.2.fin : Int) != 0) = false := by simp [hf]
   by_cases hn : N1 < r1.1
   ·rw [if_pos (Or.inr hn)] at hR
    subst hR
    have u2 : (N1 : Int) < r1.1 := by omega
    clear hf hn; go_wp2
    go_ret2
    exact ⟨none, rfl, H5.out, fun l hl => by cases hl⟩
   ·rw [if_neg (by intro h; rcases h with h | h; exact h hf; exact hn h)] at hR
    have u2 : ¬ (N1 : Int) < r1.1 := by omega
    have HN2 := hide hn; clear hf hn; obtain ⟨n, hn⟩ : ∃ n, r1.1 = n := ⟨_, rfl⟩; rw [hn] at hR HN2; rw [hn] at u2 ⊢; obtain ⟨n1, hn1⟩ : ∃ n1, n + 1 = n1 := ⟨_, rfl⟩; have hnN := HNN.out; have hnN2 := HN2.out
    have q3 : IntKind.i64.wrap ((n : Int) + 1) = (n1 : Int) := by rw [IntWalk.i64_in _ (by omega)]; omega
    have hnc := HNc.out
    have hsl : ∀ w : World, (Instr.slice 98 (.slice (some ⟨bA, oA, none⟩) N c) (some (.int .i64 1)) (some (.int .i64 (n1 : Int))) none).run Tryz.prog w = .ok (.slice (if c = 1 then (some ⟨bA, oA, none⟩) else (some (⟨bA, oA, none⟩ : Addr)).map (·.add (1 * 1))) (n1 - 1) (c - 1)) w := fun w => sliceT_mid (A := some ⟨bA, oA, none⟩) (n := N) (c := c) (m := 1) (k := n1) (by omega) (by omega) w
    obtain ⟨A', hA'⟩ : ∃ A', (if c = 1 then (some ⟨bA, oA, none⟩) else (some (⟨bA, oA, none⟩ : Addr)).map (·.add (1 * 1))) = A' := ⟨_, rfl⟩; obtain ⟨c', hc'⟩ : ∃ c', c - 1 = c' := ⟨_, rfl⟩; simp only [hA', hc', show n1 - 1 = n by omega] at hsl; have HA : Hid (0 < n → A' = some ⟨bA, oA + 1, none⟩) := hide (fun h => by rw [← hA', if_neg (by omega)]; rfl)
    have hpc : 0 < N := by omega
    have HN := hd2 hn1 (show n ≤ N1 by omega); clear hA' hc' hn hn1 hnN hnN2 hnc HN2; go_wp2; obtain ⟨w6, hw6⟩ : ∃ w6, w5.alloc (.map #[] 0) = w6 := ⟨_, rfl⟩; obtain ⟨mb, hmb⟩ : ∃ mb, w5.heap.size = mb := ⟨_, rfl⟩
    have hb6 : Below w.heap.size w w6 := hw6 ▸ belowL H5.out _
    have hk6 : KvM w6 mb [] := ⟨[], by rw [← hw6, ← hmb]; exact Tab.made w5, rfl, by simp⟩
    have hmw : w.heap.size ≤ mb := by rw [← hmb]; exact H5.out.size
    have H6 := hd3 hb6 hk6 hmw
    (try rw [hw6])
    (try rw [hmb])
    have hdn : decide (N1 < n) = false := decide_eq_false (by have := HN.out; omega); rw [hdn]; clear hdn hw6 hmb hb6 hk6 hmw hsl hmm q3 hpc u1 u2 q0
    go_loopw [2, 3, 7, 9, 10, 11, 12, 38, 39, 40, 41, 42, 43, 44, 45, 46, 47, 48, 49, 50, 51, 52, 53, 54, 55, 56, 57, 58, 59, 60] (fun _ _ lv _ _ _ _ iv _ _ _ _ _ _ _ _ _ _ _ _ _ _ _ _ _ _ _ _ _ _ wr => ∃ (k : Nat) (last : Int) (l : KV), k ≤ n ∧ iv = .int .i64 k ∧ lv = .int .i64 last ∧ Hid (kvReadF (T.take n) (-1) [] = kvReadF ((T.take n).drop k) last l) ∧ KvM wr mb l ∧ Below w.heap.size w wr ∧ Hid (l.length ≤ k ∧ -1 ≤ last ∧ last ≤ 1099511627776)) (fun _ _ _ _ _ _ _ iv _ _ _ _ _ _ _ _ _ _ _ _ _ _ _ _ _ _ _ _ _ _ _ => n - (Go.RowKit.intOf iv).toNat)
    case atStart => exact ⟨0, -1, [], Nat.zero_le _, rfl, rfl, hide rfl, H6.out.2.1, H6.out.1, hide ⟨Nat.le_refl _, by omega, by omega⟩⟩
    case round =>
     obtain ⟨k, last, l, hk, rfl, rfl, hrf, hkv, hbr, hln⟩ := hrel
     by_cases hlt : k < n
     ·have i1 : (k : Int) < n := by omega
      have hNb := HN.out; have hTl := HTl.out
      have hTn : k < (T.take n).length := by rw [List.length_take]; omega
      have hkX : k + 1 < X.length := by rw [HX.out.2.2.2.2, HLT.out.1, List.length_cons]; omega
      obtain ⟨x, hx⟩ : ∃ x, X[k + 1] = x := ⟨_, rfl⟩
      have hxm : x ∈ X := by rw [← hx]; exact List.getElem_mem _
      have g1 : X[k + 1]? = some x := by rw [List.getElem?_eq_getElem hkX, hx]
      have g2 : T[k]? = some x.b := by
       rw [HX.out.2.2.1, List.getElem?_cons_succ] at g1; rw [← HX.out.2.2.2.1, List.getElem?_map, g1]
       rfl
      have g3 : (T.take n)[k] = x.b := Option.some.inj (by rw [← List.getElem?_eq_getElem hTn, List.getElem?_take, if_pos hlt, g2]); have hcl := HX.out.1 wr hbr (k + 1) hkX; rw [hx, show oA + (k + 1) = oA + 1 + k by omega] at hcl; have hxb := HB.out.1 x.b (by rw [HLT.out.1]; exact List.mem_cons_of_mem _ (List.mem_of_getElem? g2)); have hxo := (HX.out.2.1 x hxm).below hbr; have HRR := hide (rread_calls wr [] (by simp) x.A x.c x.b hxo.bt.rb.rd (by omega) hxb.2); have hr2 := hrf.out; rw [List.drop_eq_getElem_cons hTn, g3, kvReadF] at hr2; obtain ⟨p1, hp1⟩ : ∃ y, (⟨x.b, 0⟩ : Rdr).num 1099511627776 = y := ⟨_, rfl⟩; obtain ⟨p2, hp2⟩ : ∃ y, p1.2.text 900 = y := ⟨_, rfl⟩; simp only [hp1, hp2] at hr2; have n1' := Rdr.num_len (r := (⟨x.b, 0⟩ : Rdr)) 1099511627776; have m1' := Rdr.num_le (r := (⟨x.b, 0⟩ : Rdr)) 1099511627776; have b1' := Rdr.num_byte (r := (⟨x.b, 0⟩ : Rdr)) hxb.2 1099511627776; rw [hp1] at n1' m1' b1'; have t2' := Rdr.text_len (r := p1.2) 900; have b2' := Rdr.text_byte b1' 900; rw [hp2] at t2' b2'; simp only [] at n1'; have HP := hd7 hp1 hp2 n1' m1' t2' b2' hxb.1; have HRF := hide hr2; have HKV := hd3 hkv hbr hln.out; obtain rfl : A' = some ⟨bA, oA + 1, none⟩ := HA.out (by omega); clear hNb hTl hTn hkX hx hxm g1 g2 g3 hxb hxo hr2 hp1 hp2 n1' m1' b1' t2' b2' hrf hkv hbr hln; go_wp2_with fail; refine HRR.out.mono ?_; rintro e w7 ⟨rb2, rfl, hro, hrb, hb3⟩; have HN1 := rnum_calls w7 rb2 [] _ 1099511627776 hro (by simp only []; have := HP.out; omega) (by omega); rw [HP.out.1] at HN1; have HN1 := hide HN1; have H7 := hd2 hrb hb3; clear hro hrb hb3 HRR hcl; go_wp2_with fail; refine HN1.out.mono ?_; rintro e w8 ⟨rfl, hro, hc8⟩; have HN2 := rtext_calls w8 rb2 [] _ 900 hro (by have := HP.out; omega) (by omega) (by simp); rw [HP.out.2.1] at HN2; have HN2 := hide HN2; have H8 := hd2 hc8 hro.lt; clear hro hc8 HN1; go_wp2_with fail; refine HN2.out.mono ?_; rintro e w9 ⟨A9, c9, rfl, ho9, hro9, hc9⟩; have HEN := hide (rend_calls w9 rb2 [] _ hro9); have H9 := hd2 ho9 (H8.out.1.trans hc9 (fun z hz => Or.inl hz)); clear ho9 hro9 hc9 HN2; go_wp2_with fail; refine HEN.out.mono ?_; rintro e wA ⟨rfl, _, hcA⟩; have hbrA : Below wr.heap.size wr wA := Chg.onto H7.out.2 H7.out.2.size (H9.out.2.trans hcA (fun z hz => Or.inl hz)) (fun z hz => by rw [List.mem_singleton.1 hz]; exact H7.out.1); have hbA := belowA hbrA HKV.out.2.1; have HA2 := hd3 hbA (HKV.out.1.below hbrA) (H9.out.1.chg hcA (by simpa using H8.out.2)).bt; clear hcA hbrA hbA HEN
      by_cases hf : p2.2.fin = 0
      ·have v1 : ((p2.2.fin : Int) != 0) = false := by simp [hf]
       by_cases hla : (p1.1 : Int) ≤ last
       ·have hE : R = none := by rw [← hR, HRF.out, if_pos (Or.inr hla)]
        subst hE; have v2 : ((p1.1 : Int) ≤ last) := hla; clear hf hR HRF; go_wp2
        go_ret2
        exact ⟨none, rfl, HA2.out.1, fun l hl => by cases hl⟩
       ·have hE := HRF.out.trans (if_neg (by intro h; rcases h with h | h; exact h hf; exact hla h))
        have HE := hide hE; obtain ⟨Y, y1, y2, y3⟩ := HA2.out.2.1
        have hYl : Y.length < 1000000 := by have h8 := HKV.out.2.2.1; have h9 := HN.out; have := HNN.out; rw [← y2, List.length_map] at h8; omega
        have HY := hd4 y1 y2 y3 hYl
        have hk1 : i64ok (Kx.key ⟨p1.1, A9, c9, p2.1⟩) := by unfold i64ok; show -9223372036854775808 ≤ (p1.1 : Int) ∧ (p1.1 : Int) ≤ 9223372036854775807; have := HP.out; omega
        have HK1 := hide hk1; have v2 : ¬ (p1.1 : Int) ≤ last := hla; clear hf y1 y2 y3 hk1 hYl hE HRF hla
        go_wp2_with (refine Tab.wpl_putK rfl _ _ _ ⟨p1.1, A9, c9, p2.1⟩ rfl Tryz.underlying92 rfl rfl rfl HY.out.1 HK1.out HY.out.2.2.2 ?_)
        intro wB htB hcB
        have hnb := HA2.out.2.1.nob
        have HB8 : Hid (KvM wB mb (kvPut ⟨p1.1, p2.1⟩ l) ∧ Below w.heap.size w wB) := hide ⟨⟨_, htB, by rw [kvPut_ins, HY.out.2.1]; rfl, fun x hx => by
         rcases (mem_ins HY.out.1.rise).1 hx with rfl | ⟨h1, _⟩
         ·exact ⟨HA2.out.2.2.chg hcB hnb, HP.out.2.2.2.2.1.1, HP.out.2.2.2.2.2.1, HP.out.2.2.2.1⟩
         ·exact (HY.out.2.2.1 x h1).chg hcB hnb⟩, Chg.onto HA2.out.1 HA2.out.1.size hcB (fun z hz => by rw [List.mem_singleton.1 hz]; exact H6.out.2.2)⟩
        have hk9 : IntKind.i64.wrap ((k : Int) + 1) = (k : Int) + 1 := IntWalk.i64_in _ (by have := HN.out; have := HNN.out; have := HTl.out; omega); clear htB hcB hnb v2; go_wp2
        go_roundw
        case rel => exact ⟨k + 1, p1.1, kvPut ⟨p1.1, p2.1⟩ l, by omega, by go_num, rfl, HE, HB8.out.1, HB8.out.2, hide (by have h1 := kvPut_len ⟨p1.1, p2.1⟩ l; have h2 := HKV.out.2.2; have h3 := HP.out; omega)⟩
        case measure => simp [Go.RowKit.intOf]; omega
      ·have hE : R = none := by rw [← hR, HRF.out, if_pos (Or.inl hf)]
       subst hE
       have v1 : ((p2.2.fin : Int) != 0) = true := by simp; omega
       clear hf hR HRF; go_wp2
       go_ret2
       exact ⟨none, rfl, HA2.out.1, fun l hl => by cases hl⟩
     ·have i1 : ¬ (k : Int) < n := by omega
      obtain rfl : k = n := by omega
      have hE : R = some l := by
       rw [← hR, hrf.out, List.drop_of_length_le (by rw [List.length_take]; omega)]
       rfl
      have HE := hide hE; have HKV := hd3 hkv hbr hln.out.1; clear hE hkv hbr hrf hR; go_wp2
      go_ret2
      rw [HE.out]
      exact ⟨some mb, rfl, HKV.out.2.1, fun l' hl' => by
       cases hl'
       exact ⟨mb, rfl, H6.out.2.2, HKV.out.1, by have := HKV.out.2.2; have := HN.out; have := HNN.out; omega⟩⟩
  ·rw [if_pos (Or.inl hf)] at hR
   subst hR
   have u1 : ((r1.2.fin : Int) != 0) = true := by simp; omega
   clear hf; go_wp2
   go_ret2
   exact ⟨none, rfl, H5.out, fun l hl => by cases hl⟩

theorem opened_sub {l r : List Nat} (h : opened l = some r) : (∀ c ∈ r, c ∈ l) ∧ r.length ≤ l.length := by
 unfold opened at h
 split at h
 ·injection h with h
  rw [← h]
  exact ⟨fun c hc => List.mem_of_mem_take hc, by rw [List.length_take]; omega⟩
 ·cases h
theorem jread_text {b t : List Nat} {gen n s : Nat} (h : jread b gen n = some (t, s)) (hb : ∀ c ∈ b, c < 256) : t.length ≤ 1024 ∧ ∀ c ∈ t, c < 256 := by
 unfold jread at h
 split at h
 ·cases h
 ·simp only [] at h
  split at h
  ·cases h
  ·rename_i h2
   split at h
   ·cases h
   ·rename_i rest ho
    split at h
    ·cases h
    ·split at h
     ·injection h with h
      have hs := opened_sub ho
      have h1 : rest.length ≤ 1024 := by
       have := hs.2; rw [List.length_take] at this; unfold jsize at h2
       omega
      have h3 : ∀ c ∈ rest, c < 256 := fun c hc => hb c (List.mem_of_mem_drop (List.mem_of_mem_take (hs.1 c hc)))
      have ht := congrArg Prod.fst h; simp only [] at ht; rw [← ht]
      exact ⟨Nat.le_trans (Rdr.text_len _).1 h1, Rdr.text_byte (Rdr.num_byte (Rdr.num_byte (r := (⟨rest, 0⟩ : Rdr)) h3 _) _) _⟩
     ·cases h
theorem jscanF_text {B : List Nat} {gen : Nat} (hB : ∀ c ∈ B, c < 256) : ∀ (f : Nat) (out : List (List Nat)) (used : Nat), (∀ t ∈ out, t.length ≤ 1024 ∧ ∀ c ∈ t, c < 256) → ∀ t ∈ (jscanF B gen f out used).1, t.length ≤ 1024 ∧ ∀ c ∈ t, c < 256
 |0, out, used, h => h
 |f + 1, out, used, h => by
  cases hJ : jread (B.drop (used * 64)) gen out.length with
  |none => rw [jscanF_none hJ]; exact h
  |some x =>
   obtain ⟨t, s⟩ := x; rw [jscanF_some hJ]
   exact jscanF_text hB f _ _ (fun y hy => by
    rcases List.mem_append.1 hy with hy | hy
    ·exact h y hy
    ·rw [List.mem_singleton.1 hy]
     exact jread_text hJ (fun c hc => hB c (List.mem_of_mem_drop hc)))
theorem jscan_text {D : Dev} (hok : DevOk D) {fr many gen : Nat} : ∀ t ∈ (jscan D fr many gen).2.1, t.length ≤ 1024 ∧ ∀ c ∈ t, c < 256 := by
 unfold jscan
 split
 ·intro t ht; cases ht
 ·simp only []
  split
  ·intro t ht; cases ht
  ·refine jscanF_text (fun c hc => ?_) _ _ _ (by simp)
   unfold Dev.bytes at hc
   split at hc
   ·cases hc
   ·obtain ⟨s, hs, hcs⟩ := List.mem_flatten.1 hc
    exact (hok.l s (List.mem_of_mem_drop (List.mem_of_mem_take hs))).2 c hcs
theorem dread_right {D : Dev} (hok : DevOk D) {i : Int} (h : (D.read i).1 = 0) : (D.read i).2.length = 64 ∧ ∀ c ∈ (D.read i).2, c < 256 := by
 unfold Dev.read at h ⊢
 split at h
 ·cases h
 ·rename_i h1
  rw [if_neg h1]
  split at h
  ·cases h
  ·rename_i h2
   rw [if_neg h2]
   exact ⟨sec_len hok (by omega), sec_byte hok (by omega)⟩
theorem vcheck_calls {w : World} {d : Nat} {F : List Nat} {D : Dev} (h : DevM w d F D) (fr n : Nat) (hf : fr ≤ 100000) (hn : n ≤ 90000) :
  Calls Tryz.prog 38 #[.pointer (some ⟨d, 0, none⟩), .int .i64 fr, .int .i64 n] w fun e w' => ∃ mv, e = .returned (.tuple #[.int .i64 (kvCheck D fr n).2.1, .map mv, .int .i64 (kvCheck D fr n).1]) ∧ Below w.heap.size w w' ∧
   (0 < (kvCheck D fr n).2.1 → ∃ b, mv = some b ∧ w.heap.size ≤ b ∧ KvM w' b (kvCheck D fr n).2.2 ∧ (kvCheck D fr n).2.2.length ≤ n) := by
 have HRD := dread_calls h (fr : Int); have hok := h.ok; obtain ⟨R, hR⟩ : ∃ R, kvCheck D fr n = R := ⟨_, rfl⟩; rw [hR]; unfold kvCheck at hR
 have hrt := fun e => dread_right hok (i := (fr : Int)) e
 obtain ⟨⟨e0, hd⟩, hq⟩ : ∃ x, D.read (fr : Int) = x := ⟨_, rfl⟩; rw [hq] at HRD hR hrt; simp only [] at hR hrt HRD; have HRD := hide HRD; have H := hd4 h hok hf hn; clear h hok hq hf hn
 go_enter Tryz.func38, Tryz.ntmps38
 go_wp2_with fail; refine HRD.out.mono ?_; rintro e w1 ⟨A1, c1, rfl, ho1, hb1⟩
 by_cases he : e0 = 0
 ·subst he
  rw [if_neg (by simp)] at hR; have hrt := hrt rfl; have HG' := vgen_calls w1 ho1.bt.rb hrt.2 (by omega) (by omega); rw [hrt.1] at HG'; have HG := hide HG'; have hgl : kvGen hd ≤ 1099511627776 := Rdr.num_le _; obtain ⟨g, hg⟩ : ∃ g, kvGen hd = g := ⟨_, rfl⟩; rw [hg] at HG hR hgl; have H1 := hide hb1; clear hrt ho1 hb1 hg HRD HG'; go_wp2_with fail; refine HG.out.mono ?_; rintro e w2 ⟨rfl, hb2⟩; have hb2' := belowA hb2 H1.out; have H2 := hide hb2'; clear hb2 hb2' HG
  by_cases hg1 : g < 1
  ·rw [if_pos hg1] at hR
   have HR := hide hR; clear hR
   have u1 : (g : Int) < 1 := by omega
   clear hg1; go_wp2
   go_ret3
   obtain rfl := HR.out
   exact ⟨none, rfl, H2.out, fun h => absurd h (by simp)⟩
  ·rw [if_neg hg1] at hR
   have u1 : ¬ (g : Int) < 1 := by omega
   have HSC := jscan_calls (H.out.1.below H2.out) fr n g H.out.2.2.1 (by have := H.out.2.2.2; omega) (by omega)
   have hbd := fun e => jscan_bound (D := D) H.out.2.1 (fr := fr) (many := n) (gen := g) e
   have htx := jscan_text (D := D) H.out.2.1 (fr := fr) (many := n) (gen := g); obtain ⟨⟨e3, recs, us⟩, hs⟩ : ∃ x, jscan D fr n g = x := ⟨_, rfl⟩; rw [hs] at HSC hR hbd htx; simp only [] at hR hbd htx HSC; have HSC := hide HSC; have HG1 := hide hg1; have HTX := hide htx; clear hs hg1 htx; go_wp2_with fail; refine HSC.out.mono ?_; rintro e w3 ⟨A3, c3, rfl, ho3, hb3⟩; have hb3' := belowA hb3 H2.out
   by_cases he3 : e3 = 0
   ·subst he3
    rw [if_neg (by simp)] at hR; have hbd := hbd rfl; have HRV := vreads_calls ho3 (fun t ht => ⟨Nat.le_trans (HTX.out t ht).1 (by omega), (HTX.out t ht).2⟩) (by have := H.out.2.2.2; omega); obtain ⟨V, hV⟩ : ∃ V, kvRead recs = V := ⟨_, rfl⟩; rw [hV] at HRV hR; have HRV := hide HRV; have H3 := hd2 hb3' (show recs.length ≤ n by omega); clear hb3 hb3' ho3 hbd hV HSC
    cases V with
    |none =>
     simp only [] at hR; have HR := hide hR; clear hR; go_wp2_with fail; refine HRV.out.mono ?_; rintro e w4 ⟨mv, rfl, hb4, _⟩; have H4 := hide (belowA hb4 H3.out.1); simp only [Option.isSome_none]; clear hb4 HRV; go_wp2
     go_ret3
     obtain rfl := HR.out
     exact ⟨none, rfl, H4.out, fun h => absurd h (by simp)⟩
    |some l =>
     simp only [] at hR; have HR := hide hR; clear hR; go_wp2_with fail; refine HRV.out.mono ?_; rintro e w4 ⟨mv, rfl, hb4, hkv⟩; obtain ⟨b, rfl, hbb, hkm, hll⟩ := hkv l rfl; have H4 := hd4 (belowA hb4 H3.out.1) (Nat.le_trans H3.out.1.size hbb) hkm (Nat.le_trans hll H3.out.2); simp only [Option.isSome_some]; clear hb4 HRV hkv hbb hkm hll; go_wp2
     go_ret3
     obtain rfl := HR.out
     exact ⟨some b, rfl, H4.out.1, fun _ => ⟨b, rfl, H4.out.2⟩⟩
   ·rw [if_pos (by simpa using he3)] at hR
    have HR := hide hR; clear hR
    have u3 : ((e3 : Int) != 0) = true := by simp; omega
    have H3 := hide hb3'; clear hb3 hb3' ho3 hbd he3 HSC; go_wp2
    go_ret3
    obtain rfl := HR.out
    exact ⟨none, rfl, H3.out, fun h => absurd h (by simp)⟩
 ·rw [if_pos (by simpa using he)] at hR
  have HR := hide hR; clear hR
  have u3 : ((e0 : Int) != 0) = true := by simp; omega
  have H1 := hide hb1; clear ho1 hb1 he hrt HRD; go_wp2
  go_ret3
  obtain rfl := HR.out
  exact ⟨none, rfl, H1.out, fun h => absurd h (by simp)⟩
end Go.Proofs.YtcahcjfgmdpdoaaGreat
