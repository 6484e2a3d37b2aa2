/- One text of: Vm2 Vm3 Vm4 Vm5. -/
import Derived.Deep.QuietTactic
import Derived.BigQuiet
import Derived.Test.YtcahcjfgmdpdoaaGreatClones
import Derived.Lib.SliceRun
import Derived.Carry
import Derived.Test.YtcahcjfgmdpdoaaGreatKeys
import Derived.Test.YtcahcjfgmdpdoaaGreatQVO
import Derived.Test.YtcahcjfgmdpdoaaGreatQRG
set_option maxHeartbeats 2000000
namespace Go.Proofs.YtcahcjfgmdpdoaaGreat
open Go.RowKit Go.Proofs Go.Maps
set_option linter.unusedVariables false
set_option linter.unusedSimpArgs false

theorem vwithin_calls (a b c : Int) (w : World) :
  Calls Tryz.prog 106 #[.int .i64 a, .int .i64 b, .int .i64 c] w fun e w' => e = .returned (.bool (within a b c)) ∧ w = w' := by
 go_enter Tryz.func106, Tryz.ntmps106
 go_wp2
 all_goals (go_ret; exact ⟨ret_bool (by unfold within; grind), rfl⟩)
theorem index_calls (A : Option Addr) (n c : Nat) (l : List Int) (s : Int) (w : World) (hn : l.length = n) (hnn : n ≤ 1099511627776) (h : Reads w w.heap.size 1 A n (l.map (Value.int .i64))) :
  Calls Tryz.prog 136 #[.slice A n c, .int .i64 s] w fun e w' => (∃ z : Int, e = .returned (.int .i64 z) ∧ decide (0 ≤ z) = l.contains s) ∧ ∃ q, w' = w.drewN q := by
 go_enter Tryz.func136, Tryz.ntmps136
 go_wp2
 go_loopw [5, 8] (fun _ i wr => ∃ k q : Nat, k ≤ n ∧ i = .int .i64 k ∧ wr = w.drewN q ∧ ∀ j (hj : j < l.length), j < k → l[j] ≠ s) (fun _ i _ => n - (intOf i).toNat)
 case atStart => exact ⟨0, 0, Nat.zero_le _, rfl, rfl, fun j _ hj => by omega⟩
 case round =>
  obtain ⟨k, q, hk, rfl, rfl, hno⟩ := hrel; have HNO := hide hno; clear hno
  by_cases hlt : k < n
  ·obtain ⟨b, o, rfl, _, hc⟩ := h.at_ (by omega)
   have hkx : k < l.length := by omega
   have g := hc k (.int .i64 l[k]) (by simp [hkx])
   have i1 : (k : Int) < n := by omega
   obtain ⟨x, hx⟩ : ∃ x, l[k] = x := ⟨_, rfl⟩; rw [hx] at g; have HX := hide hx; have HN := hide hn; have HH := hide h; clear hc hx h hn
   by_cases hs : s = x
   ·have hs' : (s == x) = true := by simp [hs]
    have HS := hide hs; clear hs; go_wp2; go_ret
    refine ⟨⟨k, rfl, ?_⟩, q, rfl⟩
    have hm : s ∈ l := by rw [HS.out, ← HX.out]; exact List.getElem_mem _
    simp [hm]
   ·have hs' : (s == x) = false := by simp [hs]
    have HS := hide hs; clear hs; go_wp2
    go_roundw
    case rel =>
     refine ⟨k + 1, q, by omega, by go_num, rfl, fun j hj hjk => ?_⟩
     rcases Nat.lt_or_ge j k with h1 | h1
     ·exact HNO.out j hj h1
     ·obtain rfl : j = k := by omega
      rw [HX.out]
      exact fun e => HS.out e.symm
    case measure => simp [intOf]; omega
  ·have e : k = n := by omega
   subst e; have HN := hide hn; clear hn h; go_wp2; go_ret
   refine ⟨⟨-1, rfl, ?_⟩, q, rfl⟩
   have hm : s ∉ l := fun hs => by
    obtain ⟨j, hj, e⟩ := List.getElem_of_mem hs
    exact HNO.out j hj (by rw [← HN.out]; exact hj) e
   simp [hm]
theorem contains_calls (A : Option Addr) (n c : Nat) (l : List Int) (s : Int) (w : World) (hn : l.length = n) (hnn : n ≤ 1099511627776) (h : Reads w w.heap.size 1 A n (l.map (Value.int .i64))) :
  Calls Tryz.prog 94 #[.slice A n c, .int .i64 s] w fun e w' => e = .returned (.bool (l.contains s)) ∧ ∃ q, w' = w.drewN q := by
 have H := hide (index_calls A n c l s w hn hnn h); clear hn h
 go_enter Tryz.func94, Tryz.ntmps94
 go_wp2_with fail; refine H.out.mono ?_; rintro e w' ⟨⟨z, rfl, hz⟩, q, rfl⟩; have HZ := hide hz; clear hz; go_wp2; go_ret
 exact ⟨ret_bool (by rw [← HZ.out]), q, rfl⟩
theorem indexF_calls (A : Option Addr) (n c : Nat) (l : List Int) (g : Nat) (lb : Array Value) (p : Int → Bool) (w : World) (eg : ∀ args w, (callFunc g args).run Tryz.prog w = .ok (.enter g args) w) (hn : l.length = n) (hnn : n ≤ 1099511627776)
  (h : Reads w w.heap.size 1 A n (l.map (Value.int .i64))) (hp : ∀ x ∈ l, ∀ W, Below w.heap.size w W → Calls Tryz.prog g (#[.int .i64 x] ++ lb) W fun e w' => e = .returned (.bool (p x)) ∧ Below w.heap.size w w') :
  Calls Tryz.prog 147 #[.slice A n c, .func (.func g) #[] lb] w fun e w' => (∃ z : Int, e = .returned (.int .i64 z) ∧ decide (0 ≤ z) = l.any p ∧ (z = -1 ∨ 0 ≤ z)) ∧ Below w.heap.size w w' := by
 have HP := hide hp; clear hp
 go_enter Tryz.func147, Tryz.ntmps147
 go_wp2
 go_loopw [5, 8] (fun _ i wr => ∃ k : Nat, k ≤ n ∧ i = .int .i64 k ∧ Below w.heap.size w wr ∧ ∀ j (hj : j < l.length), j < k → p l[j] = false) (fun _ i _ => n - (intOf i).toNat)
 case atStart => exact ⟨0, Nat.zero_le _, rfl, Below.refl _ _, fun j _ hj => by omega⟩
 case round =>
  obtain ⟨k, hk, rfl, hb, hno⟩ := hrel; have HNO := hide hno; clear hno
  by_cases hlt : k < n
  ·obtain ⟨b, o, rfl, hB, hc⟩ := h.at_ (by omega)
   have hkx : k < l.length := by omega
   have g0 : wr.cell? ⟨b, o + k, none⟩ = some (.int .i64 l[k]) := (hb.cell (p := ⟨b, o + k, none⟩) hB).trans (hc k (.int .i64 l[k]) (by simp [hkx]))
   have i1 : (k : Int) < n := by omega
   have HC := HP.out l[k] (List.getElem_mem _) wr hb; obtain ⟨x, hx⟩ : ∃ x, l[k] = x := ⟨_, rfl⟩; rw [hx] at g0 HC; have HX := hide hx; have HN := hide hn; have HH := hide h; have HCC := hide HC; clear hc hx h hn HC; go_wp2_with fail
   go_at_fn g
   refine HCC.out.mono ?_; rintro e w1 ⟨rfl, hb1⟩
   cases hq : p x with
   |true =>
    have HQ := hide hq; clear hq; go_wp2; go_ret
    refine ⟨⟨k, rfl, ?_, Or.inr (by omega)⟩, hb1⟩
    have hm : l.any p = true := List.any_eq_true.2 ⟨x, by rw [← HX.out]; exact List.getElem_mem _, HQ.out⟩
    simp [hm]
   |false =>
    have HQ := hide hq; clear hq; go_wp2
    go_roundw
    case rel =>
     refine ⟨k + 1, by omega, by go_num, hb1, fun j hj hjk => ?_⟩
     rcases Nat.lt_or_ge j k with h1 | h1
     ·exact HNO.out j hj h1
     ·obtain rfl : j = k := by omega
      rw [HX.out]
      exact HQ.out
    case measure => simp [intOf]; omega
  ·have e : k = n := by omega
   subst e; have HN := hide hn; clear hn h; go_wp2; go_ret
   refine ⟨⟨-1, rfl, ?_, Or.inl rfl⟩, hb⟩
   have hm : l.any p = false := by
    rw [List.any_eq_false]
    intro x hx
    obtain ⟨j, hj, e⟩ := List.getElem_of_mem hx; rw [← e, HNO.out j hj (by rw [← HN.out]; exact hj)]
    simp
   simp [hm]
theorem containsF_calls (A : Option Addr) (n c : Nat) (l : List Int) (g : Nat) (lb : Array Value) (p : Int → Bool) (w : World) (eg : ∀ args w, (callFunc g args).run Tryz.prog w = .ok (.enter g args) w) (hn : l.length = n) (hnn : n ≤ 1099511627776)
  (h : Reads w w.heap.size 1 A n (l.map (Value.int .i64))) (hp : ∀ x ∈ l, ∀ W, Below w.heap.size w W → Calls Tryz.prog g (#[.int .i64 x] ++ lb) W fun e w' => e = .returned (.bool (p x)) ∧ Below w.heap.size w w') :
  Calls Tryz.prog 115 #[.slice A n c, .func (.func g) #[] lb] w fun e w' => e = .returned (.bool (l.any p)) ∧ Below w.heap.size w w' := by
 have H := hide (indexF_calls A n c l g lb p w eg hn hnn h hp); clear hn h hp
 go_enter Tryz.func115, Tryz.ntmps115
 go_wp2_with fail; refine H.out.mono ?_; rintro e w' ⟨⟨z, rfl, hz, _⟩, hb⟩; have HZ := hide hz; clear hz; go_wp2; go_ret
 exact ⟨ret_bool (by rw [← HZ.out]), hb⟩
theorem vhas_calls (x : CkM) (s : Int) (no : List Nat) (w : World) (h1 : Sl w no x.A x.c x.k.me) (h2 : Sl w no x.B x.d x.k.jo) :
  Calls Tryz.prog 109 #[x.val, .int .i64 s] w fun e w' => e = .returned (.bool (x.k.has s)) ∧ Below w.heap.size w w' := by
 obtain ⟨⟨id, vol, ep, me, jo⟩, A, c, B, d⟩ := x; have hb0 := (Below.refl w.heap.size w).alloc (Nat.le_refl _) (.cells #[.int .i64 id, .int .i64 vol, .int .i64 ep, .slice A me.length c, .slice B jo.length d] 90); obtain ⟨w0, hw0⟩ : ∃ w0, w.alloc (.cells #[.int .i64 id, .int .i64 vol, .int .i64 ep, .slice A me.length c, .slice B jo.length d] 90) = w0 := ⟨_, rfl⟩
 have hc3 : w0.cell? ⟨w.heap.size, 3, none⟩ = some (.slice A me.length c) := by rw [← hw0]; exact (Blk.new (cs := [.int .i64 id, .int .i64 vol, .int .i64 ep, .slice A me.length c, .slice B jo.length d]) rfl).cell 3
 have hc4 : ∀ q, (w0.drewN q).cell? ⟨w.heap.size, 4, none⟩ = some (.slice B jo.length d) := fun q => by rw [← hw0]; exact (Blk.new (cs := [.int .i64 id, .int .i64 vol, .int .i64 ep, .slice A me.length c, .slice B jo.length d]) rfl).cell 4
 have H1 := hide (contains_calls A me.length c me s w0 rfl (by have := h1.ln; simp at this; omega) (hw0 ▸ (h1.below hb0).rd)); have H2 := hide (fun q => contains_calls B jo.length d jo s (w0.drewN q) rfl (by have := h2.ln; simp at this; omega) (hw0 ▸ (h2.below hb0).rd)); rw [hw0] at hb0; unfold CkM.val CkM.cells; clear h1 h2
 go_enter Tryz.func109, Tryz.ntmps109
 go_wp2_with fail; have HW := hide hw0; clear hw0; refine H1.out.mono ?_; rintro e w1 ⟨rfl, q, rfl⟩
 cases hm : me.contains s with
 |true =>
  have HM := hide hm; clear hm; go_wp2; go_ret
  exact ⟨ret_bool (by unfold Ck.has; rw [HM.out]; rfl), below_drewN hb0 _⟩
 |false =>
  have HM := hide hm; clear hm; go_wp2_with fail
  refine (H2.out q).mono ?_
  rintro e w1 ⟨rfl, q2, rfl⟩; go_wp2; go_ret
  exact ⟨ret_bool (by unfold Ck.has; rw [HM.out]; simp), below_drewN hb0 _⟩

theorem Tryz.infoI3 : (Tryz.prog.info? 3).map (fun i => (i.zero, i.size, i.bytes)) = some (some (.int .i64 0), 1, 8) := by kernel_rfl
theorem cloneI_nil (n c : Nat) (w : World) : Calls Tryz.prog 36 #[.slice none n c] w fun e w' => e = .returned (.slice none 0 0) ∧ w = w' := by
 have q22 : ∀ (w : World) (a : Option Addr) (n c n' c' : Nat), (binOp .eql 28 (.slice a n c) (.slice none n' c')).run Tryz.prog w = .ok (.bool a.isNone) w := fun w a n c n' c' => Lib.run_eql_slice_nil w _ _ a n c n' c' Tryz.underlying28
 go_enter Tryz.func36, Tryz.ntmps36
 go_wp2; go_ret
 exact ⟨rfl, rfl⟩
theorem cloneI_some (b o n c : Nat) (xs : List Value) (w : World) (hl : xs.length = n * 1) (hn : n ≤ 1048576) (hc : ∀ j u, xs[j]? = some u → w.cell? ⟨b, o + j, none⟩ = some u) (h1 : ∀ u ∈ xs, u.oneCell' = true) :
  Calls Tryz.prog 36 #[.slice (some ⟨b, o, none⟩) n c] w fun e w' => ∃ v, e = .returned v ∧ w'.ownsRow 0 3 1 v n xs ∧ (∀ g, v.ownBlock = some g → w.heap.size ≤ g) ∧ Below w.heap.size w w' := by
 have q22 : ∀ (w : World) (a : Option Addr) (n c n' c' : Nat), (binOp .eql 28 (.slice a n c) (.slice none n' c')).run Tryz.prog w = .ok (.bool a.isNone) w := fun w a n c n' c' => Lib.run_eql_slice_nil w _ _ a n c n' c' Tryz.underlying28
 obtain ⟨i0, hi, hz0, hz1, hz2⟩ := info_parts Tryz.infoI3; have HC := hide hc; clear hc
 go_enter Tryz.func36, Tryz.ntmps36
 go_wp2_with (at_builtin; refine wpList_append_own _ rfl _ _ 28 rfl w.heap.size 3 i0 _ 1 8 Tryz.underlying28 hi hz0 hz1 hz2 rfl (by decide) _ _ _ rfl (World.ownsRow_made w #[] 0 (Nat.le_refl _) (Nat.zero_le _) (by simp)) ⟨b, o, none⟩ n c xs rfl ?qc1 ?qc2 ?qc3 ?qc4 ?qc5 ?qc6 ?_)
 case qc1 => exact hl
 case qc2 =>
  intro j u hj
  rw [add_addr]
  exact Lib.cell?_alloc_some _ (HC.out j u hj)
 case qc3 => exact h1
 case qc4 => unfold maxLen; omega
 case qc5 => omega
 case qc6 => simp
 intro v' w1 hown hgrow hnil
 have hlt := hown.lt; go_wp2; go_ret
 exact ⟨v', rfl, by simpa using own_base hown, fun g hg => (hlt g hg).1, ((Below.refl _ w).alloc (Nat.le_refl _) _).grown hgrow (by simp) (by intro k hk; simp [Value.ownBlock] at hk; omega)⟩
def OwnI (w w' : World) (A : Option Addr) (c : Nat) (l : List Int) : Prop :=
 w'.ownsRow 0 3 1 (.slice A l.length c) l.length (l.map (Value.int .i64)) ∧ ∀ g, A.map Addr.block = some g → w.heap.size ≤ g
theorem OwnI.sl {w w' : World} {A : Option Addr} {c : Nat} {l : List Int} {no : List Nat} (h : OwnI w w' A c l) (hl : l.length ≤ 1024) (hn : ∀ x ∈ no, x < w.heap.size) : Sl w' no A c l := Sl.own h.1 rfl hl h.2 hn
theorem OwnI.below {w w' w'' : World} {A : Option Addr} {c : Nat} {l : List Int} (h : OwnI w w' A c l) (hb : Below w'.heap.size w' w'') : OwnI w w'' A c l :=
 ⟨own_chg h.1 (Chg.of_below (L := []) hb) (fun _ _ hx => by cases hx), h.2⟩
theorem OwnI.back {w w0 w' : World} {A : Option Addr} {c : Nat} {l : List Int} (h : OwnI w0 w' A c l) (hb : Below w.heap.size w w0) : OwnI w w' A c l := ⟨h.1, fun g hg => Nat.le_trans hb.size (h.2 g hg)⟩
theorem cloneI_calls (A : Option Addr) (n c : Nat) (l : List Int) (no : List Nat) (w : World) (hn : l.length = n) (h : Sl w no A c l) :
  Calls Tryz.prog 36 #[.slice A n c] w fun e w' => ∃ A' c', e = .returned (.slice A' n c') ∧ OwnI w w' A' c' l ∧ Below w.heap.size w w' := by
 subst hn
 cases A with
 |none =>
  have h0 : l = [] := by
   rcases Nat.eq_zero_or_pos l.length with h0 | h0
   ·exact List.eq_nil_of_length_eq_zero h0
   ·obtain ⟨b, o, h, _⟩ := h.rd.2 h0
    cases h
  subst h0
  refine (cloneI_nil 0 c w).mono fun e w' ⟨he, hw⟩ => ?_
  subst hw
  exact ⟨none, 0, he, ⟨⟨rfl, Or.inl ⟨rfl, rfl⟩⟩, fun g hg => by cases hg⟩, Below.refl _ _⟩
 |some a =>
  obtain ⟨b, o, s⟩ := a; obtain rfl : s = none := (h.ap _ rfl).1
  refine (cloneI_some b o l.length c (l.map (Value.int .i64)) w h.rd.1 (by have := h.ln; omega) (fun j u hu => ?_) (by simp; intro x _; rfl)).mono fun e w' ⟨v, he, hown, hg, hb⟩ => ?_
  ·have h0 : 0 < l.length := by have := (List.getElem?_eq_some_iff.1 hu).1; simp at this; omega
   obtain ⟨b', o', e, _, h⟩ := h.rd.2 h0
   cases e
   exact h j u hu
  ·obtain ⟨A', c', rfl, _⟩ := own_view hown
   exact ⟨A', c', he, ⟨hown, fun g h => hg g (by rw [owS]; exact h)⟩, hb⟩
theorem GM.clone {ρ : Shelf.Ren} (L : SlLaysW.n5 Tryz.prog ρ) {w : World} {b c : Nat} {f : Int → Option Value} (h : GM w b c f) :
  Calls Tryz.prog (ρ.f 5) #[.map (some b)] w fun e w' => e = .returned (.map (some w.heap.size)) ∧ GM w' w.heap.size c f ∧ Below w.heap.size w w' ∧ w.heap.size < w'.heap.size := by
 obtain ⟨D, ho, h2⟩ := h
 refine (AnyW.maps_Clone_owns L _ _ _ _ _ _ ho).mono fun e w' ⟨he, h3, _, h5⟩ => ⟨he, ⟨D, h3, h2⟩, h5, h3.lt⟩
section
variable {α : Type} {key : α → Int} {val : α → Value} {w : World} {b : Nat} {L : List α} {mt et : TypeId}
theorem Tab.clone {ρ : Shelf.Ren} (La : SlLaysW.n5 Tryz.prog ρ) (h : Tab key val w b L) :
  Calls Tryz.prog (ρ.f 5) #[.map (some b)] w fun e w' => e = .returned (.map (some w.heap.size)) ∧ Tab key val w' w.heap.size L ∧ Below w.heap.size w w' ∧ w.heap.size < w'.heap.size :=
 (GM.clone La h.gm).mono fun e w' ⟨he, h1, h2, h3⟩ => ⟨he, ⟨h1, h.rise, h.ok⟩, h2, h3⟩
theorem Tab.wp_put {o : Oper} {a : Act} {K : Act → World → Prop} {Q : Exit → Act → World → Prop} (m k v : Operand) (x : α) (ho : o.op = Op.mapUpdate mt m k v) (hm : Tryz.prog.underlying mt = some (.map 3 et))
  (em : a.eval m = .map (some b)) (ek : a.eval k = .int .i64 (key x)) (ev : a.eval v = val x) (h : Tab key val w b L) (hx : i64ok (key x)) (hn : L.length < 1000000)
  (hK : ∀ w', Tab key val w' b (ins key x L) → Chg [b] w w' → K (a.put o.dst undef) w') : o.wp Tryz.prog a w K Q := by
 obtain ⟨w', hrun, h1, h2⟩ := h.put x hx hm hn; unfold Oper.wp
 simp [execOp, ho, em, ek, ev, hrun, Result.andThen]
 exact hK _ h1 h2
end
theorem vnew_calls (w : World) : Calls Tryz.prog 42 #[] w fun e w' => ∃ no b m1 m2 m3, e = .returned (.pointer (some ⟨b, 0, none⟩)) ∧ VM w' no b m1 m2 m3 ⟨[], [], [], 1⟩ [] [] ∧ Below w.heap.size w w' ∧ ∀ x ∈ no, w.heap.size ≤ x := by
 have hmm := @run_makeMap Tryz.prog
 go_enter Tryz.func42, Tryz.ntmps42
 go_wp2; go_ret; have b1 := (Below.refl w.heap.size w).alloc (Nat.le_refl _) (.map #[] 0); have b2 := b1.alloc b1.size (.map #[] 0); have b3 := b2.alloc b2.size (.map #[] 0); have b4 := b3.alloc b3.size (.cells #[.map (some w.heap.size), .map (some (w.heap.size + 1)), .map (some (w.heap.size + 2)), .int .i64 1] 76); have t1 := Tab.made (key := Prod.fst) (val := svVal) w; have t2 := Tab.made (key := VoM.key) (val := VoM.val) (w.alloc (.map #[] 0)); have t3 := Tab.made (key := CkM.key) (val := CkM.val) ((w.alloc (.map #[] 0)).alloc (.map #[] 0))
 have q : ∀ (w : World) (o : Obj), Below w.heap.size w (w.alloc o) := fun w o => (Below.refl _ _).alloc (Nat.le_refl _) _
 refine ⟨[w.heap.size + 3, w.heap.size, w.heap.size + 1, w.heap.size + 2], w.heap.size + 3, w.heap.size, w.heap.size + 1, w.heap.size + 2, by simp, ⟨?_, ?_, ?_, ?_, rfl, rfl, by simp, by simp, by simp, by simp, by simp, by simp, by simp; omega, by omega⟩, b4, by simp⟩
 ·exact Blk.new (by simp)
 ·exact ((t1.below (q _ _)).below (q _ _)).below (q _ _)
 ·simpa using (t2.below (q _ _)).below (q _ _)
 ·simpa using t3.below (q _ _)

theorem vclone_calls (w : World) (no : List Nat) (b m1 m2 m3 : Nat) (S : Vst) (V : List VoM) (C : List CkM) (h : VM w no b m1 m2 m3 S V C) :
    Calls Tryz.prog 26 #[.pointer (some ⟨b, 0, none⟩)] w fun e w' => ∃ nb n1 n2 n3, e = .returned (.pointer (some ⟨nb, 0, none⟩)) ∧ VM w' (nb :: n1 :: n2 :: n3 :: no) nb n1 n2 n3 S V C ∧ Below w.heap.size w w' ∧
      w.heap.size ≤ nb ∧ w.heap.size ≤ n1 ∧ w.heap.size ≤ n2 ∧ w.heap.size ≤ n3 := by
  have c0 := h.blk.rule 0 _ rfl; have c1 := h.blk.rule 1 _ rfl; have c2 := h.blk.rule 2 _ rfl; have c3 := h.blk.rule 3 _ rfl; have r0 := Below.refl w.heap.size w
  have k1 : ∀ w', Below w.heap.size w w' → Calls Tryz.prog 65 #[.map (some m1)] w' fun e w'' => e = .returned (.map (some w'.heap.size)) ∧ Tab Prod.fst svVal w'' w'.heap.size S.sv ∧ Below w'.heap.size w' w'' ∧ w'.heap.size < w''.heap.size := fun w' hb => Tab.clone YtcahcjfgmdpdoaaGreat.cloneInt (h.t1.below hb)
  have k2 : ∀ w', Below w.heap.size w w' → Calls Tryz.prog 66 #[.map (some m2)] w' fun e w'' => e = .returned (.map (some w'.heap.size)) ∧ Tab VoM.key VoM.val w'' w'.heap.size V ∧ Below w'.heap.size w' w'' ∧ w'.heap.size < w''.heap.size := fun w' hb => Tab.clone YtcahcjfgmdpdoaaGreat.cloneVolume (h.t2.below hb)
  have k3 : ∀ w', Below w.heap.size w w' → Calls Tryz.prog 67 #[.map (some m3)] w' fun e w'' => e = .returned (.map (some w'.heap.size)) ∧ Tab CkM.key CkM.val w'' w'.heap.size C ∧ Below w'.heap.size w' w'' ∧ w'.heap.size < w''.heap.size := fun w' hb => Tab.clone YtcahcjfgmdpdoaaGreat.cloneChunk (h.t3.below hb)
  have HK1 := hide k1; have HK2 := hide k2; have HK3 := hide k3; have H := hide h; clear k1 k2 k3 h
  go_enter Tryz.func26, Tryz.ntmps26
  go_wp2_with fail
  refine region_lxf (fun w' => Below w.heap.size w w') [] 0 [(2,0),(2,1),(2,2),(0,3),(2,5),(2,6),(2,7),(0,8),(2,10),(2,11),(2,12),(0,13),(2,15),(2,16),(2,17),(0,18),(1,4),(1,9),(1,14),(2,19),(1,20),(2,21)] (bzA 22 4194303) (by (first | exact r0.drew | assumption | exact B3.alloc B3.size _)) (fun hS0 => ?_)
  (iterate 16 (first | refine lxt ?_ | refine lxp ?_))
  (refine lxe ?_; go_simp; (first
            | (go_at_call 65; refine (HK1.out _ (by assumption)).mono ?_; rintro e w1 ⟨rfl, t1, hb1, hl1⟩; have B1 : Below w.heap.size w w1 := r0.drew.trans (hb1.mono r0.drew.size); have T1 := hd3 t1 hl1 hb1; clear t1 hb1 hl1)
            | (go_at_call 66; refine (HK2.out _ (by assumption)).mono ?_; rintro e w2 ⟨rfl, t2, hb2, hl2⟩; have B2 : Below w.heap.size w w2 := B1.trans (hb2.mono B1.size); have T2 := hd3 t2 hl2 hb2; clear t2 hb2 hl2)
            | (go_at_call 67; refine (HK3.out _ (by assumption)).mono ?_; rintro e w3 ⟨rfl, t3, hb3, hl3⟩; have B3 : Below w.heap.size w w3 := B2.trans (hb3.mono B2.size); have T3 := hd3 t3 hl3 hb3; clear t3 hb3 hl3)); refine lxB (by (first | exact r0.drew | assumption | exact B3.alloc B3.size _)) (fun hS1 => ?_))
  (refine lxe ?_; go_simp; (first
            | (go_at_call 65; refine (HK1.out _ (by assumption)).mono ?_; rintro e w1 ⟨rfl, t1, hb1, hl1⟩; have B1 : Below w.heap.size w w1 := r0.drew.trans (hb1.mono r0.drew.size); have T1 := hd3 t1 hl1 hb1; clear t1 hb1 hl1)
            | (go_at_call 66; refine (HK2.out _ (by assumption)).mono ?_; rintro e w2 ⟨rfl, t2, hb2, hl2⟩; have B2 : Below w.heap.size w w2 := B1.trans (hb2.mono B1.size); have T2 := hd3 t2 hl2 hb2; clear t2 hb2 hl2)
            | (go_at_call 67; refine (HK3.out _ (by assumption)).mono ?_; rintro e w3 ⟨rfl, t3, hb3, hl3⟩; have B3 : Below w.heap.size w w3 := B2.trans (hb3.mono B2.size); have T3 := hd3 t3 hl3 hb3; clear t3 hb3 hl3)); refine lxB (by (first | exact r0.drew | assumption | exact B3.alloc B3.size _)) (fun hS1 => ?_))
  (refine lxe ?_; go_simp; (first
            | (go_at_call 65; refine (HK1.out _ (by assumption)).mono ?_; rintro e w1 ⟨rfl, t1, hb1, hl1⟩; have B1 : Below w.heap.size w w1 := r0.drew.trans (hb1.mono r0.drew.size); have T1 := hd3 t1 hl1 hb1; clear t1 hb1 hl1)
            | (go_at_call 66; refine (HK2.out _ (by assumption)).mono ?_; rintro e w2 ⟨rfl, t2, hb2, hl2⟩; have B2 : Below w.heap.size w w2 := B1.trans (hb2.mono B1.size); have T2 := hd3 t2 hl2 hb2; clear t2 hb2 hl2)
            | (go_at_call 67; refine (HK3.out _ (by assumption)).mono ?_; rintro e w3 ⟨rfl, t3, hb3, hl3⟩; have B3 : Below w.heap.size w w3 := B2.trans (hb3.mono B2.size); have T3 := hd3 t3 hl3 hb3; clear t3 hb3 hl3)); refine lxB (by (first | exact r0.drew | assumption | exact B3.alloc B3.size _)) (fun hS1 => ?_))
  refine lxp ?_
  (refine lxe ?_; go_simp; refine lxB (by (first | exact r0.drew | assumption | exact B3.alloc B3.size _)) (fun hS1 => ?_))
  refine lxp ?_
  refine lxN (lxd ?_)
  go_wp2; go_ret; have B4 := B3.alloc B3.size (.cells #[.map (some w.heap.size), .map (some w1.heap.size), .map (some w2.heap.size), .int .i64 S.nx] 76); have q1 : w.heap.size < w1.heap.size := T1.out.2.1; have q2 := T2.out.2.1; have q3 := T3.out.2.1; have H4 := H.out.below B4
  have qa : ∀ (w : World) (o : Obj), Below w.heap.size w (w.alloc o) := fun w o => (Below.refl _ _).alloc (Nat.le_refl _) _
  have hpl : ∀ x ∈ w3.heap.size :: w.heap.size :: w1.heap.size :: w2.heap.size :: no, x ∈ no ∨ w.heap.size ≤ x := by
    intro x hx
    simp at hx
    rcases hx with rfl | rfl | rfl | rfl | hx
    · exact Or.inr (by omega)
    · exact Or.inr (by omega)
    · exact Or.inr (by omega)
    · exact Or.inr (by omega)
    · exact Or.inl hx
  refine ⟨w3.heap.size, w.heap.size, w1.heap.size, w2.heap.size, rfl, ⟨Blk.new rfl, ?_, ?_, ?_, H4.eV, H4.eC, ?_, ?_, by simp, by simp, by simp, by simp, ?_, by omega⟩, B4, by omega, by omega, by omega, by omega⟩
  · exact ((T1.out.1.below T2.out.2.2).below T3.out.2.2).below (qa _ _)
  · exact (T2.out.1.below T3.out.2.2).below (qa _ _)
  · exact T3.out.1.below (qa _ _)
  · exact fun x hx => ((H.out.sV x hx).plus hpl).below B4
  · exact fun x hx => ⟨((H.out.sC x hx).1.plus hpl).below B4, ((H.out.sC x hx).2.plus hpl).below B4⟩
  · intro x hx
    simp at hx ⊢
    rcases hx with rfl | rfl | rfl | rfl | hx
    · omega
    · omega
    · omega
    · omega
    · have := H.out.lt x hx
      omega
section
variable {w : World} {no : List Nat} {b m1 m2 m3 : Nat} {S : Vst} {V : List VoM} {C : List CkM}
theorem VM.lookV (h : VM w no b m1 m2 m3 S V C) {id : Int} (hid : i64ok id) : ∃ y : VoM,
  (∀ w', Below w.heap.size w w' → (Instr.lookup 73 (.map (some m2)) (.int .i64 id) true).run Tryz.prog w' = .ok (.tuple #[y.val, .bool (fd Vo.id S.vs id).isSome]) w') ∧
  (∀ w', Below w.heap.size w w' → (Instr.lookup 73 (.map (some m2)) (.int .i64 id) false).run Tryz.prog w' = .ok y.val w') ∧
  ((fd VoM.key V id = some y ∧ fd Vo.id S.vs id = some y.v) ∨ (fd VoM.key V id = none ∧ fd Vo.id S.vs id = none ∧ y = zVo)) ∧ Sl w no y.A y.c y.v.ch := by
 have hz := Tryz.zeroValue46; have e := h.fdV id
 cases hf : fd VoM.key V id with
 |some y =>
  rw [hf] at e
  refine ⟨y, fun w' hb => ?_, fun w' hb => ?_, Or.inl ⟨rfl, e⟩, h.sV y (fd_some hf).1⟩
  ·have := (h.t2.below hb).look_ok hid Tryz.underlying73 (hz w')
   rw [hf] at this; rw [e]
   exact this
  ·have := (h.t2.below hb).look hid Tryz.underlying73 (hz w')
   rw [hf] at this
   exact this
 |none =>
  rw [hf] at e
  refine ⟨zVo, fun w' hb => ?_, fun w' hb => ?_, Or.inr ⟨rfl, e, rfl⟩, Sl.nil _ _ _⟩
  ·have := (h.t2.below hb).look_ok hid Tryz.underlying73 (hz w')
   rw [hf] at this; rw [e]
   exact this
  ·have := (h.t2.below hb).look hid Tryz.underlying73 (hz w')
   rw [hf] at this
   exact this
theorem VM.lookC (h : VM w no b m1 m2 m3 S V C) {id : Int} (hid : i64ok id) : ∃ y : CkM,
  (∀ w', Below w.heap.size w w' → (Instr.lookup 74 (.map (some m3)) (.int .i64 id) true).run Tryz.prog w' = .ok (.tuple #[y.val, .bool (fd Ck.id S.cs id).isSome]) w') ∧
  (∀ w', Below w.heap.size w w' → (Instr.lookup 74 (.map (some m3)) (.int .i64 id) false).run Tryz.prog w' = .ok y.val w') ∧
  ((fd CkM.key C id = some y ∧ fd Ck.id S.cs id = some y.k) ∨ (fd CkM.key C id = none ∧ fd Ck.id S.cs id = none ∧ y = zCk)) ∧ Sl w no y.A y.c y.k.me ∧ Sl w no y.B y.d y.k.jo := by
 have hz := Tryz.zeroValue90; have e := h.fdC id
 cases hf : fd CkM.key C id with
 |some y =>
  rw [hf] at e
  refine ⟨y, fun w' hb => ?_, fun w' hb => ?_, Or.inl ⟨rfl, e⟩, h.sC y (fd_some hf).1⟩
  ·have := (h.t3.below hb).look_ok hid Tryz.underlying74 (hz w')
   rw [hf] at this; rw [e]
   exact this
  ·have := (h.t3.below hb).look hid Tryz.underlying74 (hz w')
   rw [hf] at this
   exact this
 |none =>
  rw [hf] at e
  refine ⟨zCk, fun w' hb => ?_, fun w' hb => ?_, Or.inr ⟨rfl, e, rfl⟩, Sl.nil _ _ _, Sl.nil _ _ _⟩
  ·have := (h.t3.below hb).look_ok hid Tryz.underlying74 (hz w')
   rw [hf] at this; rw [e]
   exact this
  ·have := (h.t3.below hb).look hid Tryz.underlying74 (hz w')
   rw [hf] at this
   exact this
end
def VolOut (w w' : World) (e : Ending) (f : Option Vo) : Prop :=
 ∃ y : VoM, e = .returned (.tuple #[y.val, .bool f.isSome]) ∧ (f = some y.v ∨ (f = none ∧ y.v = zVo.v)) ∧ OwnI w w' y.A y.c y.v.ch ∧ y.v.ch.length ≤ 1024 ∧ Below w.heap.size w w'
theorem vvolume_calls (w : World) (no : List Nat) (b m1 m2 m3 : Nat) (S : Vst) (V : List VoM) (C : List CkM) (id : Int) (h : VM w no b m1 m2 m3 S V C) (hid : i64ok id) :
  Calls Tryz.prog 14 #[.pointer (some ⟨b, 0, none⟩), .int .i64 id] w fun e w' => VolOut w w' e (fd Vo.id S.vs id) := by
 obtain ⟨y, l1, _, hy, hsl⟩ := h.lookV hid; have hy2 : fd Vo.id S.vs id = some y.v ∨ (fd Vo.id S.vs id = none ∧ y.v = zVo.v) := hy.imp And.right (fun h => ⟨h.2.1, by rw [h.2.2]⟩); have HY := hide hy2; have HS := hide hsl; obtain ⟨⟨i, bl, ⟨pr, pw, pl, pb⟩, ver, ch⟩, A, c⟩ := y; unfold VoM.val VoM.cells at l1; simp only [] at l1; obtain ⟨w0, hw0⟩ : ∃ w0, w.alloc (.cells #[.int .i64 0, .int .i64 0, .int .i64 0, .int .i64 0, .int .i64 0, .int .i64 0, .int .i64 0, .slice none 0 0] 46) = w0 := ⟨_, rfl⟩
 have hb0 : Below w.heap.size w w0 := hw0 ▸ (Below.refl w.heap.size w).alloc (Nat.le_refl _) _
 have c1 := h.blk.rule 1 _ rfl w0 hb0; have l2 := l1 w0 hb0
 have hs0 : w0.heap.size = w.heap.size + 1 := by rw [← hw0]; simp
 have hq0 : w0.heap[w.heap.size]? = some (.cells #[.int .i64 0, .int .i64 0, .int .i64 0, .int .i64 0, .int .i64 0, .int .i64 0, .int .i64 0, .slice none 0 0] 46 (0, 0)) := by rw [← hw0]; exact heap_alloc_new w _
 clear hy hy2 hsl h l1
 go_enter Tryz.func14, Tryz.ntmps14
 go_wp2_with fail; have hb1 := hb0.alloc hb0.size (.cells #[.int .i64 i, .int .i64 bl, .int .i64 pr, .int .i64 pw, .int .i64 pl, .int .i64 pb, .int .i64 ver, .slice A ch.length c] 46); have hbl := Blk.new (w := w0) (b := w.heap.size + 1) (cs := [.int .i64 i, .int .i64 bl, .int .i64 pr, .int .i64 pw, .int .i64 pl, .int .i64 pb, .int .i64 ver, .slice A ch.length c]) (t := 46) hs0; have hbr : Blk (w0.alloc (.cells #[.int .i64 i, .int .i64 bl, .int .i64 pr, .int .i64 pw, .int .i64 pl, .int .i64 pb, .int .i64 ver, .slice A ch.length c] 46)) w.heap.size 46 [.int .i64 0, .int .i64 0, .int .i64 0, .int .i64 0, .int .i64 0, .int .i64 0, .int .i64 0, .slice none 0 0] := Blk.alloc hq0 _
 refine (cloneI_calls A _ c ch no _ rfl (HS.out.below hb1)).mono ?_
 rintro e w2 ⟨A2, c2, rfl, ho, hb2⟩; have hbl2 := hbl.below hb2; have hbr2 := hbr.below hb2; have e0 := hbl2.cell 0; have e1 := hbl2.cell 1; have e2 := hbl2.cell 2; have e3 := hbl2.cell 3; have e4 := hbl2.cell 4; have e5 := hbl2.cell 5; have e6 := hbl2.cell 6; have e7 := hbl2.cell 7; have y0 := hbr2.cell 0; have y1 := hbr2.cell 1; have y2 := hbr2.cell 2; have y3 := hbr2.cell 3; have y4 := hbr2.cell 4; have y5 := hbr2.cell 5; have y6 := hbr2.cell 6; have y7 := hbr2.cell 7; have z0 := hbl2.frozen; have z1 := hbr2.frozen; simp only [List.getElem?_cons_succ, List.getElem?_cons_zero] at e0 e1 e2 e3 e4 e5 e6 e7 y0 y1 y2 y3 y4 y5 y6 y7; have HO := hide (show OwnI w w2 A2 c2 ch ∧ ∀ g, A2.map Addr.block = some g → w.heap.size + 2 ≤ g from ⟨ho.back hb1, fun g hg => by have := ho.2 g hg; simp [hs0] at this; omega⟩); have hB2 := hb1.trans (hb2.mono hb1.size); have HB2 := hide hB2; clear ho hb1 hbl hbr hb2 hbl2 hbr2 hw0 hb0 c1 l2 hs0 hq0 hB2; go_wp2
 refine bodyPost_ret (v := .tuple #[.agg #[.int .i64 i, .int .i64 bl, .int .i64 pr, .int .i64 pw, .int .i64 pl, .int .i64 pb, .int .i64 ver, .slice A2 ch.length c2], .bool (fd Vo.id S.vs id).isSome]) (by simp [results, Tryz.results14, go_sem, *]) rfl ?_
 refine ⟨⟨⟨i, bl, ⟨pr, pw, pl, pb⟩, ver, ch⟩, A2, c2⟩, rfl, HY.out, ⟨own_chg (L := [w.heap.size, w.heap.size + 1]) HO.out.1.1 (by repeat (first | (with_reducible refine Chg.setCell ?_ (by simp) _) | (with_reducible exact Chg.refl _ _))) (fun g hg => ?_), HO.out.1.2⟩, HS.out.ln, by repeat (first | (with_reducible exact HB2.out) | (with_reducible refine Below.setCell ?_ (by simp <;> omega) _))⟩
 rw [owS] at hg; have := HO.out.2 g hg
 simp
 omega
end Go.Proofs.YtcahcjfgmdpdoaaGreat

namespace Go.Proofs.YtcahcjfgmdpdoaaGreat
open Go.RowKit Go.Proofs Go.Maps Go.Sort Go.Shelf
set_option linter.unusedVariables false
set_option linter.unusedSimpArgs false

theorem has_ok {w : World} {b n : Nat} {D : DataW Value} (ho : w.ownsMap Tryz.prog 3 wholeE b n D) {x : Int} (h : Maps.has D (.int .i64 x) = true) : i64ok x := by
 obtain ⟨es, rfl, hko⟩ := ho.keysOf; rw [Maps.has_eq, List.any_eq_true] at h; obtain ⟨p, hp, hs⟩ := h; obtain ⟨v, hv⟩ := hko p hp; obtain ⟨y, _, hy, hl⟩ := Maps.keyOf_i64 Tryz.underlying3 hv; rw [hy] at hs
 have : y = x := by simpa [Lit.sameKey] using hs
 subst this
 exact bounds_i64 hl
theorem Tab.keys {α : Type} {key : α → Int} {val : α → Value} {w : World} {b : Nat} {L : List α} (h : Tab key val w b L) : ∃ D, w.ownsMap Tryz.prog 3 wholeE b L.length D ∧ Maps.size D = L.length ∧ (L.map key).Perm (intKeys D) ∧
  (∀ x, Maps.has D (.int .i64 x) = true ↔ x ∈ L.map key) ∧ ∀ k, i64ok k → ∀ z, D.atKey (.int .i64 k) (.held z) = .held (((fd key L k).map val).getD z) := by
 obtain ⟨D, ho, hsz, ht, hf⟩ := h.gm
 have hm : ∀ x, Maps.has D (.int .i64 x) = true ↔ x ∈ L.map key := by
  intro x
  constructor
  ·intro hx
   rw [(hf x (has_ok ho hx)).1, Option.isSome_map] at hx; obtain ⟨y, hy⟩ := Option.isSome_iff_exists.1 hx; obtain ⟨h1, rfl⟩ := fd_some hy
   exact List.mem_map_of_mem h1
  ·intro hx
   obtain ⟨y, hy, rfl⟩ := List.mem_map.1 hx; rw [(hf _ (h.ok y hy)).1]
   show (Option.map val (fd key L (key y))).isSome = true
   rw [fd_mem h.rise hy]
   rfl
 refine ⟨D, ho, hsz, ?_, hm, fun k hk => (hf k hk).2⟩
 obtain ⟨es, hD, hpw, _⟩ := ho.entries law; obtain ⟨es', hD', hko⟩ := ho.keysOf
 obtain rfl : es = es' := by rw [hD] at hD'; simpa using hD'
 subst hD
 exact perm_intKeys hpw (fun p hp => by obtain ⟨v, hv⟩ := hko p hp; obtain ⟨x, _, hx, _⟩ := Maps.keyOf_i64 Tryz.underlying3 hv; exact ⟨x, hx⟩) h.rise.nodup (fun x => (hm x).symm)
theorem sortsI (m : Nat) : AnyZI.SortsIn Tryz.prog YtcahcjfgmdpdoaaGreat.sortedI_ren Fence.wide m :=
  ⟨fun blk off cap ss W hH hblk hsz => callsIn_wide.2 (AnyM.slices_Sort_int YtcahcjfgmdpdoaaGreat.sortI blk off cap ss W hH hblk hsz),
   fun p cap W => callsIn_wide.2 (AnyM.slices_Sort_int_none YtcahcjfgmdpdoaaGreat.sortI p cap W)⟩
theorem keysInt_calls (mb : Option Nat) (w : World) : Calls Tryz.prog 71 #[.map mb] w fun e w' => e = .returned (.func (.func 119) #[] #[.pointer (some ⟨w.heap.size, 0, none⟩)]) ∧ w' = w.alloc (.cells #[.map mb] 72) :=
 (callsIn_wide (n := 5)).1 (AnyZI.keys_in YtcahcjfgmdpdoaaGreat.keysInt Fence.wide 5 trivial rfl mb w)
theorem sortedInt_calls {α : Type} {key : α → Int} {val : α → Value} {b : Nat} {L : List α} (p : Nat) (w : World) (hc : w.cell? ⟨p, 0, none⟩ = some (.map (some b))) (hp : p < w.heap.size) (h : Tab key val w b L) (hL : L.length ≤ 1000000) :
  Calls Tryz.prog 70 #[.func (.func 119) #[] #[.pointer (some ⟨p, 0, none⟩)]] w fun e w' => ∃ A c, e = .returned (.slice A L.length c) ∧ OwnI w w' A c (L.map key) ∧ Below w.heap.size w w' := by
 obtain ⟨D0, hown, hsz, hperm, _⟩ := h.keys
 have hmax : Maps.size D0 ≤ maxLen := by rw [hsz]; unfold maxLen; omega
 have hbytes : Maps.size D0 * 8 ≤ 140737488355328 := by rw [hsz]; omega
 have hseq : SeqGives Fence.wide 2 Tryz.prog 119 #[.pointer (some ⟨p, 0, none⟩)] encZ (fun ss => ss.Perm (intKeys D0)) (Maps.size D0) w :=
  AnyZI.keys_gives (ρ := YtcahcjfgmdpdoaaGreat.keysInt_ren) { YtcahcjfgmdpdoaaGreat.keysInt with } Fence.wide _ trivial rfl (by omega) p b L.length D0 _ hp hc hown
 have cS := AnyZI.sorted_in YtcahcjfgmdpdoaaGreat.sortedI Fence.wide 5 trivial trivial trivial trivial rfl (by omega) (sortsI _) (enters_of Tryz.func118 (by kernel_rfl) rfl) 119 #[.pointer (some ⟨p, 0, none⟩)] trivial (enters_of Tryz.func119 (by kernel_rfl) rfl) _ _ hmax hbytes _ hseq
 refine ((callsIn_wide (n := 5)).1 cS).mono fun e w' ⟨v, ss, he, hS, hrow, hnil, hb⟩ => ?_
 have hp2 : ss.Perm (L.map key) := hS.trans hperm.symm; rw [keys_sorted h.rise hp2] at hrow
 have hl : ss.length = L.length := by rw [hp2.length_eq, List.length_map]
 rw [hl] at hrow; have hlt := hrow.lt; obtain ⟨A, c, hv, _⟩ := own_view hrow; subst hv
 refine ⟨A, c, he, ⟨?_, fun g hg => (hlt g (by rw [owS]; exact hg)).1⟩, hb⟩
 rw [List.length_map]
 exact own_base hrow
theorem keysVolume_calls (mb : Option Nat) (w : World) : Calls Tryz.prog 72 #[.map mb] w fun e w' => e = .returned (.func (.func 120) #[] #[.pointer (some ⟨w.heap.size, 0, none⟩)]) ∧ w' = w.alloc (.cells #[.map mb] 73) :=
 (callsIn_wide (n := 5)).1 (AnyZI.keys_in YtcahcjfgmdpdoaaGreat.keysVolume Fence.wide 5 trivial rfl mb w)
theorem sortedVolume_calls {α : Type} {key : α → Int} {val : α → Value} {b : Nat} {L : List α} (p : Nat) (w : World) (hc : w.cell? ⟨p, 0, none⟩ = some (.map (some b))) (hp : p < w.heap.size) (h : Tab key val w b L) (hL : L.length ≤ 1000000) :
  Calls Tryz.prog 70 #[.func (.func 120) #[] #[.pointer (some ⟨p, 0, none⟩)]] w fun e w' => ∃ A c, e = .returned (.slice A L.length c) ∧ OwnI w w' A c (L.map key) ∧ Below w.heap.size w w' := by
 obtain ⟨D0, hown, hsz, hperm, _⟩ := h.keys
 have hmax : Maps.size D0 ≤ maxLen := by rw [hsz]; unfold maxLen; omega
 have hbytes : Maps.size D0 * 8 ≤ 140737488355328 := by rw [hsz]; omega
 have hseq : SeqGives Fence.wide 2 Tryz.prog 120 #[.pointer (some ⟨p, 0, none⟩)] encZ (fun ss => ss.Perm (intKeys D0)) (Maps.size D0) w :=
  AnyZI.keys_gives (ρ := YtcahcjfgmdpdoaaGreat.keysVolume_ren) { YtcahcjfgmdpdoaaGreat.keysVolume with } Fence.wide _ trivial rfl (by omega) p b L.length D0 _ hp hc hown
 have cS := AnyZI.sorted_in YtcahcjfgmdpdoaaGreat.sortedI Fence.wide 5 trivial trivial trivial trivial rfl (by omega) (sortsI _) (enters_of Tryz.func118 (by kernel_rfl) rfl) 120 #[.pointer (some ⟨p, 0, none⟩)] trivial (enters_of Tryz.func120 (by kernel_rfl) rfl) _ _ hmax hbytes _ hseq
 refine ((callsIn_wide (n := 5)).1 cS).mono fun e w' ⟨v, ss, he, hS, hrow, hnil, hb⟩ => ?_
 have hp2 : ss.Perm (L.map key) := hS.trans hperm.symm; rw [keys_sorted h.rise hp2] at hrow
 have hl : ss.length = L.length := by rw [hp2.length_eq, List.length_map]
 rw [hl] at hrow; have hlt := hrow.lt; obtain ⟨A, c, hv, _⟩ := own_view hrow; subst hv
 refine ⟨A, c, he, ⟨?_, fun g hg => (hlt g (by rw [owS]; exact hg)).1⟩, hb⟩
 rw [List.length_map]
 exact own_base hrow
theorem keysChunk_calls (mb : Option Nat) (w : World) : Calls Tryz.prog 74 #[.map mb] w fun e w' => e = .returned (.func (.func 121) #[] #[.pointer (some ⟨w.heap.size, 0, none⟩)]) ∧ w' = w.alloc (.cells #[.map mb] 74) :=
 (callsIn_wide (n := 5)).1 (AnyZI.keys_in YtcahcjfgmdpdoaaGreat.keysChunk Fence.wide 5 trivial rfl mb w)
theorem sortedChunk_calls {α : Type} {key : α → Int} {val : α → Value} {b : Nat} {L : List α} (p : Nat) (w : World) (hc : w.cell? ⟨p, 0, none⟩ = some (.map (some b))) (hp : p < w.heap.size) (h : Tab key val w b L) (hL : L.length ≤ 1000000) :
  Calls Tryz.prog 70 #[.func (.func 121) #[] #[.pointer (some ⟨p, 0, none⟩)]] w fun e w' => ∃ A c, e = .returned (.slice A L.length c) ∧ OwnI w w' A c (L.map key) ∧ Below w.heap.size w w' := by
 obtain ⟨D0, hown, hsz, hperm, _⟩ := h.keys
 have hmax : Maps.size D0 ≤ maxLen := by rw [hsz]; unfold maxLen; omega
 have hbytes : Maps.size D0 * 8 ≤ 140737488355328 := by rw [hsz]; omega
 have hseq : SeqGives Fence.wide 2 Tryz.prog 121 #[.pointer (some ⟨p, 0, none⟩)] encZ (fun ss => ss.Perm (intKeys D0)) (Maps.size D0) w :=
  AnyZI.keys_gives (ρ := YtcahcjfgmdpdoaaGreat.keysChunk_ren) { YtcahcjfgmdpdoaaGreat.keysChunk with } Fence.wide _ trivial rfl (by omega) p b L.length D0 _ hp hc hown
 have cS := AnyZI.sorted_in YtcahcjfgmdpdoaaGreat.sortedI Fence.wide 5 trivial trivial trivial trivial rfl (by omega) (sortsI _) (enters_of Tryz.func118 (by kernel_rfl) rfl) 121 #[.pointer (some ⟨p, 0, none⟩)] trivial (enters_of Tryz.func121 (by kernel_rfl) rfl) _ _ hmax hbytes _ hseq
 refine ((callsIn_wide (n := 5)).1 cS).mono fun e w' ⟨v, ss, he, hS, hrow, hnil, hb⟩ => ?_
 have hp2 : ss.Perm (L.map key) := hS.trans hperm.symm; rw [keys_sorted h.rise hp2] at hrow
 have hl : ss.length = L.length := by rw [hp2.length_eq, List.length_map]
 rw [hl] at hrow; have hlt := hrow.lt; obtain ⟨A, c, hv, _⟩ := own_view hrow; subst hv
 refine ⟨A, c, he, ⟨?_, fun g hg => (hlt g (by rw [owS]; exact hg)).1⟩, hb⟩
 rw [List.length_map]
 exact own_base hrow
theorem volumes_calls (w : World) (no : List Nat) (b m1 m2 m3 : Nat) (S : Vst) (V : List VoM) (C : List CkM) (h : VM w no b m1 m2 m3 S V C) (hl : S.vs.length ≤ 1000000) :
  Calls Tryz.prog 31 #[.pointer (some ⟨b, 0, none⟩)] w fun e w' => ∃ A c, e = .returned (.slice A S.vs.length c) ∧ OwnI w w' A c (S.vs.map Vo.id) ∧ Below w.heap.size w w' := by
 have c1 : w.cell? ⟨b, 1, none⟩ = some (.map (some m2)) := h.blk.cell 1; have hb0 := (Below.refl w.heap.size w).alloc (Nat.le_refl _) (.cells #[.map (some m2)] 73); have hcell : (w.alloc (.cells #[.map (some m2)] 73)).cell? ⟨w.heap.size, 0, none⟩ = some (.map (some m2)) := (Blk.new (cs := [.map (some m2)]) rfl).cell 0; have hS := sortedVolume_calls w.heap.size (w.alloc (.cells #[.map (some m2)] 73)) hcell (by simp) (h.t2.below hb0) (by have := congrArg List.length h.eV; rw [List.length_map] at this; omega)
 have hlen : V.length = S.vs.length := by have := congrArg List.length h.eV; rw [List.length_map] at this; exact this
 have hmap : V.map VoM.key = S.vs.map Vo.id := by rw [← h.eV, List.map_map]; rfl
 rw [hlen, hmap] at hS; have HS := hide hS; clear h hcell hS hlen hmap
 go_enter Tryz.func31, Tryz.ntmps31
 go_wp2_with fail
 refine (keysVolume_calls _ _).mono ?_
 rintro e w1 ⟨rfl, rfl⟩; go_wp2_with fail; refine HS.out.mono ?_; rintro e w2 ⟨A, c, rfl, ho, hb⟩; have HO := hide ho; clear ho; go_wp2; go_ret
 exact ⟨A, c, rfl, HO.out.back hb0, hb0.trans (hb.mono hb0.size)⟩
theorem chunks_calls (w : World) (no : List Nat) (b m1 m2 m3 : Nat) (S : Vst) (V : List VoM) (C : List CkM) (h : VM w no b m1 m2 m3 S V C) (hl : S.cs.length ≤ 1000000) :
  Calls Tryz.prog 34 #[.pointer (some ⟨b, 0, none⟩)] w fun e w' => ∃ A c, e = .returned (.slice A S.cs.length c) ∧ OwnI w w' A c (S.cs.map Ck.id) ∧ Below w.heap.size w w' := by
 have c1 : w.cell? ⟨b, 2, none⟩ = some (.map (some m3)) := h.blk.cell 2; have hb0 := (Below.refl w.heap.size w).alloc (Nat.le_refl _) (.cells #[.map (some m3)] 74); have hcell : (w.alloc (.cells #[.map (some m3)] 74)).cell? ⟨w.heap.size, 0, none⟩ = some (.map (some m3)) := (Blk.new (cs := [.map (some m3)]) rfl).cell 0; have hS := sortedChunk_calls w.heap.size (w.alloc (.cells #[.map (some m3)] 74)) hcell (by simp) (h.t3.below hb0) (by have := congrArg List.length h.eC; rw [List.length_map] at this; omega)
 have hlen : C.length = S.cs.length := by have := congrArg List.length h.eC; rw [List.length_map] at this; exact this
 have hmap : C.map CkM.key = S.cs.map Ck.id := by rw [← h.eC, List.map_map]; rfl
 rw [hlen, hmap] at hS; have HS := hide hS; clear h hcell hS hlen hmap
 go_enter Tryz.func34, Tryz.ntmps34
 go_wp2_with fail
 refine (keysChunk_calls _ _).mono ?_
 rintro e w1 ⟨rfl, rfl⟩; go_wp2_with fail; refine HS.out.mono ?_; rintro e w2 ⟨A, c, rfl, ho, hb⟩; have HO := hide ho; clear ho; go_wp2; go_ret
 exact ⟨A, c, rfl, HO.out.back hb0, hb0.trans (hb.mono hb0.size)⟩
end Go.Proofs.YtcahcjfgmdpdoaaGreat
