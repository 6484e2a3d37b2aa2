/- One text of: Li Wf Vrc Vpl. -/
import Derived.Test.YtcahcjfgmdpdoaaGreatQVA
import Derived.Test.YtcahcjfgmdpdoaaGreatQWC
set_option maxHeartbeats 4000000
set_option maxRecDepth 100000
namespace Go.Proofs.YtcahcjfgmdpdoaaGreat
open Go.RowKit Go.Proofs Go.Maps Go.Sort Go.Shelf
set_option linter.unusedVariables false
set_option linter.unusedSimpArgs false

theorem keysByte_calls (mb : Option Nat) (w : World) : Calls Tryz.prog 201 #[.map mb] w fun e w' => e = .returned (.func (.func 206) #[] #[.pointer (some ⟨w.heap.size, 0, none⟩)]) ∧ w' = w.alloc (.cells #[.map mb] 92) :=
 (callsIn_wide (n := 5)).1 (AnyZI.keys_in YtcahcjfgmdpdoaaGreat.keysByte Fence.wide 5 trivial rfl mb w)
theorem sortedByte_calls {α : Type} {key : α → Int} {val : α → Value} {b : Nat} {L : List α} (p : Nat) (w : World) (hc : w.cell? ⟨p, 0, none⟩ = some (.map (some b))) (hp : p < w.heap.size) (h : Tab key val w b L) (hL : L.length ≤ 1000000) :
  Calls Tryz.prog 70 #[.func (.func 206) #[] #[.pointer (some ⟨p, 0, none⟩)]] w fun e w' => ∃ A c, e = .returned (.slice A L.length c) ∧ OwnI w w' A c (L.map key) ∧ Below w.heap.size w w' := by
 obtain ⟨D0, hown, hsz, hperm, _⟩ := h.keys
 have hmax : Maps.size D0 ≤ maxLen := by rw [hsz]; unfold maxLen; omega
 have hbytes : Maps.size D0 * 8 ≤ 140737488355328 := by rw [hsz]; omega
 have hseq : SeqGives Fence.wide 2 Tryz.prog 206 #[.pointer (some ⟨p, 0, none⟩)] encZ (fun ss => ss.Perm (intKeys D0)) (Maps.size D0) w :=
  AnyZI.keys_gives (ρ := YtcahcjfgmdpdoaaGreat.keysByte_ren) { YtcahcjfgmdpdoaaGreat.keysByte with } Fence.wide _ trivial rfl (by omega) p b L.length D0 _ hp hc hown
 have cS := AnyZI.sorted_in YtcahcjfgmdpdoaaGreat.sortedI Fence.wide 5 trivial trivial trivial trivial rfl (by omega) (sortsI _) (enters_of Tryz.func118 (by kernel_rfl) rfl) 206 #[.pointer (some ⟨p, 0, none⟩)] trivial (enters_of Tryz.func206 (by kernel_rfl) rfl) _ _ hmax hbytes _ hseq
 refine ((callsIn_wide (n := 5)).1 cS).mono fun e w' ⟨v, ss, he, hS, hrow, hnil, hb⟩ => ?_
 have hp2 : ss.Perm (L.map key) := hS.trans hperm.symm; rw [keys_sorted h.rise hp2] at hrow
 have hl : ss.length = L.length := by rw [hp2.length_eq, List.length_map]
 rw [hl] at hrow; have hlt := hrow.lt; obtain ⟨A, c, hv, _⟩ := own_view hrow; subst hv
 refine ⟨A, c, he, ⟨?_, fun g hg => (hlt g (by rw [owS]; exact hg)).1⟩, hb⟩
 rw [List.length_map]
 exact own_base hrow
end Go.Proofs.YtcahcjfgmdpdoaaGreat

namespace Go.Proofs.YtcahcjfgmdpdoaaGreat
open Go.RowKit Go.Proofs Go.Maps
set_option linter.unusedVariables false
set_option linter.unusedSimpArgs false

structure Wf (w0 w : World) (b : Nat) (L : List Nat) : Prop where
 ex : ∃ g, WR w b g L ∧ ∀ x, g = some x → w0.heap.size ≤ x
 fresh : w0.heap.size ≤ b
 be : Below w0.heap.size w0 w
section
variable {w0 w w' : World} {b : Nat} {L : List Nat}
theorem Wf.new (h : Below w0.heap.size w0 w) : Wf w0 (w.alloc (.cells #[.slice none 0 0] 78)) w.heap.size [] :=
 ⟨⟨none, WR.new w, fun x hx => by cases hx⟩, h.size, belowL h _⟩
theorem Wf.below (h : Wf w0 w b L) (hb : Below w.heap.size w w') : Wf w0 w' b L := by
 obtain ⟨g, h1, h2⟩ := h.ex
 exact ⟨⟨g, h1.below hb, h2⟩, h.fresh, belowA hb h.be⟩
theorem Wf.lt (h : Wf w0 w b L) : b < w.heap.size := by obtain ⟨g, h1, _⟩ := h.ex; exact h1.lt
theorem Wf.wrote {g : Option Nat} {L2 : List Nat} (h : Wf w0 w b L) (hg : ∀ x, g = some x → w0.heap.size ≤ x) (k : Wrote w w' b g L2) : Wf w0 w' b L2 := by
 obtain ⟨g', k1, k2, k3⟩ := k
 refine ⟨⟨g', k1, fun x hx => ?_⟩, h.fresh, Chg.onto h.be h.be.size k2 (fun z hz => ?_)⟩
 ·rcases k3 with rfl | ⟨y, rfl, hy⟩
  ·exact hg x hx
  ·cases hx; exact Nat.le_trans h.be.size hy
 ·rcases List.mem_cons.1 hz with rfl | hz
  ·exact h.fresh
  ·exact hg z (by simpa using hz)
theorem Wf.num (h : Wf w0 w b L) (n : Nat) (hn : n < 2 ^ 63) (hl : L.length ≤ 1000000) :
  Calls Tryz.prog 28 #[.pointer (some ⟨b, 0, none⟩), .int .i64 n] w fun e w' => e = .returned (.tuple #[]) ∧ Wf w0 w' b (L ++ enc n) := by
 obtain ⟨g, h1, h2⟩ := h.ex
 refine (wnum_calls w b g L n h1 (by omega) hl).mono fun e w' ⟨he, hw⟩ => ⟨he, ?_⟩
 rw [Int.toNat_natCast] at hw
 exact h.wrote h2 hw
theorem Wf.textZ (h : Wf w0 w b L) {A : Option Addr} {c : Nat} {T : List Nat} (hT : T = [] ∨ Rb w0 [] A c T) (hl : L.length ≤ 500000) (hTl : T.length ≤ 400000) :
  Calls Tryz.prog 131 #[.pointer (some ⟨b, 0, none⟩), .slice A T.length c] w fun e w' => e = .returned (.tuple #[]) ∧ Wf w0 w' b (L ++ encT T) := by
 obtain ⟨g, h1, h2⟩ := h.ex
 have hr : T = [] ∨ Rb w (b :: g.toList) A c T := hT.imp id (fun hT => (hT.plus (fun z hz => Or.inr (by
  rcases List.mem_cons.1 hz with rfl | hz
  ·exact h.fresh
  ·exact h2 z (by simpa using hz)))).below h.be)
 exact (wtextZ_calls w b g L h1 hr hl hTl).mono fun e w' ⟨he, hw⟩ => ⟨he, h.wrote h2 hw⟩
theorem Wf.text (h : Wf w0 w b L) {A : Option Addr} {c : Nat} {T : List Nat} (hT : Rb w0 [] A c T) (hl : L.length ≤ 500000) (hTl : T.length ≤ 400000) :
  Calls Tryz.prog 131 #[.pointer (some ⟨b, 0, none⟩), .slice A T.length c] w fun e w' => e = .returned (.tuple #[]) ∧ Wf w0 w' b (L ++ encT T) := h.textZ (Or.inr hT) hl hTl
theorem Wf.textN {w1 : World} (h : Wf w0 w b L) (hb : Below w.heap.size w w1) {A : Option Addr} {c : Nat} {T : List Nat} (hT : OwnB w w1 A c T) (hl : L.length ≤ 500000) (hTl : T.length ≤ 400000) :
  Calls Tryz.prog 131 #[.pointer (some ⟨b, 0, none⟩), .slice A T.length c] w1 fun e w' => e = .returned (.tuple #[]) ∧ Wf w0 w' b (L ++ encT T) := by
 obtain ⟨g, h1, h2⟩ := h.ex
 have hr : Rb w1 (b :: g.toList) A c T := hT.rb (fun x hx => by
  rcases List.mem_cons.1 hx with rfl | hx
  ·exact h1.lt
  ·exact h1.glt x (by simpa using hx))
 exact (wtext_calls w1 b g L (h1.below hb) hr hl hTl).mono fun e w' ⟨he, hw⟩ => ⟨he, (h.below hb).wrote h2 hw⟩
theorem Wf.bytes (h : Wf w0 w b L) (hl : L.length ≤ 1000000) :
  Calls Tryz.prog 35 #[.pointer (some ⟨b, 0, none⟩)] w fun e w' => ∃ A c, e = .returned (.slice A L.length c) ∧ OwnB w0 w' A c L ∧ Below w0.heap.size w0 w' := by
 obtain ⟨g, h1, h2⟩ := h.ex
 exact (wbytes_calls w b g L h1 hl).mono fun e w' ⟨A, c, he, ho, hb⟩ => ⟨A, c, he, ho.back h.be.size, belowA hb h.be⟩
end
theorem own_built (w : World) (e : TypeId) (cs : Array Value) (n size : Nat) (hn : cs.size = n * size) (hm : n ≤ maxLen) : (w.alloc (.cells cs e)).ownsRow 0 e size (.slice (some ⟨w.heap.size, 0, none⟩) n n) n cs.toList :=
 ⟨by rw [Array.length_toList]; exact hn, .inr ⟨w.heap.size, n, cs, rfl, Nat.zero_le _, heap_alloc_new w _, Nat.le_refl _, hm, hn, by rw [← hn, ← Array.length_toList, List.take_length]⟩⟩
theorem OwnT.one {w0 w : World} {A : Option Addr} {c : Nat} {t : List Nat} (h : OwnB w0 w A c t) (hs : w0.heap.size ≤ w.heap.size) : OwnT w0 (w.alloc (.cells #[.slice A t.length c] 42)) (some ⟨w.heap.size, 0, none⟩) 1 [t] :=
 ⟨[⟨A, c, t⟩], rfl, own_built w 42 #[.slice A t.length c] 1 1 rfl (by unfold maxLen; omega), fun g hg => by cases hg; exact hs, fun x hx => by
  rw [List.mem_singleton.1 hx]
  exact ⟨own_chg h.1 (Chg.of_below (L := []) (belowL (Below.refl _ _) _)) (fun _ _ hx => by cases hx), h.2⟩⟩
theorem wpList_appendT {ops : Array Oper} {rest : List Oper} {o : Oper} {a : Act} {Q : Exit → Act → World → Prop} {w1 w2 : World} (hgd : o.guard = none) (s x : Operand)
  (ho : o.op = .call { callee := .builtin .append, args := #[s, x], argTypes := #[98, 98] }) {A A2 : Option Addr} {c c2 : Nat} {L : List (List Nat)} {t : List Nat}
  (hO : OwnT w1 w2 A c L) (hb : Below w1.heap.size w1 w2) (ht : OwnB w1 w2 A2 c2 t) (hl : L.length ≤ 100000) (hs : a.eval s = .slice A L.length c) (hx : a.eval x = .slice (some ⟨w2.heap.size, 0, none⟩) 1 1)
  (h : ∀ A3 c3 w', OwnT w1 w' A3 c3 (L ++ [t]) → Below w1.heap.size w1 w' → (∀ (e : TypeId) (s' n' c' : Nat) (A' : Option Addr) (xs : List Value), e ≠ 42 → w2.ownsRow 0 e s' (.slice A' n' c') n' xs → w'.ownsRow 0 e s' (.slice A' n' c') n' xs) → wpList Tryz.prog ops Q rest (a.put o.dst (.slice A3 (L.length + 1) c3)) w') : wpList Tryz.prog ops Q (o :: rest) a (w2.alloc (.cells #[.slice A2 t.length c2] 42)) := by
 obtain ⟨X, x1, x2, x3, x4⟩ := hO; obtain ⟨iS, hiS, hzS, hz1S, hz2S⟩ := info_parts Tryz.infoS; have x2' := own_chg x2 ((Chg.refl [] w2).alloc (.cells #[.slice A2 t.length c2] 42)) (by simp); have bN : Blk (w2.alloc (.cells #[.slice A2 t.length c2] 42)) w2.heap.size 42 [.slice A2 t.length c2] := Blk.new rfl; have hwA : Below w2.heap.size w2 (w2.alloc (.cells #[.slice A2 t.length c2] 42)) := belowL (Below.refl _ _) _; have ht' : OwnB w1 (w2.alloc (.cells #[.slice A2 t.length c2] 42)) A2 c2 t := ⟨own_chg ht.1 (Chg.of_below (L := []) hwA) (fun _ _ hx => by cases hx), ht.2⟩
 have x4' : ∀ y ∈ X, OwnB w1 (w2.alloc (.cells #[.slice A2 t.length c2] 42)) y.A y.c y.b := fun y hy => ⟨own_chg (x4 y hy).1 (Chg.of_below (L := []) hwA) (fun _ _ hx => by cases hx), (x4 y hy).2⟩
 refine wpList_append_rd hgd s x 98 ho 42 iS _ 1 24 Tryz.underlying98 hiS hzS hz1S hz2S rfl (by decide) (.slice A L.length c) L.length (txCells X) hs x2' (some ⟨w2.heap.size, 0, none⟩) 1 1 (w2.heap.size + 1) [.slice A2 t.length c2] hx ⟨rfl, fun _ => ⟨w2.heap.size, 0, rfl, by omega, fun j u hu => by rw [Nat.zero_add, bN.cell j]; exact hu⟩⟩ (by intro u hu; simp at hu; subst hu; rfl) (by unfold maxLen; omega) (by omega) ?_
 intro v3 w3 ho3 hc3 hg3
 rw [owS] at hc3
 obtain ⟨A3, c3, rfl, hO3⟩ := OwnT.push (w := w1) (w2 := w2.alloc (.cells #[.slice A2 t.length c2] 42)) x1 x3 x4' ht' (Nat.le_trans hb.size hwA.size) ho3 hc3 (fun g hg y hy hgx => by
  have h9 : OwnB w1 (w2.alloc (.cells #[.slice A2 t.length c2] 42)) y.A y.c y.b := by
   rcases List.mem_cons.1 hy with rfl | hy
   ·exact ht'
   ·exact x4' y hy
  exact absurd (own_own x2' h9.1 hg hgx) (by decide)) (fun g hg => by
   rcases hg3 g hg with h | h
   ·exact Or.inl (by rw [← owS A L.length c]; exact h)
   ·exact Or.inr (by rw [h]; simp))
 exact h A3 c3 w3 hO3 (Chg.onto (belowA hwA hb) (belowA hwA hb).size hc3 (fun z hz => x3 z (by simpa using hz))) (fun e s' n' c' A' xs he hown => own_chg (own_chg hown (Chg.of_below (L := []) hwA) (fun _ _ hx => by cases hx)) hc3 (fun g hg hgx => by rw [owS] at hg; exact he (own_own x2' (own_chg hown (Chg.of_below (L := []) hwA) (fun _ _ hx => by cases hx)) (by simpa using hgx) hg)))

theorem kvRecs_get {X : List Kx} {k : Nat} (hk : k < X.length) : (kvRecs (X.map Kx.kv)).take (k + 2) = (kvRecs (X.map Kx.kv)).take (k + 1) ++ [enc X[k].k ++ encT X[k].v] := by
 unfold kvRecs; rw [List.take_succ_cons, List.take_succ_cons, List.map_map, ← List.map_take, ← List.map_take, List.cons_append, ← List.take_append_getElem hk, List.map_append]
 rfl
theorem vrecords_calls {w : World} {mb : Nat} {l : KV} (h : KvM w mb l) (hl : l.length ≤ 20000) :
  Calls Tryz.prog 188 #[.map (some mb)] w fun e w' => ∃ A c, e = .returned (.slice A (kvRecs l).length c) ∧ OwnT w w' A c (kvRecs l) ∧ Below w.heap.size w w' := by
 obtain ⟨X, x1, rfl, x3⟩ := h; have hXl : (X.map Kx.kv).length = X.length := List.length_map ..; obtain ⟨N, hN⟩ : ∃ N, X.length = N := ⟨_, rfl⟩; obtain ⟨R, hR⟩ : ∃ R, kvRecs (X.map Kx.kv) = R := ⟨_, rfl⟩
 have hRl : R.length = N + 1 := by rw [← hR, ← hN]; simp [kvRecs]
 rw [hR]; have r0 := Below.refl w.heap.size w; obtain ⟨w1, hw1⟩ : ∃ w1, w.alloc (.cells #[.slice none 0 0] 78) = w1 := ⟨_, rfl⟩; obtain ⟨cb, hcb⟩ : ∃ cb, w.heap.size = cb := ⟨_, rfl⟩
 have hwf : Wf w w1 cb [] := by rw [← hw1, ← hcb]; exact Wf.new r0
 have hlen : ∀ w' : World, Below w.heap.size w w' → ∀ ty, (Builtin.len_ #[92] ty #[.map (some mb)]).run Tryz.prog w' = .ok (.int .i64 N) w' := fun w' hb ty => by rw [← hN]; exact (x1.below hb).len Tryz.underlying92 ty
 have hlen1 := hlen w1 hwf.be; have HNM := hide (hwf.num N (by omega) (by simp)); have H := hd7 x1 x3 hN hR hRl hXl hl; have HW1 := hide hw1; have HCB := hide hcb
 have hl2 : (N : Int) ≤ 20000 := by omega
 clear hwf hw1 hcb x1 x3 hN hR hRl hlen hXl hl
 go_enter Tryz.func188, Tryz.ntmps188
 go_upto_region 2 with fail
 (try rw [HW1.out])
 (try rw [HCB.out])
 go_wp2_with fail; refine HNM.out.mono ?_; rintro e w2 ⟨rfl, hf2⟩; rw [List.nil_append] at hf2; have HBY := hide (hf2.bytes (by have := enc_len9 (n := N) (by omega); omega)); clear hf2 HNM hlen1; go_wp2_with fail; refine HBY.out.mono ?_; rintro e w3 ⟨A3, c3, rfl, ho3, hb3⟩; have hO := OwnT.one ho3 hb3.size; obtain ⟨w4, hw4⟩ : ∃ w4, w3.alloc (.cells #[.slice A3 (enc N).length c3] 42) = w4 := ⟨_, rfl⟩; obtain ⟨g4, hg4⟩ : ∃ g4, w3.heap.size = g4 := ⟨_, rfl⟩
 have hb4 : Below w.heap.size w w4 := hw4 ▸ belowL hb3 _
 rw [hw4, hg4] at hO; have hb5 := belowL hb4 (.cells #[.map (some mb)] 92); have hcell : (w4.alloc (.cells #[.map (some mb)] 92)).cell? ⟨w4.heap.size, 0, none⟩ = some (.map (some mb)) := (Blk.new (cs := [.map (some mb)]) rfl).cell 0; have hS := sortedByte_calls w4.heap.size (w4.alloc (.cells #[.map (some mb)] 92)) hcell (by simp) (H.out.1.below hb5) (by have := H.out.2.2.1; omega); rw [H.out.2.2.1] at hS; have HS := hide hS; have HO := hd3 hO hb4 hb5; have HW4 := hd2 hw4 hg4
 have hlen4 : ∀ ty, (Builtin.len_ #[92] ty #[.map (some mb)]).run Tryz.prog w4 = .ok (.int .i64 N) w4 := fun ty => by rw [← H.out.2.2.1]; exact (H.out.1.below hb4).len Tryz.underlying92 ty
 clear ho3 hb3 hO hw4 hg4 hb4 hb5 hcell hS HBY; go_wp2_with fail
 (try rw [HW4.out.1])
 (try rw [HW4.out.2])
 refine (keysByte_calls _ _).mono ?_
 rintro e w5 ⟨rfl, rfl⟩; go_wp2_with fail; refine HS.out.mono ?_; rintro e w6 ⟨A6, c6, rfl, ho6, hb6⟩; have H6 := hd3 (HO.out.1.below (belowA hb6 (belowL (Below.refl _ _) _))) (ho6.back HO.out.2.2) (belowA hb6 HO.out.2.2); have hL0 : Hid ([enc N] = R.take (0 + 1)) := hide (by rw [← H.out.2.2.2.1]; simp only [kvRecs, List.length_map, H.out.2.2.1]; rfl); clear ho6 hb6 HS HO HW4 hlen4; go_wp2
 go_loopw [4, 6, 7, 17, 18, 19, 20, 21, 22, 23, 24, 25, 26, 27, 28, 29, 30, 31] (fun ov _ _ iv _ _ _ _ _ _ _ _ _ _ _ _ _ _ wr => ∃ (k : Nat) (L : List (List Nat)) (A : Option Addr) (c : Nat), k ≤ N ∧ iv = .int .i64 k ∧ ov = .slice A L.length c ∧ Hid (L = R.take (k + 1)) ∧ Hid (OwnT w wr A c L ∧ OwnI w wr A6 c6 (X.map Kx.key) ∧ Below w.heap.size w wr)) (fun _ _ _ iv _ _ _ _ _ _ _ _ _ _ _ _ _ _ _ => N - (Go.RowKit.intOf iv).toNat)
 case atStart => exact ⟨0, [enc N], some ⟨g4, 0, none⟩, 1, Nat.zero_le _, rfl, rfl, hL0, H6⟩
 case round =>
  obtain ⟨k, L, A, c, hk, rfl, rfl, hL, hO⟩ := hrel
  by_cases hlt : k < N
  ·have i1 : (k : Int) < N := by omega
   have hkX : k < X.length := by rw [H.out.2.2.1]; exact hlt
   obtain ⟨x, hx⟩ : ∃ x, X[k] = x := ⟨_, rfl⟩
   have hxm : x ∈ X := by rw [← hx]; exact List.getElem_mem _
   obtain ⟨A9, c9, e9, hnc, _, _, _, hrd⟩ := own_view hO.out.2.1.1
   cases e9
   obtain ⟨bA, oA, rfl, hbA, hcA⟩ := (hrd _ (fun g hg => own_lt hO.out.2.1.1 hg)).at_ (by rw [List.length_map]; omega); have hcl := hcA k (.int .i64 (x.k : Int)) (by rw [List.getElem?_map, List.getElem?_map, List.getElem?_eq_getElem hkX, hx]; rfl); have hok := H.out.2.1 x hxm; have hbr := hO.out.2.2
   have hlk : ∀ w' : World, Below w.heap.size w w' → (Instr.lookup 92 (.map (some mb)) (.int .i64 (x.k : Int)) false).run Tryz.prog w' = .ok (.slice x.A x.v.length x.c) w' := fun w' hb => by
    have hz : (zeroValue 42).run Tryz.prog w' = .ok (.slice none 0 0) w' := by kernel_rfl
    have h1 := (H.out.1.below hb).look (k := (x.k : Int)) (by have := hok.2.2.2; unfold i64ok; omega) Tryz.underlying92 hz; have h2 : fd Kx.key X (x.k : Int) = some x := fd_mem H.out.1.rise hxm; rw [h2] at h1
    exact h1
   obtain ⟨wA, hwA⟩ : ∃ wA, wr.alloc (.cells #[.slice none 0 0] 78) = wA := ⟨_, rfl⟩; obtain ⟨wb, hwb⟩ : ∃ wb, wr.heap.size = wb := ⟨_, rfl⟩
   have hwf : Wf wr wA wb [] := by rw [← hwA, ← hwb]; exact Wf.new (Below.refl _ _)
   have HN1 := hide (hwf.num x.k (by have := hok.2.2.2; omega) (by simp)); have HX := hd3 hok hx hkX; have HLK := hide hlk; have HW := hd2 hwA hwb; clear hwA hwb hwf hx hxm hrd hcA hbA hok hlk hnc
   go_upto_region 8 with fail
   (try rw [HW.out.1])
   (try rw [HW.out.2])
   go_wp2_with fail; refine HN1.out.mono ?_; rintro e w7 ⟨rfl, hf7⟩; rw [List.nil_append] at hf7; have le7 := enc_len9 (n := x.k) (by have := HX.out.1.2.2.2; omega); have HT := hide (hf7.text (HX.out.1.1.rb.below hbr) (by omega) (by have := HX.out.1.2.1; omega)); have hlk7 := HLK.out w7 (belowA hf7.be hbr); clear hf7 HN1 hcl; go_wp2_with fail; refine HT.out.mono ?_; rintro e w8 ⟨rfl, hf8⟩; have HB8 := hide (hf8.bytes (by unfold encT; have le8 := enc_len9 (n := x.v.length) (by have := HX.out.1.2.1; omega); have := HX.out.1.2.1; simp only [List.length_append]; omega)); clear hf8 HT hlk7; go_wp2_with fail; refine HB8.out.mono ?_; rintro e w9 ⟨A9, c9, rfl, ho9, hb9⟩
   have hLl : L.length ≤ 100000 := by rw [hL.out, List.length_take]; omega
   have hO9 := hO.out.1.below hb9; have hi9 := hO.out.2.1.below hb9; have hb09 := belowA hb9 hbr; have ho9' := ho9.back hbr.size; obtain ⟨t, ht⟩ : ∃ t, enc x.k ++ encT x.v = t := ⟨_, rfl⟩; rw [ht] at ho9'; rw [ht]; have H9 := hd5 hO9 hi9 hb09 ho9' ht; have HLl := hide hLl; clear hLl hO9 hi9 hb09 ho9' ho9 hb9 HB8 hbr ht
   go_wp2_with (at_builtin; refine wpList_appendT rfl _ _ rfl H9.out.1 H9.out.2.2.1 H9.out.2.2.2.1 HLl.out rfl rfl ?_)
   intro A3 c3 w10 hO10 hb10 hst
   have hi10 : OwnI w w10 (some ⟨bA, oA, none⟩) c6 (X.map Kx.key) := ⟨hst _ _ _ _ _ _ (by decide) H9.out.2.1.1, H9.out.2.1.2⟩; have H10 := hd3 hO10 hi10 hb10
   have HL10 : Hid (L ++ [t] = R.take (k + 1 + 1)) := hide (by
    rw [hL.out, ← H.out.2.2.2.1, kvRecs_get HX.out.2.2, HX.out.2.1, H9.out.2.2.2.2])
   clear hO10 hb10 hst hi10; go_wp2
   go_roundw
   case rel => exact ⟨k + 1, L ++ [t], A3, c3, by omega, by go_num, by first | rfl | simp, HL10, H10⟩
   case measure => simp [Go.RowKit.intOf]; omega
  ·have i1 : ¬ (k : Int) < N := by omega
   obtain rfl : k = N := by omega
   have hLR := hL.out; rw [List.take_of_length_le (by rw [H.out.2.2.2.2.1]; exact Nat.le_refl _)] at hLR; subst hLR; go_wp2; go_ret
   exact ⟨A, c, rfl, hO.out.1, hO.out.2.2⟩

theorem jform_kv {gen i : Nat} {b : List Nat} (hg : gen ≤ 1099511627776) (hi : i ≤ 1099511627776) (hb : b.length ≤ 930) : (jform gen i b).1 = 0 := by
 have h1 := enc_len9 (n := gen) (by omega); have h2 := enc_len9 (n := i) (by omega); have h3 := enc_len9 (n := b.length) (by omega)
 have hl : (jbody gen i b).length ≤ 961 := by
  unfold jbody encT; rw [seal_len]; simp only [List.length_append]
  omega
 unfold jform; rw [if_neg (by omega)]; simp only []; rw [if_neg (by unfold jsize; omega)]
theorem sectorsF_len {gen : Nat} (hg : gen ≤ 1099511627776) : ∀ (L : List (List Nat)) (i : Nat), i + L.length ≤ 1000000 → (∀ b ∈ L, b.length ≤ 930 ∧ ∀ x ∈ b, x < 256) → L.length ≤ sectorsF gen i L
 |[], i, _, _ => Nat.zero_le _
 |b :: t, i, hi, hb => by
  rw [List.length_cons] at hi; have ih := sectorsF_len hg t (i + 1) (by omega) (fun x hx => hb x (List.mem_cons_of_mem _ hx)); obtain ⟨sz, h1, h2, h3, _⟩ := jform_ok (jform_kv (gen := gen) (i := i) hg (by omega) (hb b (List.mem_cons_self ..)).1) (hb b (List.mem_cons_self ..)).2; rw [sectorsF, List.length_cons]
  omega
def KvOk (l : KV) : Prop := ∀ x ∈ l, x.v.length ≤ 900 ∧ (∀ y ∈ x.v, y < 256) ∧ x.k ≤ 1099511627776
theorem KvM.vals {w : World} {b : Nat} {l : KV} (h : KvM w b l) : KvOk l := by
 obtain ⟨X, _, rfl, h3⟩ := h
 intro x hx
 obtain ⟨y, hy, rfl⟩ := List.mem_map.1 hx
 exact (h3 y hy).2
theorem kvRecs_ok {l : KV} (h : KvOk l) (hl : l.length ≤ 1000000) : ∀ b ∈ kvRecs l, b.length ≤ 930 ∧ ∀ x ∈ b, x < 256 := by
 intro b hb
 rcases List.mem_cons.1 hb with rfl | hb
 ·have := enc_len9 (n := l.length) (by omega)
  exact ⟨by omega, enc_byte _⟩
 ·obtain ⟨x, hx, rfl⟩ := List.mem_map.1 hb
  have h1 := enc_len9 (n := x.k) (by have := (h x hx).2.2; omega); have h2 := enc_len9 (n := x.v.length) (by have := (h x hx).1; omega); have h3 := (h x hx).1
  refine ⟨by unfold encT; simp only [List.length_append]; omega, fun y hy => ?_⟩
  unfold encT at hy; simp only [List.mem_append] at hy
  rcases hy with hy | hy | hy
  ·exact enc_byte _ y hy
  ·exact enc_byte _ y hy
  ·exact (h x hx).2.1 y hy
theorem kvRecs_len (l : KV) : (kvRecs l).length = l.length + 1 := by simp [kvRecs]
theorem Dev.write_e (D : Dev) (i : Int) (b : List Nat) : (D.write i b).1 ≠ 6 := by
 unfold Dev.write; simp only []
 split
 ·simp
 ·split <;> simp
theorem laysF_e : ∀ (k : Nat) (D : Dev) (i : Nat) (b : List Nat), (laysF k D i b).1 ≠ 6
 |0, D, i, b => by simp [laysF]
 |k + 1, D, i, b => by
  unfold laysF; simp only []
  split
  ·exact D.write_e _ _
  ·exact laysF_e k _ _ _
theorem jform_e (gen n : Nat) (b : List Nat) : (jform gen n b).1 ≠ 6 := by
 unfold jform
 split
 ·simp
 ·simp only []
  split <;> simp
theorem Jrn.add_full {J : Jrn} {D : Dev} {b : List Nat} (h : (J.add D b).1 = 6) : J.add D b = (6, J, D) := by
 unfold Jrn.add at h ⊢
 split at h
 ·cases h
 ·rename_i h1
  rw [if_neg h1]; simp only [] at h ⊢
  split at h
  ·exact absurd h (jform_e _ _ _)
  ·rename_i h2
   rw [if_neg h2]
   split at h
   ·rename_i h3; rw [if_pos h3]
   ·split at h
    ·exact absurd h (laysF_e _ _ _ _)
    ·cases h
theorem Jrn.add_len (J : Jrn) (D : Dev) (b : List Nat) : (J.add D b).2.2.l.length = D.l.length := by
 unfold Jrn.add
 split
 ·rfl
 ·simp only []
  split
  ·rfl
  ·split
   ·rfl
   ·split <;> exact (laysF_keep _ _ _ _).1
theorem addsF_len : ∀ (L : List (List Nat)) (J : Jrn) (D : Dev), (addsF L J D).2.2.l.length = D.l.length
 |[], J, D => rfl
 |b :: t, J, D => by
  unfold addsF; simp only []
  split
  ·exact J.add_len D b
  ·exact (addsF_len t _ _).trans (J.add_len D b)
theorem Jrn.add_ok {J : Jrn} {D : Dev} {b : List Nat} (hb : ∀ x ∈ b, x < 256) (h : (J.add D b).1 = 0) (hn : J.n ≤ J.used) : (J.add D b).2.1.n = J.n + 1 ∧ (J.add D b).2.1.n ≤ (J.add D b).2.1.used ∧ (J.add D b).2.1.gone = J.gone := by
 unfold Jrn.add at h ⊢
 split at h
 ·cases h
 ·rename_i h1
  rw [if_neg h1]; simp only [] at h ⊢
  split at h
  ·rename_i h2; exact absurd h h2
  ·rename_i h2
   rw [if_neg h2]; obtain ⟨sz, k1, k2, k3, _⟩ := jform_ok (Classical.not_not.1 h2) hb
   split at h
   ·cases h
   ·rename_i h3
    rw [if_neg h3]
    split at h
    ·rename_i h4; exact absurd h h4
    ·rename_i h4
     rw [if_neg h4]
     exact ⟨rfl, by simp only []; omega, rfl⟩
theorem beginsF_len : ∀ (X : List (Nat × List Nat)) (D : Dev) (e : Nat), (beginsF X D e).2.l.length = D.l.length
 |[], D, e => rfl
 |(i, b) :: t, D, e => by
  unfold beginsF
  split
  ·exact (beginsF_len t _ _).trans (D.write_len i b).1
  ·exact beginsF_len t D e
theorem Jrn.flush_len (J : Jrn) (D : Dev) : (J.flush D).2.2.l.length = D.l.length := by
 have h0 := D.flush_w.1; have h1 : (beginsF J.waits D.flush.2 D.flush.1).2.l.length = D.l.length := (beginsF_len _ _ _).trans (congrArg List.length h0); unfold Jrn.flush
 split
 ·rfl
 ·simp only []
  split
  ·exact (congrArg List.length (beginsF J.waits D.flush.2 D.flush.1).2.flush_w.1).trans h1
  ·exact h1
theorem Dev.flush_ok {D : Dev} (h : D.flush.1 = 0) : D.flush.2.waits = [] := by
 unfold Dev.flush at h ⊢; simp only [] at h ⊢
 split at h
 ·cases h
 ·rename_i h1; rw [if_neg h1]
theorem Jrn.flush_ok {J : Jrn} {D : Dev} (h : (J.flush D).1 = 0) : (J.flush D).2.2.waits = [] ∧ (J.flush D).2.1 = { J with waits := [], gone := false } := by
 unfold Jrn.flush at h ⊢
 split at h
 ·cases h
 ·rename_i h1
  rw [if_neg h1]; simp only [] at h ⊢
  split at h
  ·rename_i h2
   rw [if_pos h2]
   exact ⟨Dev.flush_ok h, by rw [h]; rfl⟩
  ·rename_i h2
   rw [if_neg h2]
   have h3 : J.waits = [] := by
    rcases Nat.eq_zero_or_pos J.waits.length with h4 | h4
    ·exact List.eq_nil_of_length_eq_zero h4
    ·exact absurd ⟨h, h4⟩ h2
   refine ⟨?_, by rw [h]; rfl⟩
   rw [h3] at h ⊢
   exact Dev.flush_ok h
theorem jopen_len (D : Dev) (fr many gen : Nat) : (jopen D fr many gen).2.2.2.l.length = D.l.length ∧ (jopen D fr many gen).2.2.2.waits.length ≤ D.waits.length + many := by
 unfold jopen; simp only []
 split
 ·exact ⟨rfl, Nat.le_add_right _ _⟩
 ·have hs := jsweep_waits D (fr + (jscan D fr many gen).2.2) (many - (jscan D fr many gen).2.2)
  split
  ·exact ⟨hs.1, by have := hs.2; simp only []; omega⟩
  ·exact ⟨hs.1, by have := hs.2; simp only []; omega⟩
theorem Vlt.lay_len (V : Vlt) (at_ gen : Nat) (recs : List (List Nat)) : (V.lay at_ gen recs).2.l.length = V.D.l.length := by
 have h1 := (jsweep_waits V.D at_ V.n).1; unfold Vlt.lay; simp only []
 split
 ·exact h1
 ·have h2 := (jopen_len (jsweep V.D at_ V.n).2 at_ V.n gen).1.trans h1
  split
  ·exact h2
  ·have h3 := (addsF_len recs (jopen (jsweep V.D at_ V.n).2 at_ V.n gen).2.1 (jopen (jsweep V.D at_ V.n).2 at_ V.n gen).2.2.2).trans h2
   split
   ·exact h3
   ·exact (Jrn.flush_len _ _).trans h3
theorem Vlt.lay_ok {V : Vlt} {at_ gen : Nat} {recs : List (List Nat)} (h : (V.lay at_ gen recs).1 = 0) : (V.lay at_ gen recs).2.waits = [] := by
 unfold Vlt.lay at h ⊢; simp only [] at h ⊢
 split at h
 ·rename_i h1; exact absurd h h1
 ·rename_i h1
  rw [if_neg h1]
  split at h
  ·rename_i h2; exact absurd h h2
  ·rename_i h2
   rw [if_neg h2]
   split at h
   ·rename_i h3; exact absurd h h3
   ·rename_i h3
    rw [if_neg h3]
    exact (Jrn.flush_ok h).1
structure VltOk (V : Vlt) (g : Nat) : Prop where
 n4 : V.n = V.D.l.length / 4
 len : 8 ≤ V.D.l.length ∧ V.D.l.length ≤ 4096
 gen : V.gen ≤ g
 ll : V.l.length ≤ 6000
 j : V.gone = false → V.J.waits = [] ∧ V.D.waits.length ≤ 10000 ∧ V.J.gen = V.gen ∧ V.J.from_ = 2 * V.n ∧ V.J.many = V.D.l.length - 2 * V.n ∧ V.J.used ≤ V.J.many ∧ V.J.n ≤ V.J.used ∧ V.l.length ≤ V.n + V.J.n
theorem VltOk.up {V : Vlt} {g g' : Nat} (h : VltOk V g) (hg : g ≤ g') : VltOk V g' := ⟨h.n4, h.len, Nat.le_trans h.gen hg, h.ll, h.j⟩
theorem Vlt.turn_ok {V : Vlt} {g : Nat} {l : KV} (h : VltOk V g) (hk : KvOk l) (hl : l.length ≤ 6000) (hok : DevOk (V.lay ((V.gen + 1 + 1) % 2 * V.n) (V.gen + 1) (kvRecs l)).2) : VltOk (V.turn l).2 (g + 1) := by
 have hll := V.lay_len ((V.gen + 1 + 1) % 2 * V.n) (V.gen + 1) (kvRecs l); have h1 := h.n4; have h2 := h.len; have h3 := h.gen; unfold Vlt.turn; simp only []
 split
 ·exact h.up (Nat.le_succ _)
 ·rename_i hs
  obtain ⟨a, ha⟩ : ∃ a, V.lay ((V.gen + 1 + 1) % 2 * V.n) (V.gen + 1) (kvRecs l) = a := ⟨_, rfl⟩; rw [ha] at hok hll ⊢
  split
  ·exact ⟨by simp only []; omega, by simp only []; omega, by simp only []; omega, h.ll, fun e => by cases e⟩
  ·rename_i hne
   have hw : a.2.waits = [] := by
    rw [← ha]
    exact Vlt.lay_ok (by rw [ha]; exact Classical.not_not.1 hne)
   have hp := jopen_keep hok (2 * V.n) (a.2.l.length - 2 * V.n) (V.gen + 1); rw [show jopen a.2 (2 * V.n) (a.2.l.length - 2 * V.n) (V.gen + 1) = Vlt.part a.2 V.n (V.gen + 1) from rfl] at hp
   have hg : (Vlt.part a.2 V.n (V.gen + 1)).1 = 0 → V.gen + 1 ≤ 1099511627776 := fun e => jopen_gen e
   obtain ⟨p, hpp⟩ : ∃ p, Vlt.part a.2 V.n (V.gen + 1) = p := ⟨_, rfl⟩; rw [hpp] at hp hg ⊢
   refine ⟨by simp only []; omega, by simp only []; omega, by simp only []; omega, hl, fun e => ?_⟩
   simp only [Bool.or_eq_false_iff, bne_eq_false_iff_eq] at e; obtain ⟨q1, q2, q3, q4, q5, q6, q7⟩ := hp.2.2 e.2; have hsl := sectorsF_len (hg e.2) (kvRecs l) 0 (by rw [kvRecs_len]; omega) (kvRecs_ok hk (by omega)); rw [kvRecs_len] at hsl; have hw2 := hp.2.1; rw [hw] at hw2; simp only [List.length_nil] at hw2
   refine ⟨q6, by simp only []; omega, by simp only []; omega, by simp only []; omega, by simp only []; omega, by simp only []; omega, by simp only []; omega, by simp only []; omega⟩
theorem Vlt.keep_ok {V : Vlt} {g : Nat} {b : List Nat} (h : VltOk V g) (hb : ∀ x ∈ b, x < 256) 
  (ht : (V.J.add V.D b).1 = 6 → VltOk (V.turn ((kvChange V.l b).getD V.l)).2 (g + 1)) : VltOk (V.keep b).2 (g + 1) := by
 have h1 := h.n4; have h2 := h.len; have h3 := h.gen; have h4 := h.ll; unfold Vlt.keep
 split
 ·exact h.up (Nat.le_succ _)
 ·rename_i hg
  have hg' : V.gone = false := by simpa using hg
  obtain ⟨j1, j2, j3, j4, j5, j6, j7, j8⟩ := h.j hg'
  have hl1 : ((kvChange V.l b).getD V.l).length ≤ V.l.length + 1 := by
   cases hc : kvChange V.l b with
   |none => exact Nat.le_succ _
   |some l' => exact kvChange_len hc
  have hal := V.J.add_len V.D b; simp only []
  split
  ·rename_i h6
   rw [Jrn.add_full h6]
   exact ht h6
  ·split
   ·exact ⟨by simp only []; omega, by simp only []; omega, by simp only []; omega, h4, fun e => by cases e⟩
   ·rename_i h6 h0
    have ha0 := Classical.not_not.1 h0; have hak := V.J.add_keep V.D hb j6; obtain ⟨k1, k2, k3⟩ := Jrn.add_ok hb ha0 j7; have hfl := (V.J.add V.D b).2.1.flush_len (V.J.add V.D b).2.2
    split
    ·exact ⟨by simp only []; omega, by simp only []; omega, by simp only []; omega, h4, fun e => by cases e⟩
    ·rename_i hf
     obtain ⟨f1, f2⟩ := Jrn.flush_ok (Classical.not_not.1 hf)
     refine ⟨by simp only []; omega, by simp only []; omega, by simp only []; omega, by simp only []; omega, fun _ => ?_⟩
     simp only [f2, f1]; have e1 := hak.gen; have e2 := hak.fr; have e3 := hak.many; have e4 := hak.used
     exact ⟨by trivial, by simp, by omega, by omega, by omega, by omega, by omega, by omega⟩
end Go.Proofs.YtcahcjfgmdpdoaaGreat
