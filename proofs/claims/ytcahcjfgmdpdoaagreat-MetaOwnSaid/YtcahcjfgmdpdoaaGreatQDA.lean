/- One text of: Dvm Dvr Dvw Dvn. -/
import Derived.Deep.MidRow
import Derived.Laws.MakeOwn
import Derived.Great.BuildSlice
import Derived.Test.YtcahcjfgmdpdoaaGreatQDev
set_option maxHeartbeats 2000000
set_option maxRecDepth 100000
namespace Go.Proofs.YtcahcjfgmdpdoaaGreat
open Go.RowKit Go.Proofs Go.Maps
set_option linter.unusedVariables false
set_option linter.unusedSimpArgs false
theorem zA19 {α : Type} (l : List α) (i : Nat) (a : α) : l.toArray.setIfInBounds i a = (l.set i a).toArray := by simp
theorem zB19 {α : Type} (x a : α) (l : List α) : (x :: l).set 0 a = a :: l := rfl
theorem zC19 {α : Type} (x a : α) (l : List α) (n : Nat) : (x :: l).set (n + 1) a = x :: l.set n a := rfl

def secCells (l : List (List Nat)) : List Value := l.flatMap bys
def Wr.cells (x : Wr) : List Value := .int .i64 x.i :: (bys x.was ++ bys x.now)
def wrCells (l : List Wr) : List Value := l.flatMap Wr.cells
theorem secCells_len {l : List (List Nat)} (h : ∀ s ∈ l, s.length = 64) : (secCells l).length = l.length * 64 := by
 induction l with
 |nil => rfl
 |cons s t ih =>
  simp only [secCells, List.flatMap_cons, List.length_append, bys_len, List.length_cons]; rw [h s (by simp)]; have := ih (fun x hx => h x (by simp [hx])); simp only [secCells] at this
  omega
theorem secCells_get {l : List (List Nat)} (h : ∀ s ∈ l, s.length = 64) {i : Nat} (hi : i < l.length) {j : Nat} (hj : j < 64) : (secCells l)[i * 64 + j]? = some (.int .u8 ((l.getD i []).getD j 0 : Nat)) := by
 induction l generalizing i with
 |nil => simp at hi
 |cons s t ih =>
  have hs := h s (by simp); simp only [secCells, List.flatMap_cons]
  cases i with
  |zero =>
   rw [List.getElem?_append_left (by rw [bys_len, hs]; omega)]
   simp [bys, hs, hj, List.getD_eq_getElem?_getD]
  |succ i =>
   rw [List.getElem?_append_right (by rw [bys_len, hs]; omega), bys_len, hs]; have := ih (fun x hx => h x (by simp [hx])) (i := i) (by simpa using hi); simp only [secCells] at this; rw [show (i + 1) * 64 + j - 64 = i * 64 + j by omega, this]
   simp
theorem sec_len {D : Dev} (h : DevOk D) {i : Nat} (hi : i < D.l.length) : (D.l.getD i []).length = 64 := by
 rw [List.getD_eq_getElem?_getD, List.getElem?_eq_getElem hi]
 exact (h.l _ (List.getElem_mem _)).1
theorem sec_byte {D : Dev} (h : DevOk D) {i : Nat} (hi : i < D.l.length) : ∀ c ∈ D.l.getD i [], c < 256 := by
 rw [List.getD_eq_getElem?_getD, List.getElem?_eq_getElem hi]
 exact (h.l _ (List.getElem_mem _)).2
structure DevM (w : World) (d : Nat) (F : List Nat) (D : Dev) : Prop where
 ex : ∃ lb A c, Blk w d 58 [.slice (some ⟨lb, 0, none⟩) D.l.length D.l.length, .slice A D.waits.length c, .int .i64 D.fuse, .bool D.off] ∧ Blk w lb 198 (secCells D.l) ∧
  w.ownsRow 0 248 129 (.slice A D.waits.length c) D.waits.length (wrCells D.waits) ∧ F = d :: lb :: (A.map Addr.block).toList
 ok : DevOk D
 n : 1 ≤ D.l.length ∧ D.l.length ≤ 4096
 fu : -1 ≤ D.fuse ∧ D.fuse ≤ 1000000000
section
variable {w w' : World} {d : Nat} {F G : List Nat} {D : Dev}
theorem own_typed {e t : TypeId} {size n c : Nat} {A : Option Addr} {xs cs : List Value} (h : w.ownsRow 0 e size (.slice A n c) n xs) {g : Nat} (hg : A.map Addr.block = some g) (hb : Blk w g t cs) : t = e := by
 rcases h.2 with ⟨h6, _⟩ | ⟨g2, cap, cur, e2, _, hgg, _⟩
 ·cases h6
  cases hg
 ·cases e2
  cases hg
  unfold Blk at hb; rw [hgg] at hb
  injection hb with hb
  injection hb with q1 q2
  exact q2.symm
theorem DevM.lt (h : DevM w d F D) : ∀ x ∈ F, x < w.heap.size := by
 obtain ⟨lb, A, c, h1, h2, h3, rfl⟩ := h.ex
 intro x hx
 simp only [List.mem_cons, Option.mem_toList] at hx
 rcases hx with rfl | rfl | hx
 ·exact h1.lt
 ·exact h2.lt
 ·exact own_lt h3 (by rw [owS]; exact hx)
theorem DevM.chg (h : DevM w d F D) (hc : Chg G w w') (hn : ∀ x ∈ F, x ∉ G) : DevM w' d F D := by
 obtain ⟨lb, A, c, h1, h2, h3, rfl⟩ := h.ex
 exact ⟨⟨lb, A, c, h1.chg hc (hn _ (by simp)), h2.chg hc (hn _ (by simp)), own_chg h3 hc (fun g hg => hn g (by rw [owS] at hg; simp [hg])), rfl⟩, h.ok, h.n, h.fu⟩
theorem DevM.below (h : DevM w d F D) (hb : Below w.heap.size w w') : DevM w' d F D := h.chg (G := []) (Chg.of_below hb) (by simp)
theorem DevM.here (h : DevM w d F D) : d ∈ F := by obtain ⟨lb, A, c, h1, h2, h3, rfl⟩ := h.ex; simp
def DevT (w w' : World) (d : Nat) (F : List Nat) (D : Dev) : Prop := ∃ F', DevM w' d F' D ∧ Chg F w w' ∧ ∀ x ∈ F', x ∈ F ∨ w.heap.size ≤ x
theorem DevM.stay (h : DevM w d F D) (hb : Below w.heap.size w w') : DevT w w' d F D := ⟨F, h.below hb, Chg.of_below hb, fun x hx => Or.inl hx⟩

theorem dis_calls (h : DevM w d F D) (i : Int) : Calls Tryz.prog 122 #[.pointer (some ⟨d, 0, none⟩), .int .i64 i] w fun e w' => e = .returned (.bool (decide (0 ≤ i ∧ i < D.l.length))) ∧ w = w' := by
 obtain ⟨lb, A, c, h1, h2, h3, rfl⟩ := h.ex; have e0 : w.cell? ⟨d, 0, none⟩ = some (.slice (some ⟨lb, 0, none⟩) D.l.length D.l.length) := h1.cell 0; clear h1 h2 h3 h
 go_enter Tryz.func122, Tryz.ntmps122
 by_cases h0 : 0 ≤ i
 ·by_cases h1 : i < D.l.length
  ·go_wp2
   go_ret
   exact ⟨by simp [h0, h1], rfl⟩
  ·go_wp2
   go_ret
   exact ⟨by simp [h0, h1], rfl⟩
 ·go_wp2
  go_ret
  exact ⟨by simp [h0]; omega, rfl⟩
theorem dlen_calls (h : DevM w d F D) : Calls Tryz.prog 37 #[.pointer (some ⟨d, 0, none⟩)] w fun e w' => e = .returned (.int .i64 D.l.length) ∧ w = w' := by
 obtain ⟨lb, A, c, h1, h2, h3, rfl⟩ := h.ex; have e0 : w.cell? ⟨d, 0, none⟩ = some (.slice (some ⟨lb, 0, none⟩) D.l.length D.l.length) := h1.cell 0; clear h1 h2 h3 h
 go_enter Tryz.func37, Tryz.ntmps37
 go_wp2; go_ret
 exact ⟨rfl, rfl⟩
theorem dburns_calls (h : DevM w d F D) : Calls Tryz.prog 172 #[.pointer (some ⟨d, 0, none⟩)] w fun e w' => e = .returned (.bool D.burn.1) ∧ DevM w' d F D.burn.2 ∧ Chg F w w' := by
 obtain ⟨lb, A, c, h1, h2, h3, rfl⟩ := h.ex; have e2 : w.cell? ⟨d, 2, none⟩ = some (.int .i64 D.fuse) := h1.cell 2; have e3 : w.cell? ⟨d, 3, none⟩ = some (.bool D.off) := h1.cell 3; have f2 := h1.frozen 2; have f3 := h1.frozen 3
 have hdz1 : d ≠ lb := fun e => absurd (h1.one (e ▸ h2)).2 (by decide)
 have hdz2 : ∀ g, A.map Addr.block = some g → g ≠ d := fun g hg e => absurd (own_typed h3 hg (e ▸ h1)) (by decide)
 have step : ∀ (i : Nat) (u : Value), Blk (w.setCell ⟨d, i, none⟩ u) lb 198 (secCells D.l) ∧ (w.setCell ⟨d, i, none⟩ u).ownsRow 0 248 129 (.slice A D.waits.length c) D.waits.length (wrCells D.waits) ∧ Chg [d] w (w.setCell ⟨d, i, none⟩ u) := fun i u => by
  have hc : Chg [d] w (w.setCell ⟨d, i, none⟩ u) := (Chg.refl _ _).setCell (Or.inl (by simp)) _
  exact ⟨h2.chg hc (by simpa using fun e => hdz1 e.symm), own_chg h3 hc (fun g hg hx => hdz2 g (by rw [owS] at hg; exact hg) (by simpa using hx)), hc⟩
 have H := hd3 h h1 step; have HF := h.fu; clear h h1 h2 h3 step
 go_enter Tryz.func172, Tryz.ntmps172
 by_cases ho : D.off = true
 ·have hb : D.burn = (true, D) := by unfold Dev.burn; rw [if_pos ho]
  rw [ho] at e3; rw [hb]; clear ho hb; go_wp2; go_ret
  exact ⟨rfl, H.out.1, Chg.refl _ _⟩
 ·have ho' : D.off = false := by simpa using ho
  rw [ho'] at e3
  by_cases h0 : D.fuse = 0
  ·have hb : D.burn = (true, { D with off := true }) := by unfold Dev.burn; rw [if_neg ho, if_pos h0]
   rw [hb]; rw [h0] at e2; have HS := hide (H.out.2.2 3 (.bool true)); have HB := hide (H.out.2.1.set 3 (.bool true)); clear ho ho' hb h0; go_wp2; go_ret
   exact ⟨rfl, ⟨⟨lb, A, c, HB.out, HS.out.1, HS.out.2.1, rfl⟩, ⟨H.out.1.ok.l, H.out.1.ok.w⟩, H.out.1.n, H.out.1.fu⟩, HS.out.2.2.mono (fun x hx => Or.inl (by simp at hx; simp [hx]))⟩
  ·by_cases hp : 0 < D.fuse
   ·have hb : D.burn = (false, { D with fuse := D.fuse - 1 }) := by unfold Dev.burn; rw [if_neg ho, if_neg h0, if_pos hp]
    rw [hb]; have HS := hide (H.out.2.2 2 (.int .i64 (D.fuse - 1))); have HB := hide (H.out.2.1.set 2 (.int .i64 (D.fuse - 1)))
    have h0' : (D.fuse == 0) = false := by simpa using h0
    have hw : IntKind.i64.wrap (D.fuse - 1) = D.fuse - 1 := IntWalk.i64_in _ (by omega); clear ho ho' hb h0; go_wp2; go_ret
    exact ⟨rfl, ⟨⟨lb, A, c, HB.out, HS.out.1, HS.out.2.1, rfl⟩, ⟨H.out.1.ok.l, H.out.1.ok.w⟩, H.out.1.n, by have := H.out.1.fu; simp only []; omega⟩, HS.out.2.2.mono (fun x hx => Or.inl (by simp at hx; simp [hx]))⟩
   ·have hb : D.burn = (false, D) := by unfold Dev.burn; rw [if_neg ho, if_neg h0, if_neg hp]
    rw [hb]
    have h0' : (D.fuse == 0) = false := by simpa using h0
    clear ho ho' hb h0; go_wp2; go_ret
    exact ⟨rfl, H.out.1, Chg.refl _ _⟩
end

section
variable {w w' : World} {d : Nat} {F G : List Nat} {D : Dev}
theorem sec_reads {lb k : Nat} (h : Blk w lb 198 (secCells D.l)) (hok : DevOk D) (hk : k < D.l.length) : Reads w w.heap.size 1 (some ⟨lb, k * 64, none⟩) (D.l.getD k []).length (bys (D.l.getD k [])) :=
 ⟨by rw [bys_len]; omega, fun _ => ⟨lb, k * 64, rfl, h.lt, fun j u hu => by
  have hj : j < (D.l.getD k []).length := by have := (List.getElem?_eq_some_iff.1 hu).1; simpa [bys] using this
  have hl := sec_len hok hk; rw [h.cell, secCells_get (fun s hs => (hok.l s hs).1) hk (by omega), ← hu, bys_get hj]
  congr 3
  rw [List.getD_eq_getElem?_getD, List.getElem?_eq_getElem hj]
  rfl⟩⟩
theorem dread_calls (h : DevM w d F D) (i : Int) : Calls Tryz.prog 75 #[.pointer (some ⟨d, 0, none⟩), .int .i64 i] w fun e w' => ∃ A c, e = .returned (.tuple #[.slice A (D.read i).2.length c, .int .i64 (D.read i).1]) ∧ OwnB w w' A c (D.read i).2 ∧ Below w.heap.size w w' := by
 obtain ⟨lb, A, c, h1, h2, h3, rfl⟩ := h.ex; have e0 : w.cell? ⟨d, 0, none⟩ = some (.slice (some ⟨lb, 0, none⟩) D.l.length D.l.length) := h1.cell 0; have e3 : w.cell? ⟨d, 3, none⟩ = some (.bool D.off) := h1.cell 3; have HIS := hide (dis_calls h i); have H := hd2 h h2; have hn := h.n; clear h h1 h2 h3; obtain ⟨R, hR⟩ : ∃ R, D.read i = R := ⟨_, rfl⟩; rw [hR]; unfold Dev.read at hR
 go_enter Tryz.func75, Tryz.ntmps75
 by_cases ho : D.off = true
 ·rw [ho] at e3
  rw [if_pos ho] at hR; subst hR; clear ho; go_wp2
  go_ret2
  exact ⟨none, 0, rfl, OwnB.nil _ _ _ _ rfl rfl, Below.refl _ _⟩
 ·have ho' : D.off = false := by simpa using ho
  rw [ho'] at e3; rw [if_neg ho] at hR
  by_cases hin : i < 0 ∨ (D.l.length : Int) ≤ i
  ·rw [if_pos hin] at hR
   subst hR
   have hd : decide (0 ≤ i ∧ i < D.l.length) = false := by simp; omega
   clear ho ho' hin; go_wp2_with fail; refine HIS.out.mono ?_; rintro e w' ⟨rfl, rfl⟩; rw [hd]; clear hd; go_wp2
   go_ret2
   exact ⟨none, 0, rfl, OwnB.nil _ _ _ _ rfl rfl, Below.refl _ _⟩
  ·rw [if_neg hin] at hR
   have hd : decide (0 ≤ i ∧ i < D.l.length) = true := by simp; omega
   clear ho ho'; go_wp2_with fail; refine HIS.out.mono ?_; rintro e w' ⟨rfl, rfl⟩; rw [hd]; obtain ⟨k, rfl⟩ : ∃ k : Nat, i = k := ⟨i.toNat, by omega⟩
   have k1 : k < D.l.length := by omega
   have k2 : (k : Int) < D.l.length := by omega
   simp only [Int.toNat_natCast] at hR; obtain ⟨sec, hsec⟩ : ∃ s, D.l.getD k [] = s := ⟨_, rfl⟩; have hl := sec_len H.out.1.ok k1; have HC := cloneB_calls (some ⟨lb, k * 64, none⟩) 64 (D.l.getD k []) w (by omega) (sec_reads H.out.2 H.out.1.ok k1); rw [hl, hsec] at HC; rw [hsec] at hR hl; subst hR; have HC := hide HC; have HL := hide hl; clear hin hd hl k1 hsec; go_wp2_with fail; refine HC.out.mono ?_; rintro e w' ⟨A', c', rfl, ho, hb⟩; have HO := hd2 ho hb; clear ho hb; go_wp2
   go_ret2
   exact ⟨A', c', by rw [HL.out]; rfl, HO.out⟩
theorem dflush_calls (h : DevM w d F D) : Calls Tryz.prog 153 #[.pointer (some ⟨d, 0, none⟩)] w fun e w' => e = .returned (.int .i64 D.flush.1) ∧ DevT w w' d F D.flush.2 := by
 have HBU := hide (dburns_calls h); unfold Dev.flush; clear h
 go_enter Tryz.func153, Tryz.ntmps153
 obtain ⟨bb, hbb⟩ : ∃ b, D.burn.1 = b := ⟨_, rfl⟩; obtain ⟨D1, hD1⟩ : ∃ x, D.burn.2 = x := ⟨_, rfl⟩; rw [hbb, hD1] at HBU; simp only [hbb, hD1]; clear hbb hD1; go_wp2_with fail; refine HBU.out.mono ?_; rintro e w1 ⟨rfl, hd, hc⟩
 cases bb with
 |true =>
  have H := hd2 hd hc; clear hd hc HBU; go_wp2; go_ret
  exact ⟨rfl, F, H.out.1, H.out.2, fun x hx => Or.inl hx⟩
 |false =>
  obtain ⟨lb, A, c, h1, h2, h3, rfl⟩ := hd.ex; have e1 : w1.cell? ⟨d, 1, none⟩ = some (.slice A D1.waits.length c) := h1.cell 1; have f1 := h1.frozen 1; have hs : Chg (d :: lb :: (A.map Addr.block).toList) w1 (w1.setCell ⟨d, 1, none⟩ (.slice none 0 0)) := (Chg.refl _ _).setCell (p := ⟨d, 1, none⟩) (Or.inl (by simp)) _
  have hdz1 : d ≠ lb := fun e => absurd (h1.one (e ▸ h2)).2 (by decide)
  have hM : DevM (w1.setCell ⟨d, 1, none⟩ (.slice none 0 0)) d [d, lb] { D1 with waits := [] } := ⟨⟨lb, none, 0, h1.set 1 _, h2.chg ((Chg.refl [d] _).setCell (p := ⟨d, 1, none⟩) (Or.inl (by simp)) _) (by simpa using fun e => hdz1 e.symm), ownsRow_nil _ _ _, rfl⟩, ⟨hd.ok.l, by simp⟩, hd.n, hd.fu⟩; have H := hd2 hM (hc.same hs); clear hd hc h1 h2 h3 hs hM HBU; go_wp2; go_ret
  exact ⟨rfl, [d, lb], H.out.1, H.out.2, fun x hx => Or.inl (by simp at hx; rcases hx with rfl | rfl <;> simp)⟩
end

def setL : List Value → Nat → List Value → List Value
 |cs, _, [] => cs
 |cs, o, v :: r => setL (cs.set o v) (o + 1) r
theorem setL_get : ∀ (vs cs : List Value) (o j : Nat), o + vs.length ≤ cs.length → (setL cs o vs)[j]? = if o ≤ j ∧ j < o + vs.length then vs[j - o]? else cs[j]?
 |[], cs, o, j, _ => by
  rw [setL, if_neg (by simp)]
 |v :: r, cs, o, j, h => by
  simp only [List.length_cons] at h ⊢; rw [setL, setL_get r _ (o + 1) j (by simp; omega)]
  by_cases e : j = o
  ·subst e
   rw [if_neg (by omega), if_pos (by omega), List.getElem?_set_self (by omega)]
   simp
  ·by_cases h2 : o + 1 ≤ j ∧ j < o + 1 + r.length
   ·rw [if_pos h2, if_pos (by omega), show j - o = (j - (o + 1)) + 1 by omega]
    rfl
   ·rw [if_neg h2, if_neg (by omega), List.getElem?_set_ne (fun h => e h.symm)]
theorem Blk.setCells {b : Nat} {t : TypeId} : ∀ (vs : List Value) (o : Nat) {w : World} {cs : List Value}, Blk w b t cs → Blk (w.setCells b o vs) b t (setL cs o vs)
 |[], _, _, _, h => h
 |v :: r, o, _, _, h => Blk.setCells r (o + 1) (h.set o v)
theorem Chg.setCells {L : List Nat} {b : Nat} {a : World} : ∀ (vs : List Value) (o : Nat) {w : World}, Chg L a w → (b ∈ L ∨ a.heap.size ≤ b) → Chg L a (w.setCells b o vs)
 |[], _, _, h, _ => h
 |v :: r, o, _, h, hb => Chg.setCells r (o + 1) (h.setCell (p := ⟨b, o, Option.none⟩) hb v) hb
theorem Blk.there {w : World} {b : Nat} {t : TypeId} {cs : List Value} (h : Blk w b t cs) {o n : Nat} (hn : o + n ≤ cs.length) : w.there b o n := fun j hj => by
 rw [h.cell, h.frozen, List.getElem?_eq_getElem (by omega)]
 exact ⟨rfl, rfl⟩
theorem secCells_set {l : List (List Nat)} (h : ∀ s ∈ l, s.length = 64) {k : Nat} (hk : k < l.length) {s : List Nat} (hs : s.length = 64) : setL (secCells l) (k * 64) (bys s) = secCells (l.set k s) := by
 have h' : ∀ x ∈ l.set k s, x.length = 64 := fun x hx => by
  rcases List.mem_or_eq_of_mem_set hx with hx | rfl
  ·exact h x hx
  ·exact hs
 have hl := secCells_len h; have hl' := secCells_len h'; simp only [List.length_set] at hl'
 apply List.ext_getElem?
 intro j
 rw [setL_get _ _ _ _ (by rw [bys_len, hs, hl]; omega), bys_len, hs]
 by_cases hj : j < l.length * 64
 ·have e : j = (j / 64) * 64 + j % 64 := by omega
  have hi : j / 64 < l.length := by omega
  have hr : j % 64 < 64 := by omega
  obtain ⟨i, hie⟩ : ∃ i, j / 64 = i := ⟨_, rfl⟩; obtain ⟨r, hre⟩ : ∃ r, j % 64 = r := ⟨_, rfl⟩; rw [hie] at e hi; rw [hre] at e hr; subst e; rw [secCells_get h' (by simpa using hi) hr, secCells_get h hi hr]
  by_cases hik : i = k
  ·subst hik
   rw [if_pos (by omega), show i * 64 + r - i * 64 = r by omega, bys_get (by omega)]
   simp [List.getD_eq_getElem?_getD, hi, hs, hr]
  ·rw [if_neg (by omega)]
   have e2 : (l.set k s).getD i [] = l.getD i [] := by
    simp only [List.getD_eq_getElem?_getD]; rw [List.getElem?_set_ne (Ne.symm hik)]
   rw [e2]
 ·rw [if_neg (by omega), List.getElem?_eq_none (by omega), List.getElem?_eq_none (by omega)]
theorem ofFn64 {α : Type} (l : List α) (h : l.length = 64) : ∃ x : Fin 64 → α, l = List.ofFn x := ⟨fun i => l[i], by
 apply List.ext_getElem (by rw [List.length_ofFn, h])
 intro i h1 h2
 rw [List.getElem_ofFn]
 rfl⟩
theorem wr_built1 (i : Int) (x y : Fin 64 → Value) : Tryz.prog.built 248 [(0, .int .i64 i), (1, .agg (List.ofFn x).toArray), (2, .agg (List.ofFn y).toArray)] = some (.int .i64 i :: (List.ofFn x ++ List.ofFn y)).toArray := by
 kernel_rfl
theorem Dev.burn_l (D : Dev) : D.burn.2.l = D.l ∧ D.burn.2.waits = D.waits := by
 unfold Dev.burn
 split
 ·exact ⟨rfl, rfl⟩
 ·split
  ·exact ⟨rfl, rfl⟩
  ·split <;> exact ⟨rfl, rfl⟩
theorem bys64 {s : List Nat} (h : s.length = 64) : ∃ x : Fin 64 → Value, bys s = List.ofFn x := ofFn64 (bys s) (by rw [bys_len, h])
theorem run_arr64 (b o c : Nat) (w : World) : (Instr.arrayAt 198 (.slice (some ⟨b, o, none⟩) 64 c)).run Tryz.prog w = .ok (.pointer (some ⟨b, o, none⟩)) w := by kernel_rfl
theorem run_wr (i : Int) {a s : List Nat} (ha : a.length = 64) (hs : s.length = 64) (w : World) : (Instr.build 248 #[(0, .int .i64 i), (1, .agg (bys a).toArray), (2, .agg (bys s).toArray)]).run Tryz.prog w = .ok (.agg (.int .i64 i :: (bys a ++ bys s)).toArray) w := by
 obtain ⟨x, hx⟩ := bys64 ha; obtain ⟨y, hy⟩ := bys64 hs; rw [hx, hy]
 exact run_build w _ _ _ (wr_built1 i x y)
theorem setL_all {cs vs : List Value} (h : vs.length = cs.length) : setL cs 0 vs = vs := by
 apply List.ext_getElem?
 intro j
 rw [setL_get _ _ _ _ (by omega)]
 by_cases hj : j < vs.length
 ·rw [if_pos (by omega)]; rfl
 ·rw [if_neg (by omega), List.getElem?_eq_none (by omega), List.getElem?_eq_none (by omega)]
theorem wr_zero : Tryz.zeroCells248.toList.length = 129 := by kernel_rfl
theorem Tryz.infoW : (Tryz.prog.info? 248).map (fun i => (i.zero, i.size, i.bytes)) = some (some (.agg Tryz.zeroCells248), 129, 136) := by kernel_rfl
theorem wr_fill1 (i : Int) (x y : Fin 64 → Value) : Instr.fill (fun j => some (j * 129, 129)) ((Array.range (1 * 129)).map ((Value.agg Tryz.zeroCells248).cells[· % (Value.agg Tryz.zeroCells248).cells.size]!)) [(0, .agg (.int .i64 i :: (List.ofFn x ++ List.ofFn y)).toArray)] = some (.int .i64 i :: (List.ofFn x ++ List.ofFn y)).toArray := by
 kernel_rfl
theorem wr_fill (i : Int) {a s : List Nat} (ha : a.length = 64) (hs : s.length = 64) : Instr.fill (fun j => some (j * 129, 129)) ((Array.range (1 * 129)).map ((Value.agg Tryz.zeroCells248).cells[· % (Value.agg Tryz.zeroCells248).cells.size]!)) [(0, .agg (.int .i64 i :: (bys a ++ bys s)).toArray)] = some (.int .i64 i :: (bys a ++ bys s)).toArray := by
 obtain ⟨x, hx⟩ := bys64 ha; obtain ⟨y, hy⟩ := bys64 hs; rw [hx, hy]
 exact wr_fill1 i x y
theorem run_exec_load {op : Oper} {a : Act} {w : World} {v p : Value} (ty : TypeId) (x : Operand) (ho : op.op = .load ty x) (hx : a.eval x = p) (h : (Instr.loadAt ty p).run Tryz.prog w = .ok v w) : (execOp a.eval op).run Tryz.prog w = .ok (.value v) w := by
 unfold execOp; simp only [ho, hx, Sem.run_bind, h, Result.andThen_ok, Sem.run_pure]
theorem run_exec_build {op : Oper} {a : Act} {w : World} {v : Value} (t : TypeId) (parts : Array (Nat × Operand)) {ps : Array (Nat × Value)} (ho : op.op = .build t parts) (hp : (parts.map fun x => (x.1, a.eval x.2)) = ps) (h : (Instr.build t ps).run Tryz.prog w = .ok v w) : (execOp a.eval op).run Tryz.prog w = .ok (.value v) w := by
 unfold execOp; simp only [ho, hp, Sem.run_bind, h, Result.andThen_ok, Sem.run_pure]
theorem dwrite_calls {w : World} {d : Nat} {F : List Nat} {D : Dev} (h : DevM w d F D) (i : Int) {A : Option Addr} {c : Nat} {b : List Nat} (hb : Rb w F A c b) (hbb : ∀ x ∈ b, x < 256) (hw : D.waits.length ≤ 100000) :
  Calls Tryz.prog 152 #[.pointer (some ⟨d, 0, none⟩), .int .i64 i, .slice A b.length c] w fun e w' => e = .returned (.int .i64 (D.write i b).1) ∧ DevT w w' d F (D.write i b).2 := by
 have HBU := hide (dburns_calls h); have hl1 := D.burn_l; have hn := h.n; have HB := hd3 hb hbb h; obtain ⟨R, hR⟩ : ∃ R, D.write i b = R := ⟨_, rfl⟩; rw [hR]; unfold Dev.write at hR; obtain ⟨bb, hbe⟩ : ∃ b, D.burn.1 = b := ⟨_, rfl⟩; obtain ⟨D1, hD1⟩ : ∃ x, D.burn.2 = x := ⟨_, rfl⟩; rw [hbe, hD1] at HBU; rw [hD1] at hl1; simp only [hbe, hD1] at hR; clear hbe hD1 h hb hbb
 go_enter Tryz.func152, Tryz.ntmps152
 go_wp2_with fail; refine HBU.out.mono ?_; rintro e w1 ⟨rfl, hd, hc⟩
 cases bb with
 |true =>
  rw [if_pos rfl] at hR; subst hR; have H := hd2 hd hc; clear hd hc HBU; go_wp2; go_ret
  exact ⟨rfl, F, H.out.1, H.out.2, fun x hx => Or.inl hx⟩
 |false =>
  rw [if_neg (by simp)] at hR; have HIS := hide (dis_calls hd i); rw [hl1.1] at HIS
  by_cases hbad : i < 0 ∨ (D.l.length : Int) ≤ i ∨ b.length ≠ 64
  ·rw [if_pos hbad] at hR
   subst hR; have H := hd2 hd hc; clear hd hc HBU
   by_cases hin : 0 ≤ i ∧ i < (D.l.length : Int)
   ·have hd : decide (0 ≤ i ∧ i < (D.l.length : Int)) = true := by simpa using hin
    have hne : ((b.length : Int) != 64) = true := by simp; omega
    clear hin; go_wp2_with fail; refine HIS.out.mono ?_; rintro e w' ⟨rfl, rfl⟩; rw [hd]; clear hd hbad; go_wp2; go_ret
    exact ⟨rfl, F, H.out.1, H.out.2, fun x hx => Or.inl hx⟩
   ·have hd : decide (0 ≤ i ∧ i < (D.l.length : Int)) = false := by simpa using hin
    clear hin hbad; go_wp2_with fail; refine HIS.out.mono ?_; rintro e w' ⟨rfl, rfl⟩; rw [hd]; clear hd; go_wp2; go_ret
    exact ⟨rfl, F, H.out.1, H.out.2, fun x hx => Or.inl hx⟩
  ·rw [if_neg hbad] at hR
   have hdz2 : decide (0 ≤ i ∧ i < (D.l.length : Int)) = true := by simp; omega
   have hb64 : b.length = 64 := by omega
   obtain ⟨k, rfl⟩ : ∃ k : Nat, i = k := ⟨i.toNat, by omega⟩
   have k1 : (k : Int) < D.l.length := by omega
   have k1' : k < D.l.length := by omega
   simp only [Int.toNat_natCast] at hR; subst hR
   obtain ⟨Ab, c', rfl⟩ : ∃ b', ∃ o, A = some ⟨b', o, none⟩ := by
    obtain ⟨b', o, e, _⟩ := HB.out.1.at_ (by omega)
    exact ⟨b', o, e⟩
   obtain ⟨lb, Aw, cw, h1, h2, h3, rfl⟩ := hd.ex; rw [hl1.1, hl1.2] at h1; rw [hl1.1] at h2; rw [hl1.2] at h3; have HB1 := HB.out.1.chg hc (fun z hz => Or.inl hz); obtain ⟨b2, o2, e2, hlt2, hnb2, hcb2⟩ := HB1.at_ (by omega)
   cases e2
   obtain ⟨sec, hsec⟩ : ∃ s, D.l.getD k [] = s := ⟨_, rfl⟩
   have hsl : sec.length = 64 := by rw [← hsec]; exact sec_len HB.out.2.2.ok k1'
   have hlb : lb < w1.heap.size := h2.lt; have r1 := Below.refl w1.heap.size w1; have e0 := h1.rule 0 _ rfl
   have rg1 : w1.rangeAt lb (k * 64) (bys sec) := fun j v hv => by
    have hj : j < sec.length := by have := (List.getElem?_eq_some_iff.1 hv).1; simpa [bys] using this
    rw [h2.cell, secCells_get (fun s hs => (HB.out.2.2.ok.l s hs).1) k1' (by omega), ← hv, bys_get hj, hsec]
    congr 3
    rw [List.getD_eq_getElem?_getD, List.getElem?_eq_getElem hj]
    rfl
   have rg2 : w1.rangeAt Ab c' (bys b) := fun j v hv => by
    have hj : j < b.length := by have := (List.getElem?_eq_some_iff.1 hv).1; simpa [bys] using this
    rw [hcb2 j hj, ← hv, bys_get hj]
   have ld1 : ∀ w', Below w1.heap.size w1 w' → (Instr.loadAt 198 (.pointer (some ⟨lb, k * 64, none⟩))).run Tryz.prog w' = .ok (.agg (bys sec).toArray) w' := fun w' hb' =>
    run_loadAt_mid w' lb (k * 64) _ _ _ (fun j v hv => (hb'.cell (p := ⟨lb, k * 64 + j, none⟩) hlb).trans (rg1 j v hv)) Tryz.underlying198 rfl (by rw [bys_len, hsl]; kernel_rfl)
   have ld2 : ∀ w', Below w1.heap.size w1 w' → (Instr.loadAt 198 (.pointer (some ⟨Ab, c', none⟩))).run Tryz.prog w' = .ok (.agg (bys b).toArray) w' := fun w' hb' =>
    run_loadAt_mid w' Ab c' _ _ _ (fun j v hv => (hb'.cell (p := ⟨Ab, c' + j, none⟩) hlt2).trans (rg2 j v hv)) Tryz.underlying198 rfl (by rw [bys_len, hb64]; kernel_rfl)
   have arr := run_arr64 Ab c' c; have bw := run_wr k hsl hb64; obtain ⟨a3, ha3⟩ : ∃ a3, Value.int IntKind.i64 (k : Int) :: (bys sec ++ bys b) = a3 := ⟨_, rfl⟩; have hfl := wr_fill k hsl hb64; rw [ha3] at bw hfl; obtain ⟨iw, hiw, hzw, hsw, hbw⟩ := info_parts Tryz.infoW
   have ha3l : a3.length = 129 := by rw [← ha3]; simp [bys_len, hsl, hb64]
   have ha31 : ∀ v ∈ a3, v.oneCell' = true := by
    rw [← ha3]
    intro v hv
    rcases List.mem_cons.1 hv with rfl | hv
    ·rfl
    ·rcases List.mem_append.1 hv with hv | hv
     ·exact bys_one _ _ hv
     ·exact bys_one _ _ hv
   have ha32 := all_oneCell_toArray ha31
   have tz : ∀ w' : World, w'.heap.size = w1.heap.size → (w'.alloc (.cells Tryz.zeroCells248 248)).there w1.heap.size 0 a3.toArray.size := fun w' e => by
    have h3 : Blk (w'.alloc (.cells Tryz.zeroCells248 248)) w1.heap.size 248 Tryz.zeroCells248.toList := Blk.new e
    exact h3.there (by rw [List.size_toArray, ha3l, wr_zero]; exact Nat.le_refl _)
   have hdA : d ∉ (Aw.map Addr.block).toList := fun hx => absurd (own_typed h3 (by simpa using hx) h1) (by decide)
   have hlA : lb ∉ (Aw.map Addr.block).toList := fun hx => absurd (own_typed h3 (by simpa using hx) h2) (by decide)
   have hnA : w1.heap.size ∉ (Aw.map Addr.block).toList := fun hx => by have := own_lt h3 (g := w1.heap.size) (by rw [owS]; simpa using hx); omega
   have hdl : lb ≠ d := fun e => by
    have h9 := h2; rw [e] at h9
    exact absurd (h9.one h1).2 (by decide)
   have hdn : w1.heap.size ≠ d := fun e => by have := h1.lt; omega
   have HD := hd5 h1 h2 h3 hd hc; have HX := hd8 hsec hsl hb64 rg1 rg2 ha3 ha3l ha31; rw [hb64]; clear h1 h2 h3 hd hc HBU rg1 rg2 hsec hsl hcb2 hnb2 ha3 ha31 hbad k1' hlb hlt2 HB1 hl1 hb64; go_wp2_with fail; refine HIS.out.mono ?_; rintro e w' ⟨rfl, rfl⟩; rw [hdz2]; clear hdz2 HIS
   go_upto_region 5 with fail
   refine region_lx (fun w' => Below w1.heap.size w1 w') [13] [2, 2, 2, 2, 0, 2, 2, 0, 2, 2, 0, 2, 1, 3] (by (first | exact r1.drew | exact belowL r1 _ | exact belowL r1.drew _)) (fun hS0 => ?_)
   (iterate 7 (first | refine lxt ?_ | refine lxp ?_)); (apply lxT (by rfl); (focus (intro w hw; (try dsimp only at hw); exact run_exec_load _ _ rfl rfl (ld1 w hw))); simp only [Act.put, zA19, zB19, zC19]); (iterate 2 (refine lxp ?_)); (apply lxT (by rfl); (focus (intro w hw; (try dsimp only at hw); exact run_exec_load _ _ rfl rfl (ld2 w hw))); simp only [Act.put, zA19, zB19, zC19]); (apply lxP (by rfl); (focus (intro w; exact run_exec_build (ps := #[(0, .int .i64 (k : Int)), (1, .agg (bys sec).toArray), (2, .agg (bys b).toArray)]) _ _ rfl (by simp [Act.eval]) (bw w))); simp only [Act.put, zA19, zB19, zC19])
   (refine lxe ?_; go_simp; refine lxB (by (first | exact r1.drew | exact belowL r1 _ | exact belowL r1.drew _)) (fun hS1 => ?_))
   (refine lxn ?_; (refine wp_store_mid 248 _ _ rfl w1.heap.size 0 a3.toArray rfl rfl (tz _ rfl) (by rw [List.size_toArray, ha3l]; kernel_rfl) ha32 ?_); (try simp only [Act.put]))
   refine lxN ?_
   obtain ⟨w2, hw2⟩ : ∃ w2, (w1.alloc (.cells Tryz.zeroCells248 248)).drew.setCells w1.heap.size 0 a3 = w2 := ⟨_, rfl⟩
   have hB2 : Blk w2 w1.heap.size 248 a3 := by
    have h3 := Blk.setCells a3 0 (Blk.drewT (Blk.new (w := w1) (cs := Tryz.zeroCells248.toList) (t := 248) (b := w1.heap.size) rfl)); rw [setL_all (by rw [wr_zero, ha3l])] at h3; rw [← hw2]
    exact h3
   have hb2 : Below w1.heap.size w1 w2 := by
    rw [← hw2]
    exact (Chg.setCells (L := []) a3 0 (((Chg.refl [] w1).alloc _).drew) (Or.inr (Nat.le_refl _))).none
   rw [hw2]; clear hw2 tz bw arr ld1 ld2 e0; have r2 := Below.refl w2.heap.size w2; have HM := HD.out.1.below hb2; have HO := own_chg HD.out.2.2.1 (Chg.of_below (L := []) hb2) (by simp); have e1 := HM.rule 1 _ rfl; have hnb : w1.heap.size < w2.heap.size := hB2.lt
   have ld3 : ∀ w', Below w2.heap.size w2 w' → (Instr.loadAt 248 (.pointer (some ⟨w1.heap.size, 0, none⟩))).run Tryz.prog w' = .ok (.agg a3.toArray) w' := fun w' hb' =>
    run_loadAt_mid w' w1.heap.size 0 _ _ _ (fun j v hv => by rw [Nat.zero_add]; exact (hb'.cell (p := ⟨w1.heap.size, j, none⟩) hnb).trans ((hB2.cell j).trans hv)) Tryz.underlying248 rfl (by rw [ha3l]; kernel_rfl)
   go_upto_region 6 with fail
   refine region_lx (fun w' => Below w2.heap.size w2 w') [7] [2, 2, 2, 2, 0, 0, 1, 3, 2, 2, 3] (by (first | exact r2.drew | exact belowL r2 _ | exact belowL r2.drew _)) (fun hS0 => ?_)
   (iterate 5 (first | refine lxt ?_ | refine lxp ?_)); (apply lxT (by rfl); (focus (intro w hw; (try dsimp only at hw); exact run_exec_load _ _ rfl rfl (ld3 w hw))); simp only [Act.put, zA19, zB19, zC19])
   (refine lxe ?_; (refine wp_buildSlice 56 248 1 _ rfl a3.toArray iw _ Tryz.underlying56 hiw hzw (by rw [hsw]; decide) (by rw [hsw]; decide) (by rw [hsw]; simp only [List.map_toArray, List.map_cons, List.map_nil]; exact hfl) ?_); (try simp only [Act.put, zA19, zB19, zC19]); refine lxB (by (first | exact r2.drew | exact belowL r2 _ | exact belowL r2.drew _)) (fun hS1 => ?_))
   (refine lxn ?_; (refine app_wp _ _ 56 rfl 248 iw _ 129 136 Tryz.underlying56 hiw hzw hsw hbw (by kernel_rfl) (by decide) (.slice Aw D.waits.length cw) D.waits.length (wrCells D.waits) rfl (own_chg HO (((Chg.refl [] _).drew).alloc _) (by simp)) w2.drew.heap.size 1 1 a3 rfl (Blk.new rfl) (by rw [ha3l]) HX.out.2.2.2.2.2.2.2 (by decide) (by unfold maxLen; omega) (by omega) ?_; intro g cap' w3 hown3 hch hor hlt; rw [owS] at hch hor; have P3 := (Blk.alloc (Blk.drewT HM) _).chg hch hdA; have d1 := P3.cell 1; have d0 := P3.cell 0; have f1 := P3.frozen 1); (try simp only [Act.put, zA19, zB19, zC19]))
   (iterate 2 (refine lxp ?_))
   (refine lxn ?_; go_simp)
   refine lxN ?_
   have hgd : g ≠ d := fun e => absurd (own_typed hown3 rfl (e ▸ P3)) (by decide)
   have L3 := (Blk.alloc (Blk.drewT (HD.out.2.1.below hb2)) (.cells a3.toArray 248)).chg hch hlA; have N3 := (Blk.alloc (Blk.drewT hB2) (.cells a3.toArray 248)).chg hch hnA
   have hgl : g ≠ lb := fun e => absurd (own_typed hown3 rfl (e ▸ L3)) (by decide)
   have C3 : Chg (d :: lb :: (Aw.map Addr.block).toList) w1 w3 := (((Chg.of_below (L := d :: lb :: (Aw.map Addr.block).toList) hb2).drew).alloc _).trans hch (fun z hz => Or.inl (by simp [hz]))
   have hg : g ∈ d :: lb :: (Aw.map Addr.block).toList ∨ w1.heap.size ≤ g := by
    rcases hor with hor | hor
    ·exact Or.inl (by rw [hor]; simp)
    ·exact Or.inr (by have := hb2.size; rw [hor]; simp; omega)
   have P4 := P3.set 1 (.slice (some ⟨g, 0, none⟩) (D.waits.length + 1) cap'); obtain ⟨w4, hw4⟩ : ∃ w4, w3.setCell ⟨d, 1, none⟩ (.slice (some ⟨g, 0, none⟩) (D.waits.length + 1) cap') = w4 := ⟨_, rfl⟩
   have C4 : Chg [d] w3 w4 := by rw [← hw4]; exact (Chg.refl [d] w3).setCell (Or.inl (by simp)) _
   rw [hw4] at P4
   have O4 := own_chg hown3 C4 (fun z hz => by
    obtain rfl : g = z := by simpa [Value.ownBlock] using hz
    simpa using hgd)
   have L4 := L3.chg C4 (by simpa using hdl); have N4 := N3.chg C4 (by simpa using hdn); have hA := hd5 hgd hgl hg O4 (C3.trans C4 (fun z hz => Or.inl (by rw [List.mem_singleton.1 hz]; simp))); have r4 := Below.refl w4.heap.size w4; have e0 := P4.rule 0 _ rfl; simp only [List.set_cons_succ, List.set_cons_zero] at P4; have hnb4 : w1.heap.size < w4.heap.size := N4.lt
   have ld4 : ∀ w', Below w4.heap.size w4 w' → (Instr.loadAt 198 (.pointer (some ⟨w1.heap.size, 65, none⟩))).run Tryz.prog w' = .ok (.agg (bys b).toArray) w' := fun w' hb' =>
    run_loadAt_mid w' w1.heap.size 65 _ _ _ (fun j v hv => (hb'.cell (p := ⟨w1.heap.size, 65 + j, none⟩) hnb4).trans ((N4.cell (65 + j)).trans (by rw [← hv, ← HX.out.2.2.2.2.2.1, show 65 + j = (64 + j) + 1 by omega, List.getElem?_cons_succ, List.getElem?_append_right (by rw [bys_len, HX.out.2.1]; omega), bys_len, HX.out.2.1, show 64 + j - 64 = j by omega]))) Tryz.underlying198 rfl (by rw [bys_len, HX.out.2.2.1]; kernel_rfl)
   have HT4 := L4.there (o := k * 64) (n := 64) (by rw [secCells_len (fun s hs => (HB.out.2.2.ok.l s hs).1)]; omega); have HW4 := hide hw4; rw [hw4]; clear hw4 hown3 hch hor hlt P3 L3 N3 C3 C4 hgd hgl hg O4 ld3 d1 d0 f1 hB2 hb2 HM HO e1 hnb hS0 hS1 r2
   go_upto_region 7 with fail
   refine region_lx (fun w' => Below w4.heap.size w4 w') [8] [2, 2, 2, 0, 2, 2, 0, 2, 3] (by (exact r4.drew)) (fun hS0 => ?_)
   (iterate 6 (first | refine lxt ?_ | refine lxp ?_)); (apply lxT (by rfl); (focus (intro w hw; (try dsimp only at hw); exact run_exec_load _ _ rfl rfl (ld4 w hw))); simp only [Act.put, zA19, zB19, zC19])
   refine lxp ?_
   (refine lxn ?_; (refine wp_store_mid 198 _ _ rfl lb (k * 64) (bys b).toArray rfl rfl (by rw [List.size_toArray, bys_len, HX.out.2.2.1]; exact HT4) (by rw [List.size_toArray, bys_len, HX.out.2.2.1]; kernel_rfl) (all_oneCell_toArray (bys_one b)) ?_); (try simp only [Act.put]))
   refine lxN ?_
   obtain ⟨w5, hw5⟩ : ∃ w5, w4.drew.setCells lb (k * 64) (bys b) = w5 := ⟨_, rfl⟩
   have C5 : Chg [lb] w4 w5 := by rw [← hw5]; exact Chg.setCells _ _ ((Chg.refl [lb] w4).drew) (Or.inl (by simp))
   have L5 : Blk w5 lb 198 (secCells (D.l.set k b)) := by
    rw [← hw5, ← secCells_set (fun s hs => (HB.out.2.2.ok.l s hs).1) (by omega) HX.out.2.2.1]
    exact Blk.setCells _ _ L4.drewT
   have P5 := P4.chg C5 (by simpa using fun e => hdl e.symm)
   have O5 := own_chg hA.out.2.2.2.1 C5 (fun z hz => by
    obtain rfl : g = z := by simpa [Value.ownBlock] using hz
    simpa using hA.out.2.1)
   have CF : Chg (d :: lb :: (Aw.map Addr.block).toList) w1 w5 := hA.out.2.2.2.2.trans C5 (fun z hz => Or.inl (by rw [List.mem_singleton.1 hz]; simp))
   have HF : DevM w5 d [d, lb, g] { D1 with waits := D.waits ++ [⟨k, sec, b⟩], l := D.l.set k b } := by
    refine ⟨⟨lb, some ⟨g, 0, none⟩, cap', ?_, L5, ?_, rfl⟩, ⟨?_, ?_⟩, ?_, HD.out.2.2.2.1.fu⟩
    ·simp only [List.length_set, List.length_append, List.length_singleton]
     exact P5
    ·simp only [List.length_append, List.length_singleton]
     rw [show wrCells (D.waits ++ [⟨k, sec, b⟩]) = wrCells D.waits ++ a3 by simp [wrCells, Wr.cells, HX.out.2.2.2.2.2.1]]
     exact O5
    ·intro s hs
     rcases List.mem_or_eq_of_mem_set hs with hs | rfl
     ·exact HB.out.2.2.ok.l s hs
     ·exact ⟨HX.out.2.2.1, HB.out.2.1⟩
    ·intro x hx
     simp only [List.length_set]
     rcases List.mem_append.1 hx with hx | hx
     ·exact HB.out.2.2.ok.w x hx
     ·obtain rfl : x = ⟨k, sec, b⟩ := by simpa using hx
      exact ⟨by simp only []; omega, HX.out.2.1, HX.out.2.2.1, by rw [← HX.out.1]; exact sec_byte HB.out.2.2.ok (by omega), HB.out.2.1⟩
    ·simpa using HB.out.2.2.n
   have H := hd3 HF CF hA.out.2.2.1; rw [hw5]; clear hw5 C5 L5 P5 O5 CF HF ld4 e0 HT4 r4 hS0 P4 L4 N4; go_wp2; go_ret
   refine ⟨rfl, [d, lb, g], ?_, (HD.out.2.2.2.2).trans H.out.2.1 (fun z hz => Or.inl hz), fun z hz => ?_⟩
   ·have h9 := H.out.1
    rw [← HX.out.1] at h9
    exact h9
   ·simp only [List.mem_cons, List.not_mem_nil, or_false] at hz
    rcases hz with rfl | rfl | rfl
    ·exact Or.inl (by simp)
    ·exact Or.inl (by simp)
    ·rcases H.out.2.2 with h9 | h9
     ·exact Or.inl h9
     ·exact Or.inr (Nat.le_trans HD.out.2.2.2.2.size h9)


theorem Tryz.infoBlk : (Tryz.prog.info? 198).map (fun i => (i.zero, i.size, i.bytes)) = some (some (.agg (List.replicate 64 (Value.int .u8 0)).toArray), 64, 64) := by kernel_rfl
theorem zeros_ok (n : Nat) : ∀ s ∈ List.replicate n (List.replicate 64 0), s.length = 64 := fun s hs => by rw [(List.mem_replicate.1 hs).2]; simp
def secZ (n : Nat) : List (List Nat) := List.replicate n (List.replicate 64 0)
theorem made_sec (n : Nat) : (madeCells (List.replicate 64 (Value.int .u8 0)).toArray (n * 64)).toList = secCells (List.replicate n (List.replicate 64 0)) := by
 have hl := secCells_len (zeros_ok n); simp only [List.length_replicate] at hl
 apply List.ext_getElem? 
 intro j
 by_cases hj : j < n * 64
 ·obtain ⟨i, r, rfl, hi, hr⟩ : ∃ i r, j = i * 64 + r ∧ i < n ∧ r < 64 := ⟨j / 64, j % 64, by omega, by omega, by omega⟩
  rw [secCells_get (zeros_ok n) (by simpa using hi) hr]; unfold madeCells; rw [Array.toList_map, List.getElem?_map, Array.toList_range, List.getElem?_range hj]; simp only [Option.map_some, Option.some.injEq]

  have h1 : (i * 64 + r) % (List.replicate 64 (Value.int .u8 0)).toArray.size = r := by simp; omega
  rw [h1]
  have h2 : ((List.replicate 64 (Value.int .u8 0)).toArray)[r]! = Value.int .u8 0 := by
   rw [getElem!_pos _ _ (by rw [List.size_toArray, List.length_replicate]; exact hr), List.getElem_toArray, List.getElem_replicate]
  rw [h2]
  have h3 : (List.replicate n (List.replicate 64 0)).getD i [] = List.replicate 64 0 := by rw [List.getD_eq_getElem?_getD, List.getElem?_replicate_of_lt hi]; rfl
  have h4 : (List.replicate 64 0).getD r 0 = 0 := by rw [List.getD_eq_getElem?_getD, List.getElem?_replicate_of_lt hr]; rfl
  rw [h3, h4]
  rfl
 ·rw [List.getElem?_eq_none (by rw [Array.length_toList, size_madeCells]; omega), List.getElem?_eq_none (by omega)]
theorem dnew_calls (n : Nat) (h1 : 1 ≤ n) (h2 : n ≤ 4096) (w : World) : Calls Tryz.prog 6 #[.int .i64 n] w fun e w' => ∃ d F, e = .returned (.pointer (some ⟨d, 0, none⟩)) ∧ DevM w' d F (Dev.new n) ∧ (∀ x ∈ F, w.heap.size ≤ x) ∧ Below w.heap.size w w' := by
 obtain ⟨iw, hiw, hzw, hsw, hbw⟩ := info_parts Tryz.infoBlk
 have mk : ∀ w : World, (Instr.makeSlice 55 (.int .i64 n) (.int .i64 n)).run Tryz.prog w = .ok (.slice (some ⟨w.heap.size, 0, none⟩) n n) (w.alloc (.cells (secCells (secZ n)).toArray 198)) := fun w => by
  have h3 := run_make w 55 198 iw _ Tryz.underlying55 hiw hzw .i64 .i64 (n : Int) (n : Int) (by omega) (by omega) (by rw [hbw]; omega) (by omega); rw [h3, hsw, Int.toNat_natCast, secZ, ← made_sec]
  rfl
 have n1 : ¬ (n : Int) < 1 := by omega
 have n2 : ¬ (4096 : Int) < n := by omega
 go_enter Tryz.func6, Tryz.ntmps6
 obtain ⟨w1, hw1⟩ : ∃ w1, w.alloc (.cells (secCells (secZ n)).toArray 198) = w1 := ⟨_, rfl⟩; go_wp2; go_ret; rw [← hw1]; have b1 : Blk (w.alloc (.cells (secCells (secZ n)).toArray 198)) w.heap.size 198 (secCells (secZ n)) := Blk.new rfl
 refine ⟨w.heap.size + 1, by simp, [w.heap.size + 1, w.heap.size], ⟨⟨w.heap.size, none, 0, ?_, b1.alloc _, ownsRow_nil _ _ _, rfl⟩, ⟨?_, by simp [Dev.new]⟩, by simpa [Dev.new] using ⟨h1, h2⟩, by simp [Dev.new]⟩, ?_, belowL (belowL (Below.refl _ _) _) _⟩
 ·simp only [Dev.new, List.length_replicate]
  exact Blk.new (by simp)
 ·intro s hs
  simp only [Dev.new] at hs; rw [(List.mem_replicate.1 hs).2]
  exact ⟨by simp, fun c hc => by rw [(List.mem_replicate.1 hc).2]; omega⟩
 ·intro x hx
  simp at hx
  omega
end Go.Proofs.YtcahcjfgmdpdoaaGreat
