/- One text of: Cl4. -/
import Derived.Test.YtanfdnpnkdiiiaaGreatQCA
namespace Go.Proofs.YtanfdnpnkdiiiaaGreat
open Go.RowKit Go.Proofs Go.Maps
set_option linter.unusedVariables false
set_option linter.unusedSimpArgs false

theorem zeroTp (w : World) : (zeroValue 83).run Tryz.prog w = .ok (.pointer none) w := by kernel_rfl
theorem TM.nodup {F : List Nat} {w : World} {b n : Nat} {T : Trk} (h : TM w F b n T) : F.Nodup := by
  obtain ⟨h0, ⟨rfl, h1, h2⟩ | ⟨m1, m2, rfl, h1, h2, h3, h4⟩⟩ := h
  · simp
  · simp only [List.nodup_cons, List.mem_cons, List.not_mem_nil, or_false, not_or, List.nodup_nil, and_true, not_false_eq_true]
    exact ⟨⟨(h3.ne h2).symm, (h4.ne h2).symm⟩, h1⟩
theorem TrM.mem {w : World} {Ft : List Nat} {mt n : Nat} {T : Trk} (h : TrM w Ft mt n T) : mt ∈ Ft := by
  rcases h with ⟨rfl, _⟩ | ⟨tb, Fu, rfl, _⟩ <;> simp
set_option maxHeartbeats 1000000 in
theorem ctracker_calls {w : World} {Ft : List Nat} {mt n c : Nat} {T : Trk} {i1 i2 i3 i5 i6 i7 : Value} (h : TrM w Ft mt n T) (hn : Ft.Nodup) (hb : Blk w c 62 [i1, i2, i3, .map (some mt), i5, i6, i7]) :
    Calls Tryz.prog 29 #[.pointer (some ⟨c, 0, none⟩), .int .i64 4] w fun e w' => ∃ tb Fu, e = .returned (.pointer (some ⟨tb, 0, none⟩)) ∧ GM w' mt 1 (updV (fun _ => none) 4 (some (.pointer (some ⟨tb, 0, none⟩)))) ∧ TM w' Fu tb n T ∧ Chg [mt] w w' ∧ (∀ z ∈ mt :: Fu, z ∈ Ft ∨ w.heap.size ≤ z) ∧ (mt :: Fu).Nodup := by
  rcases h with ⟨rfl, h1, rfl⟩ | ⟨tb, Fu, rfl, h1, h2⟩
  · have rr := Below.refl w.heap.size w
    have e3 := hb.rule 3 _ rfl
    have l1 : ∀ w', Below w.heap.size w w' → (Instr.lookup 58 (.map (some mt)) (.int .i64 4) false).run Tryz.prog w' = .ok (.pointer none) w' := fun w' hb' => (h1.below hb').look (mt := 58) (by unfold i64ok; omega) Tryz.underlying58 (zeroTp w')
    obtain ⟨w2, hw2⟩ : ∃ w2, w.alloc (.cells #[.int .i64 0, .int .i64 0, .map none, .map none] 128) = w2 := ⟨_, rfl⟩
    have hb2 : Below w.heap.size w w2 := hw2 ▸ belowL rr _
    have ht2 : Blk w2 w.heap.size 128 [.int .i64 0, .int .i64 0, .map none, .map none] := hw2 ▸ Blk.new rfl
    obtain ⟨w3, hrun, hg3, hc3⟩ := (h1.below hb2).put (mt := 58) (k := 4) (by unfold i64ok; omega) Tryz.underlying58 (.pointer (some ⟨w.heap.size, 0, none⟩)) (by omega)
    simp only [Option.isSome_none, Bool.false_eq_true, if_false, Nat.zero_add] at hg3
    have l3 := hg3.look (mt := 58) (k := 4) (by unfold i64ok; omega) Tryz.underlying58 (zeroTp w3)
    rw [updV_same] at l3
    simp only [Option.getD_some] at l3
    have hne : mt ≠ c := by
      obtain ⟨D, ⟨es, clock, hm, _⟩, _⟩ := h1
      intro e
      subst e
      unfold Blk at hb
      rw [hm] at hb
      cases hb
    have hne2 : mt ≠ w.heap.size := by have := h1.lt; omega
    have f3 := ((hb.below hb2).chg hc3 (by simpa using hne.symm)).cell 3
    simp only [List.getElem?_cons_succ, List.getElem?_cons_zero] at f3
    have ht3 := ht2.chg hc3 (by simpa using hne2.symm)
    have HT3 := hide (And.intro ht3 (And.intro hg3 (((Chg.of_below (L := [mt]) hb2)).same hc3)))
    have hlt := h1.lt
    have HW2 := hide hw2
    rw [← hw2] at hrun
    clear h1 hb ht2 hb2 hg3 hc3 ht3 hw2
    go_enter Tryz.func29, Tryz.ntmps29
    go_wp2
    go_ret
    refine ⟨w.heap.size, [w.heap.size], rfl, HT3.out.2.1, ⟨.zero n, Or.inl ⟨rfl, rfl, HT3.out.1⟩⟩, HT3.out.2.2, ?_, by simpa using hne2⟩
    intro z hz
    simp only [List.mem_cons, List.not_mem_nil, or_false] at hz ⊢
    omega
  · have e3 := hb.cell 3
    have l1 := h1.look (mt := 58) (k := 4) (by unfold i64ok; omega) Tryz.underlying58 (zeroTp w)
    rw [updV_same] at l1
    simp only [Option.getD_some, List.getElem?_cons_succ, List.getElem?_cons_zero] at l1 e3
    have H := hide (And.intro h1 h2)
    clear h1 h2 hb
    go_enter Tryz.func29, Tryz.ntmps29
    go_wp2
    go_ret
    exact ⟨tb, Fu, rfl, H.out.1, H.out.2, Chg.refl _ _, fun z hz => Or.inl hz, hn⟩
theorem CP.ended {w w1 : World} {F : List Nat} {c n mt : Nat} {so : Option Vw} (pr : Prim) {X : Cl} {U : World → List Nat → Value → Prop} {xp cur ans out : Value} {Ft Fc Fa Fo : List Nat} (h : CP w F c so n X U xp mt cur ans out Ft Fc Fa Fo) (k : Wk) (e : Nat) (A : Option Addr) (cap : Nat)
    (hr : Rb w (c :: (Ft ++ [] ++ [w.heap.size] ++ Fo)) A cap (if e = 0 then k.read else []))
    (hw1 : ((w.setCell ⟨c, 4, none⟩ (.pointer none)).setCell ⟨c, 5, none⟩ (.pointer (some ⟨w.heap.size, 0, none⟩))).alloc (.cells #[.int .i64 e, .slice A (if e = 0 then k.read else []).length cap, .int .i64 k.done] 45) = w1) : CO w w1 F c so pr n (X.end_ k e) := by
  have hm := h.mem
  have hd := h.dj
  have hlt := h.lt
  have hc1 : Chg [c] w w1 := hw1 ▸ (((Chg.refl _ _).setCell (Or.inl (by simp)) _).setCell (Or.inl (by simp)) _).alloc _
  have hcF : ∀ z ∈ [c], z ∈ F ∨ w.heap.size ≤ z := fun z hz => Or.inl (by rw [List.mem_singleton.1 hz]; exact hm.1)
  have hs1 : w1.heap.size = w.heap.size + 1 := by rw [← hw1]; simp
  have hsub : ∀ z ∈ c :: (Ft ++ [] ++ [w.heap.size] ++ Fo), z ∈ F ∨ w.heap.size ≤ z := fun z hz => by
    simp only [List.mem_cons, List.mem_append, List.append_nil, List.not_mem_nil, or_false] at hz
    rcases hz with rfl | (hz | hz) | hz
    · exact Or.inl hm.1
    · exact Or.inl (hm.2.1 z hz)
    · exact Or.inr (by omega)
    · exact Or.inl (hm.2.2.2.2 z hz)
  have hF' : ∀ z ∈ c :: (Ft ++ [] ++ [w.heap.size] ++ Fo), (z ∈ F ∨ w.heap.size ≤ z) ∧ z < w1.heap.size := fun z hz => ⟨hsub z hz, by
    simp only [List.mem_cons, List.mem_append, List.append_nil, List.not_mem_nil, or_false] at hz
    rcases hz with rfl | (hz | hz) | hz
    · have := hlt z hm.1; omega
    · have := hlt z (hm.2.1 z hz); omega
    · omega
    · have := hlt z (hm.2.2.2.2 z hz); omega⟩
  have hb1 : Blk w1 w.heap.size 45 [.int .i64 e, .slice A (if e = 0 then k.read else []).length cap, .int .i64 k.done] := by rw [← hw1]; exact Blk.new (by simp)
  refine ⟨c :: (Ft ++ [] ++ [w.heap.size] ++ Fo), ⟨xp, mt, .pointer none, .pointer (some ⟨w.heap.size, 0, none⟩), out, Ft, [], [w.heap.size], Fo, h.turn hc1 ?_ rfl ?_ hF' (h.st.grow hc1 hcF hF') rfl ⟨rfl, rfl⟩ ?_ ?_⟩, hc1.mono hcF, hsub⟩
  · rw [← hw1]
    exact (((h.blk.set 4 _).set 5 _)).alloc _
  · refine nd_of ?_
    have q1 : w.heap.size ≠ c := by have := hlt c hm.1; omega
    have q2 : w.heap.size ∉ Ft := fun hx => by have := hlt _ (hm.2.1 _ hx); omega
    have q3 : w.heap.size ∉ Fo := fun hx => by have := hlt _ (hm.2.2.2.2 _ hx); omega
    refine ⟨⟨fun z hz => ⟨(hd.1.1 z hz).1, by simp, ?_, (hd.1.1 z hz).2.2.2⟩, by simp, ?_, fun z hz => ⟨(hd.1.2.2.2 z hz).1, (hd.1.2.2.2 z hz).2.1, by simp, ?_⟩⟩, hd.2.1.1, by simp, by simp, hd.2.1.2.2.2⟩
    · intro hx; rw [List.mem_singleton.1 hx] at hz; exact q2 hz
    · intro z hz; rw [List.mem_singleton.1 hz]; exact ⟨q1, q2, by simp, q3⟩
    · intro hx; rw [List.mem_singleton.1 hx] at hz; exact q3 hz
  · exact ⟨w.heap.size, A, cap, rfl, rfl, hb1, hr.chg hc1 (fun z hz => Or.inl (by rw [List.mem_singleton.1 hz]; simp))⟩
  · exact h.ou.chg hc1 hcF (fun z hz => hsub z hz) (fun z hz => by have := (hd.1.2.2.2 z hz).1; simpa using this)
set_option maxHeartbeats 2000000 in
theorem cend_calls {w : World} {F : List Nat} {c n : Nat} {so : Option Vw} (pr : Prim) {X : Cl} {k : Wk} (h : CN w F c so n X k) (e : Nat) :
    Calls Tryz.prog 31 #[.pointer (some ⟨c, 0, none⟩), .int .i64 e] w fun r w' => r = .returned (.tuple #[]) ∧ CO w w' F c so pr n (X.end_ k e) := by
  obtain ⟨av, xp, mt, cur, ans, out, Ft, Fc, Fa, Fo, h⟩ := h
  obtain ⟨cb, rv, B, cB, bl, rfl, rfl, hb, h4, h5, h6⟩ := h.cu
  obtain ⟨A, cap, rfl, g1, g2, g3, g4, g5⟩ := own_view h6
  have hne : c ≠ cb := fun e => (h.dj.1.2.1 cb (by simp)).1 e.symm
  have e4 := h.blk.cell 4
  have e5 := h.blk.cell 5
  have ef := h.blk.frozen
  have k5 := hb.cell 5
  have k6 := hb.cell 6
  simp only [List.getElem?_cons_succ, List.getElem?_cons_zero] at e4 e5 k5 k6
  have hlc := h.blk.lt
  have hlb := hb.lt
  have H := hide h
  have HB := hide hb
  have HR := hide (And.intro h6 (And.intro g1 (And.intro g3 g5)))
  clear h hb h4 h5 h6 g1 g2 g3 g4 g5
  by_cases he : e = 0
  · subst he
    go_enter Tryz.func31, Tryz.ntmps31
    go_wp2
    go_end0
    refine ⟨rfl, H.out.ended pr k 0 A cap ⟨by simpa using HR.out.2.1, by simpa using HR.out.2.2.2 _ (fun g hg => own_lt HR.out.1 hg), fun a ha => ?_⟩ (by simp)⟩
    have hg : (Value.slice A k.read.length cap).ownBlock = some a.block := by rw [HR.out.2.2.1, ha]; rfl
    have hlg := own_lt HR.out.1 hg
    refine ⟨?_, fun hx => ?_, hlg⟩
    · rcases HR.out.1.2 with ⟨h6, _⟩ | ⟨g, cap2, cur2, e2, _⟩
      · injection h6 with q1 q2 q3
        rw [q1] at ha
        cases ha
      · cases e2; cases ha; rfl
    · have hFc : a.block ∈ cb :: (Value.slice A k.read.length cap).ownBlock.toList := by rw [hg]; simp
      have hd := H.out.dj.1.2.1 _ hFc
      simp only [List.mem_cons, List.mem_append, List.append_nil, List.not_mem_nil, or_false] at hx
      rcases hx with hx | (hx | hx) | hx
      · exact hd.1 hx
      · exact hd.2.1 hx
      · omega
      · exact hd.2.2.2 hx
  · have he' : ((e : Int) == 0) = false := by simp; omega
    have HE := hide he
    clear he
    go_enter Tryz.func31, Tryz.ntmps31
    go_wp2
    go_end0
    refine ⟨rfl, H.out.ended pr k e none 0 ?_ (by rw [if_neg HE.out]; rfl)⟩
    rw [if_neg HE.out]
    exact Rb.nil _ _ _
/-- what is under way turns, and what is counted -/
theorem CP.work {w w' : World} {F L : List Nat} {c n n' mt : Nat} {so : Option Vw} {X X' : Cl} {U U' : World → List Nat → Value → Prop} {xp cur cur' ans out : Value} {Ft Fc Fa Fo Ft' Fc' : List Nat} (h : CP w F c so n X U xp mt cur ans out Ft Fc Fa Fo)
    (hc : Chg L w w') (hL : ∀ z ∈ L, z ∈ Ft ∨ z ∈ Fc ∨ w.heap.size ≤ z) (hb : Blk w' c 62 [.int .i64 X'.id, .int .i64 X'.num, xp, .map (some mt), cur', ans, out])
    (hft : ∀ z ∈ Ft', (z ∈ Ft ∨ z ∈ Fc ∨ w.heap.size ≤ z) ∧ z < w'.heap.size) (hfc : ∀ z ∈ Fc', (z ∈ Ft ∨ z ∈ Fc ∨ w.heap.size ≤ z) ∧ z < w'.heap.size) (hnt : Ft'.Nodup) (hnc : Fc'.Nodup) (hx : ∀ z ∈ Ft', z ∉ Fc')
    (ha : X'.ans = X.ans) (ho : X'.out = X.out) (tr : TrM w' Ft' mt n' X'.tr) (cu : U' w' Fc' cur') :
    CP w' (c :: (Ft' ++ Fc' ++ Fa ++ Fo)) c so n' X' U' xp mt cur' ans out Ft' Fc' Fa Fo ∧ ∀ z ∈ c :: (Ft' ++ Fc' ++ Fa ++ Fo), z ∈ F ∨ w.heap.size ≤ z := by
  have hm := h.mem
  have hd := h.dj
  have hlt := h.lt
  have hLF : ∀ z ∈ L, z ∈ F ∨ w.heap.size ≤ z := fun z hz => by
    rcases hL z hz with h1 | h1 | h1
    · exact Or.inl (hm.2.1 z h1)
    · exact Or.inl (hm.2.2.1 z h1)
    · exact Or.inr h1
  have hq : ∀ z, (z ∈ Ft ∨ z ∈ Fc ∨ w.heap.size ≤ z) → z ≠ c ∧ z ∉ Fa ∧ z ∉ Fo := fun z hz => by
    rcases hz with h1 | h1 | h1
    · exact ⟨(hd.1.1 z h1).1, (hd.1.1 z h1).2.2⟩
    · exact ⟨(hd.1.2.1 z h1).1, (hd.1.2.1 z h1).2.2⟩
    · exact ⟨fun e => by have := hlt c hm.1; omega, fun e => by have := hlt z (hm.2.2.2.1 z e); omega, fun e => by have := hlt z (hm.2.2.2.2 z e); omega⟩
  have hsub : ∀ z ∈ c :: (Ft' ++ Fc' ++ Fa ++ Fo), (z ∈ F ∨ w.heap.size ≤ z) ∧ z < w'.heap.size := fun z hz => by
    have hs := hc.size
    simp only [List.mem_cons, List.mem_append] at hz
    rcases hz with rfl | ((hz | hz) | hz) | hz
    · exact ⟨Or.inl hm.1, Nat.lt_of_lt_of_le (hlt _ hm.1) hs⟩
    · refine ⟨?_, (hft z hz).2⟩
      rcases (hft z hz).1 with h1 | h1 | h1
      · exact Or.inl (hm.2.1 z h1)
      · exact Or.inl (hm.2.2.1 z h1)
      · exact Or.inr h1
    · refine ⟨?_, (hfc z hz).2⟩
      rcases (hfc z hz).1 with h1 | h1 | h1
      · exact Or.inl (hm.2.1 z h1)
      · exact Or.inl (hm.2.2.1 z h1)
      · exact Or.inr h1
    · exact ⟨Or.inl (hm.2.2.2.1 z hz), Nat.lt_of_lt_of_le (hlt _ (hm.2.2.2.1 z hz)) hs⟩
    · exact ⟨Or.inl (hm.2.2.2.2 z hz), Nat.lt_of_lt_of_le (hlt _ (hm.2.2.2.2 z hz)) hs⟩
  have hnL : ∀ z, z ∈ Fa ∨ z ∈ Fo → z ∉ L := fun z hz hx => by
    have h1 := hq z (hL z hx)
    rcases hz with h2 | h2
    · exact h1.2.1 h2
    · exact h1.2.2 h2
  refine ⟨⟨hb, rfl, ?_, fun z hz => (hsub z hz).2, h.st.grow hc hLF hsub, tr, cu, ?_, ?_⟩, fun z hz => (hsub z hz).1⟩
  · exact nd_of ⟨⟨fun z hz => ⟨(hq z (hft z hz).1).1, hx z hz, (hq z (hft z hz).1).2⟩, fun z hz => ⟨(hq z (hfc z hz).1).1, fun h1 => hx z h1 hz, (hq z (hfc z hz).1).2⟩,
      fun z hz => ⟨(hd.1.2.2.1 z hz).1, fun h1 => (hq z (hft z h1).1).2.1 hz, fun h1 => (hq z (hfc z h1).1).2.1 hz, (hd.1.2.2.1 z hz).2.2.2⟩,
      fun z hz => ⟨(hd.1.2.2.2 z hz).1, fun h1 => (hq z (hft z h1).1).2.2 hz, fun h1 => (hq z (hfc z h1).1).2.2 hz, (hd.1.2.2.2 z hz).2.2.2⟩⟩, hnt, hnc, hd.2.1.2.2.1, hd.2.1.2.2.2⟩
  · rw [ha]; exact h.an.chg hc hLF (fun z hz => (hsub z hz).1) (fun z hz => hnL z (Or.inl hz))
  · rw [ho]; exact h.ou.chg hc hLF (fun z hz => (hsub z hz).1) (fun z hz => hnL z (Or.inr hz))
/-- what was sent turns -/
theorem CP.outs {w w' : World} {F L : List Nat} {c n mt : Nat} {so : Option Vw} {X X' : Cl} {U : World → List Nat → Value → Prop} {xp cur ans out out' : Value} {Ft Fc Fa Fo Fo' : List Nat} (h : CP w F c so n X U xp mt cur ans out Ft Fc Fa Fo)
    (hc : Chg L w w') (hL : ∀ z ∈ L, z = c ∨ z ∈ Fo ∨ w.heap.size ≤ z) (hb : Blk w' c 62 [.int .i64 X'.id, .int .i64 X'.num, xp, .map (some mt), cur, ans, out'])
    (hfo : ∀ z ∈ Fo', (z ∈ Fo ∨ w.heap.size ≤ z) ∧ z < w'.heap.size) (hno : Fo'.Nodup) (ha : X'.ans = X.ans) (ht : X'.tr = X.tr) (hU : (∀ z ∈ Fc, z ∉ L) → U w' Fc cur)
    (ou : OutM w' (c :: (Ft ++ Fc ++ Fa ++ Fo')) Fo' out' X'.out) :
    CP w' (c :: (Ft ++ Fc ++ Fa ++ Fo')) c so n X' U xp mt cur ans out' Ft Fc Fa Fo' ∧ ∀ z ∈ c :: (Ft ++ Fc ++ Fa ++ Fo'), z ∈ F ∨ w.heap.size ≤ z := by
  have hm := h.mem
  have hd := h.dj
  have hlt := h.lt
  have hLF : ∀ z ∈ L, z ∈ F ∨ w.heap.size ≤ z := fun z hz => by
    rcases hL z hz with rfl | h1 | h1
    · exact Or.inl hm.1
    · exact Or.inl (hm.2.2.2.2 z h1)
    · exact Or.inr h1
  have hq : ∀ z, (z ∈ Fo ∨ w.heap.size ≤ z) → z ≠ c ∧ z ∉ Ft ∧ z ∉ Fc ∧ z ∉ Fa := fun z hz => by
    rcases hz with h1 | h1
    · exact hd.1.2.2.2 z h1
    · exact ⟨fun e => by have := hlt c hm.1; omega, fun e => by have := hlt z (hm.2.1 z e); omega, fun e => by have := hlt z (hm.2.2.1 z e); omega, fun e => by have := hlt z (hm.2.2.2.1 z e); omega⟩
  have hnL : ∀ z, z ∈ Ft ∨ z ∈ Fc ∨ z ∈ Fa → z ∉ L := fun z hz hx => by
    have hzc : z ≠ c := by
      rcases hz with h2 | h2 | h2
      · exact (hd.1.1 z h2).1
      · exact (hd.1.2.1 z h2).1
      · exact (hd.1.2.2.1 z h2).1
    rcases hL z hx with h1 | h1
    · exact hzc h1
    · have h3 := hq z h1
      rcases hz with h2 | h2 | h2
      · exact h3.2.1 h2
      · exact h3.2.2.1 h2
      · exact h3.2.2.2 h2
  have hsub : ∀ z ∈ c :: (Ft ++ Fc ++ Fa ++ Fo'), (z ∈ F ∨ w.heap.size ≤ z) ∧ z < w'.heap.size := fun z hz => by
    have hs := hc.size
    simp only [List.mem_cons, List.mem_append] at hz
    rcases hz with rfl | ((hz | hz) | hz) | hz
    · exact ⟨Or.inl hm.1, Nat.lt_of_lt_of_le (hlt _ hm.1) hs⟩
    · exact ⟨Or.inl (hm.2.1 z hz), Nat.lt_of_lt_of_le (hlt _ (hm.2.1 z hz)) hs⟩
    · exact ⟨Or.inl (hm.2.2.1 z hz), Nat.lt_of_lt_of_le (hlt _ (hm.2.2.1 z hz)) hs⟩
    · exact ⟨Or.inl (hm.2.2.2.1 z hz), Nat.lt_of_lt_of_le (hlt _ (hm.2.2.2.1 z hz)) hs⟩
    · exact ⟨(hfo z hz).1.imp (hm.2.2.2.2 z) id, (hfo z hz).2⟩
  refine ⟨⟨hb, rfl, ?_, fun z hz => (hsub z hz).2, h.st.grow hc hLF hsub, ?_, hU (fun z hz => hnL z (Or.inr (Or.inl hz))), ?_, ou⟩, fun z hz => (hsub z hz).1⟩
  · exact nd_of ⟨⟨fun z hz => ⟨(hd.1.1 z hz).1, (hd.1.1 z hz).2.1, (hd.1.1 z hz).2.2.1, fun h1 => (hq z (hfo z h1).1).2.1 hz⟩, fun z hz => ⟨(hd.1.2.1 z hz).1, (hd.1.2.1 z hz).2.1, (hd.1.2.1 z hz).2.2.1, fun h1 => (hq z (hfo z h1).1).2.2.1 hz⟩,
      fun z hz => ⟨(hd.1.2.2.1 z hz).1, (hd.1.2.2.1 z hz).2.1, (hd.1.2.2.1 z hz).2.2.1, fun h1 => (hq z (hfo z h1).1).2.2.2 hz⟩, fun z hz => hq z (hfo z hz).1⟩, hd.2.1.1, hd.2.1.2.1, hd.2.1.2.2.1, hno⟩
  · rw [ht]; exact h.tr.chg hc (fun z hz => hnL z (Or.inl hz))
  · rw [ha]; exact h.an.chg hc hLF (fun z hz => (hsub z hz).1) (fun z hz => hnL z (Or.inr (Or.inr hz)))
theorem poCells_app (a b : List PoM) : poCells (a ++ b) = poCells a ++ poCells b := by simp [poCells]
/-- a message was put behind those that were sent -/
theorem CP.sent {w wc W0 w9 w10 : World} {F F' : List Nat} {c n mt nb g cg : Nat} {so : Option Vw} {pr : Prim} {X : Cl} {xp cur ans out : Value} {Ft Fc Fa Fo : List Nat} {P : List PoM} {po : Po} {B : Option Addr} {cc : Nat}
    (hp : CP wc F' c so n X (fun w Fc v => CurM w pr Fc v X.cur) xp mt cur ans out Ft Fc Fa Fo) (hP : P.map PoM.p = X.out) (hFo : Fo = out.ownBlock.toList) (hok : ∀ x ∈ P, PoOk wc F' x)
    (hb0 : Below wc.heap.size wc W0) (h1 : wc.heap.size ≤ nb) (h2 : nb < W0.heap.size) (hN : Blk W0 nb 3 (po.n.map (Value.int .i64))) (hl : po.n.length = 8)
    (ho9 : w9.ownsRow 0 40 5 (.slice (some ⟨g, 0, none⟩) (P.length + 1) cg) (P.length + 1) (poCells P ++ PoM.cells ⟨po, nb, B, cc⟩))
    (hch9 : Chg out.ownBlock.toList W0 w9) (hg9 : out.ownBlock = some g ∨ g = W0.heap.size) (hgl : g < w9.heap.size) (hw10 : w9.setCell ⟨c, 6, none⟩ (.slice (some ⟨g, 0, none⟩) (P.length + 1) cg) = w10)
    (hs : ∀ z ∈ F', z ∈ F ∨ w.heap.size ≤ z) (hc : Chg F w wc) : CO w w10 F c so pr n { X with out := X.out ++ [po] } := by
  have hd := hp.dj
  have hmem := hp.mem
  have hltF := hp.lt
  have hs0 := hb0.size
  have hc10 : Chg [c] w9 w10 := hw10 ▸ (Chg.refl _ _).setCell (Or.inl (by simp)) _
  have hcA : Chg Fo wc w9 := (Chg.of_below (L := Fo) hb0).trans hch9 (fun z hz => Or.inl (by rw [hFo]; exact hz))
  have hcAll : Chg (c :: Fo) wc w10 := (hcA.mono (fun z hz => Or.inl (List.mem_cons_of_mem _ hz))).trans hc10 (fun z hz => Or.inl (by rw [List.mem_singleton.1 hz]; simp))
  have hg : g ∈ Fo ∨ wc.heap.size ≤ g := hg9.imp (fun h3 => by rw [hFo, h3]; simp) (fun h3 => by rw [h3]; exact hs0)
  have hcF : c ∉ Fo := hd.2.2.2.2.2
  have hgc : c ≠ g := fun e => by
    rcases hg with h3 | h3
    · exact hcF (e ▸ h3)
    · have := hltF c hmem.1; omega
  have hsz : w10.heap.size = w9.heap.size := by rw [← hw10]; simp
  have hnbF : ∀ z ∈ Fo, z ≠ nb := fun z hz => by have := hltF z (hmem.2.2.2.2 z hz); omega
  have hsub : ∀ z ∈ c :: (Ft ++ Fc ++ Fa ++ [g]), z ∈ F' ∨ z = g := fun z hz => by
    simp only [List.mem_cons, List.mem_append, List.not_mem_nil, or_false] at hz
    rcases hz with hz | ((hz | hz) | hz) | hz
    · exact Or.inl (hz ▸ hmem.1)
    · exact Or.inl (hmem.2.1 z hz)
    · exact Or.inl (hmem.2.2.1 z hz)
    · exact Or.inl (hmem.2.2.2.1 z hz)
    · exact Or.inr hz
  have hbc : Blk w10 c 62 [.int .i64 X.id, .int .i64 X.num, xp, .map (some mt), cur, ans, .slice (some ⟨g, 0, none⟩) (P.length + 1) cg] := by
    rw [← hw10]
    exact (hp.blk.chg hcA hcF).set 6 _
  have hout : OutM w10 (c :: (Ft ++ Fc ++ Fa ++ [g])) [g] (.slice (some ⟨g, 0, none⟩) (P.length + 1) cg) (X.out ++ [po]) := by
    refine ⟨P ++ [⟨po, nb, B, cc⟩], by rw [List.map_append, hP]; rfl, ?_, rfl, ?_⟩
    · rw [poCells_app, List.length_append, show poCells [⟨po, nb, B, cc⟩] = PoM.cells ⟨po, nb, B, cc⟩ from by simp [poCells]]
      exact own_chg ho9 hc10 (fun g' hg' hx => by
        simp only [ownBlock_slice, Option.map_some, Option.some.injEq] at hg'
        rw [List.mem_singleton.1 hx] at hg'
        exact hgc hg'.symm)
    · intro y hy
      rcases List.mem_append.1 hy with hy | hy
      · refine (hok y hy).chg hcAll (fun z hz => Or.inl ?_) (fun z hz => ?_)
        · rcases List.mem_cons.1 hz with rfl | hz
          · exact hmem.1
          · exact hmem.2.2.2.2 z hz
        · rcases hsub z hz with h3 | rfl
          · exact Or.inl h3
          · exact hg.imp (hmem.2.2.2.2 _) id
      · rw [List.mem_singleton.1 hy]
        refine ⟨hl, ?_, fun hz => ?_⟩
        · have h3 := hN.chg hch9 (fun hx => by rw [← hFo] at hx; exact hnbF _ hx rfl)
          exact h3.chg hc10 (by simp; have := hltF c hmem.1; omega)
        · rcases hsub _ hz with h3 | h3
          · have := hltF _ h3; simp only [] at this; omega
          · rcases hg9 with h4 | h4
            · exact hnbF g (by rw [hFo, h4]; simp) h3.symm
            · simp only [] at h3; omega
  have hfin := hp.outs (X' := { X with out := X.out ++ [po] }) (out' := .slice (some ⟨g, 0, none⟩) (P.length + 1) cg) (Fo' := [g]) hcAll
    (fun z hz => by
      rcases List.mem_cons.1 hz with rfl | hz
      · exact Or.inl rfl
      · exact Or.inr (Or.inl hz)) hbc
    (fun z hz => by rw [List.mem_singleton.1 hz]; exact ⟨hg, by rw [hsz]; exact hgl⟩) (by simp) rfl rfl (fun hz => CurM.chg hp.cu hcAll hz) hout
  refine ⟨_, ⟨_, _, _, _, _, _, _, _, _, hfin.1⟩, hc.trans hcAll (fun z hz => hs z ?_), fun z hz => ?_⟩
  · rcases List.mem_cons.1 hz with rfl | hz
    · exact hmem.1
    · exact hmem.2.2.2.2 z hz
  · rcases hfin.2 z hz with h3 | h3
    · exact hs z h3
    · exact Or.inr (Nat.le_trans hc.size h3)
end Go.Proofs.YtanfdnpnkdiiiaaGreat
