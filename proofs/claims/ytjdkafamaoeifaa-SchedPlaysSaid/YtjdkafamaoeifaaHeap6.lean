/- The walk through Set. -/
import Derived.Test.YtjdkafamaoeifaaHeap5
namespace Go.Proofs.Ytjdkafamaoeifaa
open Go.RowKit Go.Proofs Go.Maps
set_option linter.unusedVariables false

theorem Try.infoEnt9 : (Try.prog.info? 111).map (fun i => (i.zero, i.size, i.bytes)) = some (some (.agg #[.int .i64 0, .int .i64 0]), 2, 16) := by kernel_rfl
theorem eql_map_nil (w : World) (p : Option Nat) : (binOp .eql 80 (.map p) (.map none)).run Try.prog w = .ok (.bool p.isNone) w := by
  have h : ∀ d : Nat, (Op.equalIn (d + 1) 80 (.map p) (.map none)).run Try.prog w = .ok p.isNone w := fun d => by
    cases p <;> simp [Op.equalIn, run_underlying Try.underlying80]
  simp only [binOp]
  simp [Op.equal, Op.maxDepth, h 9999]
theorem ld_snoc (xs : List Ld) (y : Ld) : ldCells xs ++ y.cells = ldCells (xs ++ [y]) := by simp [ldCells]
/-- what Set leaves -/
def SetOut (w : World) (p : Pl) (L : List Ld) (F : List Nat) (x : Ld) (e : Ending) (w' : World) : Prop :=
  e = .returned (.tuple #[]) ∧ ∃ L' F', HeapAt w' p L' F' ∧ L'.Perm (setL L x) ∧ Chg F w w' ∧ ∀ z ∈ F', z ∈ F ∨ w.heap.size ≤ z
set_option maxHeartbeats 4000000 in
set_option maxRecDepth 100000 in
theorem set_old (p : Pl) (A : Option Addr) (cap bm : Nat) (L : List Ld) (f : Int → Option Int) (x : Ld) (i : Nat) (w : World) (h : HP w p A cap bm L.length L f) (hf : HF f L) (ho : HeapOk L) (hids : ∀ y ∈ L, i64ok y.id) (hx : i64ok x.id) (hL : L.length ≤ 1000)
    (hi : i < L.length) (hxi : (gt L i).id = x.id) :
    Calls Try.prog 61 #[.pointer (some ⟨p.b, p.o, none⟩), .int .i64 x.id, .int .i64 x.n] w (SetOut w p L (hfoot p A bm) x) := by
  have qm := eql_map_nil
  have c1 : w.cell? ⟨p.b, p.o + 1, none⟩ = some (.map (some bm)) := h.blk.cell1
  have hfi : f x.id = some (i : Int) := by rw [← hxi]; exact hf.2.1 i hi
  have lk := h.map.look_ok hx
  rw [hfi] at lk
  simp only [Option.getD_some, Option.isSome_some] at lk
  have H := hide h
  have HFI := hide hfi
  have HF0 := hide hf
  have HO := hide ho
  have HIDS := hide hids
  have HXI := hide hxi
  clear h hfi hf ho hids hxi
  go_enter Try.func61, Try.ntmps61
  go_wp2_with fail
  with_reducible refine (put_again p A cap bm L.length L f i x w H.out hi hx (by omega) (by omega) (by rw [HFI.out]; simp)).mono ?_
  rintro en w1 ⟨rfl, h1, ch1⟩
  have hf1 := HF0.out.again hi HXI.out
  have n1 := HO.out.near i x hi
  have ids1 : ∀ y ∈ L.set i x, i64ok y.id := fun y hy => by
    rcases List.mem_or_eq_of_mem_set hy with h5 | h5
    · exact HIDS.out y h5
    · rw [h5]; exact hx
  have hl1 : i < (L.set i x).length := by rw [List.length_set]; exact hi
  have g1 := gt_hole (e := x) hi
  have p1 := set_perm hi HF0.out.1 HXI.out
  rw [show L.length = (L.set i x).length by rw [List.length_set]] at h1 hL
  generalize L.set i x = M at *
  have HN1 := hide n1
  have HF1 := hide hf1
  have HG1 := hide g1
  have HP1 := hide p1
  have HI1 := hide ids1
  clear n1 hf1 g1 p1 ids1 c1 lk
  have HGR : Hid (∀ z ∈ hfoot p A bm, z ∈ hfoot p A bm ∨ w.heap.size ≤ z) := hide (fun z hz => Or.inl hz)
  go_wp2_with fail
  with_reducible refine (up_calls p A cap bm M.length M _ i _ h1 hl1 HI1.out (by omega) (by omega) HF1.out HN1.out).mono ?_
  rintro en w2 ⟨rfl, L2, f2, j, h2, p2, hf2, n2, u2, hj, g2, ch2⟩
  have hml := p2.length_eq
  have lk2 := h2.map.look hx
  have c2 : w2.cell? ⟨p.b, p.o + 1, none⟩ = some (.map (some bm)) := h2.blk.cell1
  have hfj : f2 x.id = some (j : Int) := by
    have := hf2.2.1 j hj
    rw [g2, HG1.out] at this
    exact this
  rw [hfj] at lk2
  simp only [Option.getD_some] at lk2
  have ids2 : ∀ y ∈ L2, i64ok y.id := fun y hy => HI1.out y (p2.subset hy)
  rw [← hml] at h2
  have HH2 := hide h2
  have HF2 := hide hf2
  have HN2 := hide n2
  have HU2 := hide u2
  have HI2 := hide ids2
  have HP2 := hide p2
  have HG2 := hide g2
  have ch02 := ch1.trans ch2 HGR.out
  clear h2 hf2 n2 u2 ids2 p2 g2 hfj ch1 ch2
  go_wp2_with fail
  with_reducible refine (down_calls p A cap bm L2.length L2 f2 j w2 HH2.out hj HI2.out (by omega) (by omega) HF2.out HN2.out HU2.out).mono ?_
  rintro en w3 ⟨rfl, L3, f3, h3, p3, hf3, ho3, ch3⟩
  rw [← p3.length_eq] at h3
  have hfin : SetOut w p L (hfoot p A bm) x (.returned (.tuple #[])) w3 := ⟨rfl, L3, hfoot p A bm, Or.inr ⟨A, cap, bm, f3, h3, hf3, ho3, rfl⟩, p3.trans (HP2.out.trans HP1.out), ch02.trans ch3 HGR.out, HGR.out⟩
  have HFIN := hide hfin
  clear hfin h3 p3 hf3 ho3 ch3 ch02 c2 lk2
  go_wp2
  go_end0
  exact HFIN.out
set_option maxHeartbeats 4000000 in
set_option maxRecDepth 100000 in
theorem set_new (p : Pl) (A : Option Addr) (cap bm : Nat) (L : List Ld) (f : Int → Option Int) (x : Ld) (w : World) (h : HP w p A cap bm L.length L f) (hf : HF f L) (ho : HeapOk L) (hids : ∀ y ∈ L, i64ok y.id) (hx : i64ok x.id) (hL : L.length ≤ 1000)
    (hfx : f x.id = none) :
    Calls Try.prog 61 #[.pointer (some ⟨p.b, p.o, none⟩), .int .i64 x.id, .int .i64 x.n] w (SetOut w p L (hfoot p A bm) x) := by
  have qm := eql_map_nil
  obtain ⟨i0, hi0, hz0, hz1, hz2⟩ := info_parts Try.infoEnt9
  have c0 : w.cell? ⟨p.b, p.o, none⟩ = some (.slice A L.length cap) := h.blk.cell0
  have c1 : w.cell? ⟨p.b, p.o + 1, none⟩ = some (.map (some bm)) := h.blk.cell1
  have lk := h.map.look_ok hx
  rw [hfx] at lk
  simp only [Option.getD_none, Option.isSome_none] at lk
  have H := hide h
  have HFX := hide hfx
  have HF0 := hide hf
  have HO := hide ho
  have HIDS := hide hids
  clear h hfx hf ho hids
  go_enter Try.func61, Try.ntmps61
  have HC0 : Hid (Chg (hfoot p A bm) w w) := hide (Chg.refl _ w)
  have HFT : Hid (∀ z ∈ hfoot p A bm, z ∈ hfoot p A bm ∨ w.heap.size ≤ z) := hide (fun z hz => Or.inl hz)
  go_wp2_with (at_builtin; refine app_law rfl _ _ 79 rfl 111 i0 _ 2 16 Try.underlying79 hi0 hz0 hz1 hz2 rfl (by decide) (.slice A L.length cap) L.length (ldCells L) rfl (H.out.own.alloc _) w.heap.size 1 1 (Ld.cells ⟨0, 0⟩) rfl (Blk.new rfl) rfl ?c1 (by decide) ?c3 ?c4 ?_)
  case c1 => intro u hu; simp [Ld.cells] at hu; rcases hu with rfl | rfl <;> rfl
  case c3 => unfold maxLen; omega
  case c4 => omega
  intro g cap2 w1 own1 ch1 or1 lt1
  rw [ownBlock_slice] at ch1 or1
  rw [ld_snoc] at own1
  have hpA : p.b ∉ (A.map Addr.block).toList := fun hm => H.out.pA (g := p.b) (by simpa using hm) rfl
  have hmA : bm ∉ (A.map Addr.block).toList := fun hm => H.out.mA (g := bm) (by simpa using hm) rfl
  have hg1 : g ∈ (hfoot p A bm) ∨ w.heap.size ≤ g := by
    rcases or1 with h5 | h5
    · exact HFT.out g (by simp [hfoot, h5])
    · have := HC0.out.size; exact Or.inr (by omega)
  have hgp : g ≠ p.b := by
    rcases or1 with h5 | h5
    · exact H.out.pA h5
    · have := H.out.lt p.b (by simp [hfoot]); omega
  have hgm : g ≠ bm := by
    rcases or1 with h5 | h5
    · exact H.out.mA h5
    · have := H.out.lt bm (by simp [hfoot]); omega
  have B1 : PBlk w1 p (.slice A L.length cap) (.map (some bm)) := (H.out.blk.alloc _).chg ch1 hpA
  have M1 : IM w1 bm L.length f := (H.out.map.chg (Chg.of_below (L := []) ((Below.refl _ _).alloc (Nat.le_refl _) _)) (by simp)).chg ch1 hmA
  have d0 : w1.cell? ⟨p.b, p.o, none⟩ = some (.slice A L.length cap) := B1.cell0
  have df : w1.frozen? ⟨p.b, p.o, none⟩ = false := B1.frozen0
  have C1 : Chg (hfoot p A bm) w w1 := (HC0.out.alloc _).trans ch1 (fun z hz => HFT.out z (by simp only [hfoot, List.mem_cons]; exact Or.inr (Or.inr hz)))
  have chS : Chg [p.b] w1 (w1.setCell ⟨p.b, p.o, none⟩ (.slice (some ⟨g, 0, none⟩) (L.length + 1) cap2)) := (Chg.refl [p.b] w1).setCell (Or.inl (by simp)) _
  have hlen : (L ++ [(⟨0, 0⟩ : Ld)]).length = L.length + 1 := by simp
  have h2 : HP (w1.setCell ⟨p.b, p.o, none⟩ (.slice (some ⟨g, 0, none⟩) (L.length + 1) cap2)) p (some ⟨g, 0, none⟩) cap2 bm L.length (L ++ [⟨0, 0⟩]) f :=
    ⟨by rw [hlen]; exact B1.set0 _, by rw [hlen]; exact own_chg own1 chS (fun g' hg' hx => by rw [ownBlock_slice] at hg'; cases hg'; exact hgp (by simpa using hx)), M1.chg chS (by simpa using Ne.symm H.out.pm)⟩
  have C2 : Chg (hfoot p A bm) w (w1.setCell ⟨p.b, p.o, none⟩ (.slice (some ⟨g, 0, none⟩) (L.length + 1) cap2)) := C1.trans chS (fun z hz => HFT.out z (by rw [List.mem_singleton.1 hz]; simp [hfoot]))
  have HGR : Hid (∀ z ∈ hfoot p (some ⟨g, 0, none⟩) bm, z ∈ (hfoot p A bm) ∨ w.heap.size ≤ z) := hide (fun z hz => by
    simp only [hfoot, List.mem_cons] at hz
    rcases hz with h5 | h5 | h5
    · exact HFT.out z (by simp [hfoot, h5])
    · exact HFT.out z (by simp [hfoot, h5])
    · have : z = g := by simpa using h5
      rw [this]
      exact hg1)
  have HH2 := hide h2
  have HC2 := hide C2
  clear own1 ch1 or1 hpA hmA hg1 hgp hgm B1 M1 C1 chS h2 C2 c0 c1 lk
  go_wp2_with fail
  with_reducible refine (put_calls p (some ⟨g, 0, none⟩) cap2 bm L.length (L ++ [⟨0, 0⟩]) f L.length x _ HH2.out (by omega) hx (by omega) (by omega)).mono ?_
  rintro en w1' ⟨rfl, h1, chp⟩
  have e9 : cntUp L.length (f x.id) = L.length + 1 := by unfold cntUp; rw [HFX.out]; simp
  have e8 : (L ++ [(⟨0, 0⟩ : Ld)]).set L.length x = L ++ [x] := by simp
  rw [e9, e8] at h1
  have ch1 := HC2.out.trans chp HGR.out
  have hf1 := HF0.out.fresh HFX.out
  have n1 := HO.out.snoc x
  have hxno := HF0.out.no HFX.out
  have p1 : (L ++ [x]).Perm (setL L x) := by rw [setL_fresh hxno]
  have ids1 : ∀ y ∈ L ++ [x], i64ok y.id := fun y hy => by
    rcases List.mem_append.1 hy with h5 | h5
    · exact HIDS.out y h5
    · rw [List.mem_singleton.1 h5]; exact hx
  have hl1 : L.length < (L ++ [x]).length := by simp
  have g1 : gt (L ++ [x]) L.length = x := by rw [gt_snoc, if_pos rfl]
  have hl9 : (L ++ [x]).length = L.length + 1 := by simp
  rw [← hl9] at h1
  have hL9 : (L ++ [x]).length ≤ 1001 := by omega
  generalize L ++ [x] = M at *
  obtain ⟨i, hi9⟩ : ∃ i, L.length = i := ⟨_, rfl⟩
  rw [hi9] at hl1 hf1 n1 g1 h1
  have HI9 := hide hi9
  have HL99 := hide hl9
  rw [hi9]
  clear hi9 hl9 e9 e8 hlen hxno hL
  have HN1 := hide n1
  have HF1 := hide hf1
  have HG1 := hide g1
  have HP1 := hide p1
  have HI1 := hide ids1
  clear n1 hf1 g1 p1 ids1 d0 df chp
  go_wp2_with fail
  with_reducible refine (up_calls p (some ⟨g, 0, none⟩) cap2 bm M.length M _ i _ h1 hl1 HI1.out (by omega) (by omega) HF1.out HN1.out).mono ?_
  rintro en w2 ⟨rfl, L2, f2, j, h2, p2, hf2, n2, u2, hj, g2, ch2⟩
  have hml := p2.length_eq
  have lk2 := h2.map.look hx
  have c2 : w2.cell? ⟨p.b, p.o + 1, none⟩ = some (.map (some bm)) := h2.blk.cell1
  have hfj : f2 x.id = some (j : Int) := by
    have := hf2.2.1 j hj
    rw [g2, HG1.out] at this
    exact this
  rw [hfj] at lk2
  simp only [Option.getD_some] at lk2
  have ids2 : ∀ y ∈ L2, i64ok y.id := fun y hy => HI1.out y (p2.subset hy)
  rw [← hml] at h2
  have HH2 := hide h2
  have HF2 := hide hf2
  have HN2 := hide n2
  have HU2 := hide u2
  have HI2 := hide ids2
  have HP2 := hide p2
  have HG2 := hide g2
  have ch02 := ch1.trans ch2 HGR.out
  clear h2 hf2 n2 u2 ids2 p2 g2 hfj ch1 ch2
  go_wp2_with fail
  with_reducible refine (down_calls p (some ⟨g, 0, none⟩) cap2 bm L2.length L2 f2 j w2 HH2.out hj HI2.out (by omega) (by omega) HF2.out HN2.out HU2.out).mono ?_
  rintro en w3 ⟨rfl, L3, f3, h3, p3, hf3, ho3, ch3⟩
  rw [← p3.length_eq] at h3
  have hfin : SetOut w p L (hfoot p A bm) x (.returned (.tuple #[])) w3 := ⟨rfl, L3, hfoot p (some ⟨g, 0, none⟩) bm, Or.inr ⟨(some ⟨g, 0, none⟩), cap2, bm, f3, h3, hf3, ho3, rfl⟩, p3.trans (HP2.out.trans HP1.out), ch02.trans ch3 HGR.out, HGR.out⟩
  have HFIN := hide hfin
  clear hfin h3 p3 hf3 ho3 ch3 ch02 c2 lk2
  go_wp2
  go_end0
  exact HFIN.out
set_option maxHeartbeats 4000000 in
set_option maxRecDepth 100000 in
theorem set_first (p : Pl) (L : List Ld) (x : Ld) (w : World) (hL0 : L = []) (h : PBlk w p (.slice none 0 0) (.map none)) (hx : i64ok x.id) :
    Calls Try.prog 61 #[.pointer (some ⟨p.b, p.o, none⟩), .int .i64 x.id, .int .i64 x.n] w (SetOut w p L [p.b] x) := by
  have qm := eql_map_nil
  have hmm := @run_makeMap Try.prog
  obtain ⟨i0, hi0, hz0, hz1, hz2⟩ := info_parts Try.infoEnt9
  have c1 : w.cell? ⟨p.b, p.o + 1, none⟩ = some (.map none) := h.cell1
  have f1 : w.frozen? ⟨p.b, p.o + 1, none⟩ = false := h.frozen1
  obtain ⟨A, cap, hA⟩ : ∃ (A : Option Addr) (cap : Nat), (none : Option Addr) = A ∧ 0 = cap := ⟨_, _, rfl, rfl⟩
  obtain ⟨bm, hbm⟩ : ∃ bm, w.heap.size = bm := ⟨_, rfl⟩
  obtain ⟨wc, hwc⟩ : ∃ wc, (w.setCell ⟨p.b, p.o + 1, none⟩ (.map (some w.heap.size))).alloc (.map #[] 0) = wc := ⟨_, rfl⟩
  obtain ⟨f, hf9⟩ : ∃ f : Int → Option Int, (fun _ => none) = f := ⟨_, rfl⟩
  have h0 : HP wc p A cap bm L.length L f := by
    rw [← hwc, ← hf9, ← hA.1, ← hA.2, ← hbm, hL0]
    refine ⟨(h.set1 _).alloc _, ⟨rfl, Or.inl ⟨rfl, rfl⟩⟩, ?_⟩
    have := IM.made (w.setCell ⟨p.b, p.o + 1, none⟩ (.map (some w.heap.size)))
    rw [show (w.setCell ⟨p.b, p.o + 1, none⟩ (.map (some w.heap.size))).heap.size = w.heap.size by simp [World.setCell]] at this
    exact this
  have hpb : p.b < bm := by rw [← hbm]; exact h.lt
  have hpw : p.b < w.heap.size := h.lt
  have hfx : f x.id = none := by rw [← hf9]
  have hf : HF f L := by rw [← hf9, hL0]; exact HF.nil
  have ho : HeapOk L := by rw [hL0]; exact HeapOk.nil
  have hids : ∀ y ∈ L, i64ok y.id := fun y hy => by rw [hL0] at hy; cases hy
  have hL : L.length ≤ 1000 := by rw [hL0]; simp
  have HC0 : Hid (Chg [p.b] w wc) := hide (by rw [← hwc]; exact ((Chg.refl [p.b] w).setCell (Or.inl (by simp)) _).alloc _)
  have HFT : Hid (∀ z ∈ hfoot p A bm, z ∈ [p.b] ∨ w.heap.size ≤ z) := hide (fun z hz => by
    simp only [hfoot, ← hA.1, List.mem_cons, Option.map_none, Option.toList_none, List.not_mem_nil, or_false] at hz
    rcases hz with h5 | h5
    · exact Or.inl (by simp [h5])
    · exact Or.inr (by omega))
  have lk := h0.map.look_ok hx
  rw [hfx] at lk
  simp only [Option.getD_none, Option.isSome_none] at lk
  have c0 : wc.cell? ⟨p.b, p.o, none⟩ = some (.slice A L.length cap) := h0.blk.cell0
  have c2 : wc.cell? ⟨p.b, p.o + 1, none⟩ = some (.map (some bm)) := h0.blk.cell1
  have H := hide h0
  have HFX := hide hfx
  have HF0 := hide hf
  have HO := hide ho
  have HIDS := hide hids
  have HWC := hide hwc
  have HBM := hide hbm
  clear h h0 hfx hf ho hids hL0 hA hf9 hwc
  go_enter Try.func61, Try.ntmps61
  go_wp2_with fail
  rw [show (w.setCell ⟨p.b, p.o + 1, none⟩ (.map (some bm))).alloc (.map #[] 0) = wc by rw [← HBM.out]; exact HWC.out]
  clear c1 f1 hmm hbm
  have c1 := c2
  rw [lk]
  go_simp
  go_wp2_with (at_builtin; refine app_law rfl _ _ 79 rfl 111 i0 _ 2 16 Try.underlying79 hi0 hz0 hz1 hz2 rfl (by decide) (.slice A L.length cap) L.length (ldCells L) rfl (H.out.own.alloc _) wc.heap.size 1 1 (Ld.cells ⟨0, 0⟩) rfl (Blk.new rfl) rfl ?c1 (by decide) ?c3 ?c4 ?_)
  case c1 => intro u hu; simp [Ld.cells] at hu; rcases hu with rfl | rfl <;> rfl
  case c3 => unfold maxLen; omega
  case c4 => omega
  intro g cap2 w1 own1 ch1 or1 lt1
  rw [ownBlock_slice] at ch1 or1
  rw [ld_snoc] at own1
  have hpA : p.b ∉ (A.map Addr.block).toList := fun hm => H.out.pA (g := p.b) (by simpa using hm) rfl
  have hmA : bm ∉ (A.map Addr.block).toList := fun hm => H.out.mA (g := bm) (by simpa using hm) rfl
  have hg1 : g ∈ [p.b] ∨ w.heap.size ≤ g := by
    rcases or1 with h5 | h5
    · exact HFT.out g (by simp [hfoot, h5])
    · have := HC0.out.size; exact Or.inr (by omega)
  have hgp : g ≠ p.b := by
    rcases or1 with h5 | h5
    · exact H.out.pA h5
    · have := H.out.lt p.b (by simp [hfoot]); omega
  have hgm : g ≠ bm := by
    rcases or1 with h5 | h5
    · exact H.out.mA h5
    · have := H.out.lt bm (by simp [hfoot]); omega
  have B1 : PBlk w1 p (.slice A L.length cap) (.map (some bm)) := (H.out.blk.alloc _).chg ch1 hpA
  have M1 : IM w1 bm L.length f := (H.out.map.chg (Chg.of_below (L := []) ((Below.refl _ _).alloc (Nat.le_refl _) _)) (by simp)).chg ch1 hmA
  have d0 : w1.cell? ⟨p.b, p.o, none⟩ = some (.slice A L.length cap) := B1.cell0
  have df : w1.frozen? ⟨p.b, p.o, none⟩ = false := B1.frozen0
  have C1 : Chg [p.b] w w1 := (HC0.out.alloc _).trans ch1 (fun z hz => HFT.out z (by simp only [hfoot, List.mem_cons]; exact Or.inr (Or.inr hz)))
  have chS : Chg [p.b] w1 (w1.setCell ⟨p.b, p.o, none⟩ (.slice (some ⟨g, 0, none⟩) (L.length + 1) cap2)) := (Chg.refl [p.b] w1).setCell (Or.inl (by simp)) _
  have hlen : (L ++ [(⟨0, 0⟩ : Ld)]).length = L.length + 1 := by simp
  have h2 : HP (w1.setCell ⟨p.b, p.o, none⟩ (.slice (some ⟨g, 0, none⟩) (L.length + 1) cap2)) p (some ⟨g, 0, none⟩) cap2 bm L.length (L ++ [⟨0, 0⟩]) f :=
    ⟨by rw [hlen]; exact B1.set0 _, by rw [hlen]; exact own_chg own1 chS (fun g' hg' hx => by rw [ownBlock_slice] at hg'; cases hg'; exact hgp (by simpa using hx)), M1.chg chS (by simpa using Ne.symm H.out.pm)⟩
  have C2 : Chg [p.b] w (w1.setCell ⟨p.b, p.o, none⟩ (.slice (some ⟨g, 0, none⟩) (L.length + 1) cap2)) := C1.trans chS (fun z hz => HFT.out z (by rw [List.mem_singleton.1 hz]; simp [hfoot]))
  have HGR : Hid (∀ z ∈ hfoot p (some ⟨g, 0, none⟩) bm, z ∈ [p.b] ∨ w.heap.size ≤ z) := hide (fun z hz => by
    simp only [hfoot, List.mem_cons] at hz
    rcases hz with h5 | h5 | h5
    · exact HFT.out z (by simp [hfoot, h5])
    · exact HFT.out z (by simp [hfoot, h5])
    · have : z = g := by simpa using h5
      rw [this]
      exact hg1)
  have HH2 := hide h2
  have HC2 := hide C2
  clear own1 ch1 or1 hpA hmA hg1 hgp hgm B1 M1 C1 chS h2 C2 c0 c1 lk
  go_wp2_with fail
  with_reducible refine (put_calls p (some ⟨g, 0, none⟩) cap2 bm L.length (L ++ [⟨0, 0⟩]) f L.length x _ HH2.out (by omega) hx (by omega) (by omega)).mono ?_
  rintro en w1' ⟨rfl, h1, chp⟩
  have e9 : cntUp L.length (f x.id) = L.length + 1 := by unfold cntUp; rw [HFX.out]; simp
  have e8 : (L ++ [(⟨0, 0⟩ : Ld)]).set L.length x = L ++ [x] := by simp
  rw [e9, e8] at h1
  have ch1 := HC2.out.trans chp HGR.out
  have hf1 := HF0.out.fresh HFX.out
  have n1 := HO.out.snoc x
  have hxno := HF0.out.no HFX.out
  have p1 : (L ++ [x]).Perm (setL L x) := by rw [setL_fresh hxno]
  have ids1 : ∀ y ∈ L ++ [x], i64ok y.id := fun y hy => by
    rcases List.mem_append.1 hy with h5 | h5
    · exact HIDS.out y h5
    · rw [List.mem_singleton.1 h5]; exact hx
  have hl1 : L.length < (L ++ [x]).length := by simp
  have g1 : gt (L ++ [x]) L.length = x := by rw [gt_snoc, if_pos rfl]
  have hl9 : (L ++ [x]).length = L.length + 1 := by simp
  rw [← hl9] at h1
  have hL9 : (L ++ [x]).length ≤ 1001 := by omega
  generalize L ++ [x] = M at *
  obtain ⟨i, hi9⟩ : ∃ i, L.length = i := ⟨_, rfl⟩
  rw [hi9] at hl1 hf1 n1 g1 h1
  have HI9 := hide hi9
  have HL99 := hide hl9
  rw [hi9]
  clear hi9 hl9 e9 e8 hlen hxno hL
  have HN1 := hide n1
  have HF1 := hide hf1
  have HG1 := hide g1
  have HP1 := hide p1
  have HI1 := hide ids1
  clear n1 hf1 g1 p1 ids1 d0 df chp
  go_wp2_with fail
  with_reducible refine (up_calls p (some ⟨g, 0, none⟩) cap2 bm M.length M _ i _ h1 hl1 HI1.out (by omega) (by omega) HF1.out HN1.out).mono ?_
  rintro en w2 ⟨rfl, L2, f2, j, h2, p2, hf2, n2, u2, hj, g2, ch2⟩
  have hml := p2.length_eq
  have lk2 := h2.map.look hx
  have c2 : w2.cell? ⟨p.b, p.o + 1, none⟩ = some (.map (some bm)) := h2.blk.cell1
  have hfj : f2 x.id = some (j : Int) := by
    have := hf2.2.1 j hj
    rw [g2, HG1.out] at this
    exact this
  rw [hfj] at lk2
  simp only [Option.getD_some] at lk2
  have ids2 : ∀ y ∈ L2, i64ok y.id := fun y hy => HI1.out y (p2.subset hy)
  rw [← hml] at h2
  have HH2 := hide h2
  have HF2 := hide hf2
  have HN2 := hide n2
  have HU2 := hide u2
  have HI2 := hide ids2
  have HP2 := hide p2
  have HG2 := hide g2
  have ch02 := ch1.trans ch2 HGR.out
  clear h2 hf2 n2 u2 ids2 p2 g2 hfj ch1 ch2
  go_wp2_with fail
  with_reducible refine (down_calls p (some ⟨g, 0, none⟩) cap2 bm L2.length L2 f2 j w2 HH2.out hj HI2.out (by omega) (by omega) HF2.out HN2.out HU2.out).mono ?_
  rintro en w3 ⟨rfl, L3, f3, h3, p3, hf3, ho3, ch3⟩
  rw [← p3.length_eq] at h3
  have hfin : SetOut w p L [p.b] x (.returned (.tuple #[])) w3 := ⟨rfl, L3, hfoot p (some ⟨g, 0, none⟩) bm, Or.inr ⟨(some ⟨g, 0, none⟩), cap2, bm, f3, h3, hf3, ho3, rfl⟩, p3.trans (HP2.out.trans HP1.out), ch02.trans ch3 HGR.out, HGR.out⟩
  have HFIN := hide hfin
  clear hfin h3 p3 hf3 ho3 ch3 ch02 c2 lk2
  go_wp2
  go_end0
  exact HFIN.out
theorem set_calls (p : Pl) (L : List Ld) (F : List Nat) (x : Ld) (w : World) (h : HeapAt w p L F) (hids : ∀ y ∈ L, i64ok y.id) (hx : i64ok x.id) (hL : L.length ≤ 1000) :
    Calls Try.prog 61 #[.pointer (some ⟨p.b, p.o, none⟩), .int .i64 x.id, .int .i64 x.n] w (SetOut w p L F x) := by
  rcases h with ⟨hb, hl, rfl⟩ | ⟨A, cap, bm, f, h, hf, ho, rfl⟩
  · exact set_first p L x w hl hb hx
  · cases hfx : f x.id with
    | none => exact set_new p A cap bm L f x w h hf ho hids hx hL hfx
    | some z =>
      obtain ⟨i, hi, _, he⟩ := hf.at hfx
      exact set_old p A cap bm L f x i w h hf ho hids hx hL hi he
end Go.Proofs.Ytjdkafamaoeifaa
