/- One text of: Cl5. -/
import Derived.Test.YtanfdnpnkdiiiaaGreatQCl4
import Derived.Test.YtanfdnpnkdiiiaaGreatQRG
namespace Go.Proofs.YtanfdnpnkdiiiaaGreat
open Go.RowKit Go.Proofs Go.Maps
set_option linter.unusedVariables false
set_option linter.unusedSimpArgs false

theorem MadeI.cell {w w' : World} {A : Option Addr} {c : Nat} {l : List Int} (h : MadeI w w' A c l) {j : Nat} {i : Int} (hj : l[j]? = some i) : ∃ b o, A = some ⟨b, o, none⟩ ∧ w.heap.size ≤ b ∧ b < w'.heap.size ∧ w'.cell? ⟨b, o + j, none⟩ = some (.int .i64 i) := by
  have hl := (List.getElem?_eq_some_iff.1 hj).1
  obtain ⟨b, o, e, hb, hc⟩ := h.rd.2 (by omega)
  exact ⟨b, o, e, (h.ap _ e).2.1, hb, hc j _ (by rw [List.getElem?_map, hj]; rfl)⟩
theorem cell_oth {w : World} {b o : Nat} {v : Value} {p : Addr} {u : Value} (h : w.cell? ⟨b, o, none⟩ = some v) (hne : b ≠ p.block) : (w.setCell p u).cell? ⟨b, o, none⟩ = some v :=
  (World.cell?_setCell_other w p ⟨b, o, none⟩ u (fun e => hne (by rw [e]))).trans h
theorem undB : Tryz.prog.underlying 23 = some (.slice (Tryz.prog.elem 23)) := by kernel_rfl
theorem sizeB (w : World) : (sizeOf (Tryz.prog.elem 23)).run Tryz.prog w = .ok 1 w := by kernel_rfl
theorem slice16 (B : Option Addr) (bl cB d : Nat) (h : (d + 1) * 16 ≤ cB) (w : World) : (Instr.slice 23 (.slice B bl cB) (some (.int .i64 ((d : Int) * 16))) (some (.int .i64 (((d : Int) + 1) * 16))) none).run Tryz.prog w = .ok (.slice (if cB = d * 16 then B else B.map (·.add (d * 16 * 1))) 16 (cB - d * 16)) w := by
  have e1 : ((d : Int) * 16).toNat = d * 16 := by omega
  have e2 : (((d : Int) + 1) * 16).toNat - d * 16 = 16 := by omega
  rw [run_slice_lh w _ B bl cB undB .i64 .i64 _ _ (by omega) (by omega) (by omega), sizeB w]
  simp only [Result.andThen, sliced, e1, e2]
theorem slice16e (B : Option Addr) (bl cB d : Nat) (h : (d + 1) * 16 ≤ cB) : ∃ Bz cz, ∀ w, (Instr.slice 23 (.slice B bl cB) (some (.int .i64 ((d : Int) * 16))) (some (.int .i64 (((d : Int) + 1) * 16))) none).run Tryz.prog w = .ok (.slice Bz 16 cz) w := ⟨_, _, slice16 B bl cB d h⟩
set_option maxRecDepth 100000 in
theorem Tryz.infoPost : (Tryz.prog.info? 40).map (fun i => (i.zero, i.size, i.bytes)) = some (some (.agg #[.int .i64 0, .int .i64 0, .slice none 0 0, .slice none 0 0, .slice none 0 0]), 5, 88) := by kernel_rfl
theorem zeroBo (w : World) : (zeroValue 4).run Tryz.prog w = .ok (.bool false) w := by kernel_rfl
theorem Asked.look {w : World} {pr : Prim} {ma : Nat} {k : Wk} (h : Asked w pr ma k) (hk : i64ok (pr (k.at_ / 8)).2) : (Instr.lookup 80 (.map (some ma)) (.int .i64 (pr (k.at_ / 8)).2) false).run Tryz.prog w = .ok (.bool k.asked) w := by
  unfold Asked at h
  split at h
  · rename_i ha
    rw [h.look (mt := 80) hk Tryz.underlying80 (zeroBo w), updV_same, ha]
    rfl
  · rename_i ha
    rw [h.look (mt := 80) hk Tryz.underlying80 (zeroBo w)]
    simp at ha
    rw [ha]
    rfl
theorem vol_some {w : World} {no : List Nat} {b m1 m2 m3 : Nat} {S : Vst} {V : List VoM} {C : List CkM} {v : Vo} (hvm : VM w no b m1 m2 m3 S V C) (hv : fd Vo.id S.vs 4 = some v) (w' : World) (hb : Below w.heap.size w w') :
    Calls Tryz.prog 25 #[.pointer (some ⟨b, 0, none⟩), .int .i64 4] w' fun e w'' => ∃ A cv, e = .returned (.tuple #[.agg #[.int .i64 v.id, .int .i64 v.bl, .int .i64 v.p.r, .int .i64 v.p.w, .int .i64 v.p.l, .int .i64 v.p.b, .int .i64 v.ver, .slice A v.ch.length cv], .bool true]) ∧ MadeI w' w'' A cv v.ch ∧ Below w'.heap.size w' w'' := by
  refine (vvolume_calls w' no b m1 m2 m3 S V C 4 (hvm.below hb) (by unfold i64ok; omega)).mono fun e w'' ⟨y, he, hy, ho, hl, hb'⟩ => ?_
  obtain ⟨⟨yi, yb, ⟨yr, yw, yl, yp⟩, yv, yc⟩, A, cv⟩ := y
  rw [hv] at hy he
  rcases hy with hy | hy
  · injection hy with hy
    subst hy
    exact ⟨A, cv, he, ho.made, hb'⟩
  · cases hy.1
theorem chk_some {w : World} {no : List Nat} {b m1 m2 m3 : Nat} {S : Vst} {V : List VoM} {C : List CkM} {x : Ck} {i : Int} (hvm : VM w no b m1 m2 m3 S V C) (hi : i64ok i) (hv : fd Ck.id S.cs i = some x) (w' : World) (hb : Below w.heap.size w w') :
    Calls Tryz.prog 33 #[.pointer (some ⟨b, 0, none⟩), .int .i64 i] w' fun e w'' => ∃ A d B d', e = .returned (.tuple #[.agg #[.int .i64 x.id, .int .i64 x.vol, .int .i64 x.ep, .slice A x.me.length d, .slice B x.jo.length d'], .bool true]) ∧ MadeI w' w'' A d x.me ∧ Below w'.heap.size w' w'' := by
  refine (vchunk_calls w' no b m1 m2 m3 S V C i (hvm.below hb) hi).mono fun e w'' ⟨y, he, hy, ho, _, _, _, hb'⟩ => ?_
  obtain ⟨⟨yi, yv, ye, ym, yj⟩, A, d, B, d'⟩ := y
  rw [hv] at hy he
  rcases hy with hy | hy
  · injection hy with hy
    subst hy
    exact ⟨A, d, B, d', he, ho, hb'⟩
  · cases hy.1
set_option maxHeartbeats 8000000 in
set_option maxRecDepth 100000 in
theorem csend_calls {w : World} {F : List Nat} {c n bl : Nat} {S : Vw} {pr : Prim} {X : Cl} {k : Wk} (h : CM w F c (some S) pr n X) (hk : X.cur = some k) (hs : Seen S.2 bl pr) (h1 : k.from_ + k.many ≤ bl) (h2 : k.done < k.many) (hn : n ≤ 100000) (hnum : X.num ≤ 1000000000) (ho : X.out.length ≤ 100000) :
    Calls Tryz.prog 35 #[.pointer (some ⟨c, 0, none⟩)] w fun e w' => e = .returned (.tuple #[]) ∧ CO w w' F c (some S) pr (n + 1) (X.send pr k) := by
  obtain ⟨xp, mt, cur, ans, out, Ft, Fc, Fa, Fo, h⟩ := h
  have hcu : CurM w pr Fc cur X.cur := h.cu
  rw [hk] at hcu
  obtain ⟨ma, Fb, rfl, ⟨cb, rv, B, cB, blen, rfl, rfl, hcb, hle, hlen, hrow⟩, hask⟩ := hcu
  have hst : ∃ xb, xp = .pointer (some ⟨xb, 0, none⟩) ∧ VF F w xb S.2 ∧ xb = S.1 := ⟨S.1, h.st.1, h.st.2, rfl⟩
  obtain ⟨xb, rfl, ⟨no, m1, m2, m3, V, C, hvm, hvF⟩, hxb⟩ := hst
  clear hxb
  obtain ⟨v, hv, hvbl, hvlen, hvch⟩ := hs.v
  obtain ⟨i, x, hi1, hi2, hi3, hi4, hi5⟩ := hvch (k.at_ / 8) (by unfold Wk.at_; omega)
  have hbl := hs.bl
  have hat : k.at_ ≤ 512 := by unfold Wk.at_; omega
  have rr := Below.refl w.heap.size w
  have e0 := h.blk.rule 0 _ rfl
  have e1 := h.blk.rule 1 _ rfl
  have e2 := h.blk.rule 2 _ rfl
  have e4 := h.blk.rule 4 _ rfl
  have k0 := hcb.rule 0 _ rfl
  have k1 := hcb.rule 1 _ rfl
  have k2 := hcb.rule 2 _ rfl
  have k6 := hcb.rule 6 _ rfl
  have k8 := hcb.rule 8 _ rfl
  have hadd : IntKind.i64.wrap ((k.from_ : Int) + k.done) = ((k.at_ : Nat) : Int) := by unfold Wk.at_ at hat ⊢; rw [IntWalk.i64_in _ (by omega)]; omega
  obtain ⟨K, hK⟩ : ∃ K, k.at_ / 8 = K := ⟨_, rfl⟩
  obtain ⟨r8, hr8⟩ : ∃ r8, k.at_ % 8 = r8 := ⟨_, rfl⟩
  have hW := fun w' => where_calls k.at_ w' (by omega)
  rw [hK, hr8] at hW
  rw [hK] at hi1 hi4 hi5
  have HWH := hide hW
  have HV := hide (vol_some hvm hv)
  have HC := hide (chk_some hvm hi2 hi3)
  have hkl : K < v.ch.length := (List.getElem?_eq_some_iff.1 hi1).1
  have hgeq : decide ((v.ch.length : Int) ≤ (K : Int)) = false := by simp; omega
  have hklt : (K : Int) < v.ch.length := by omega
  have HK := hide (And.intro hK hr8)
  have H := hide h
  have HCU := hide (And.intro hcb (And.intro hle (And.intro hlen (And.intro hrow hask))))
  have HI := hide (And.intro hi1 (And.intro hi4 hi5))
  have HSE := hide hs
  clear hW hK hr8 h hcb hle hlen hrow hask hvm hvF hv hvbl hvlen hvch hi1 hi2 hi3 hi4 hi5 hs hbl
  go_enter Tryz.func35, Tryz.ntmps35
  go_upto_region 1 with fail
  refine region_lexg (fun w' => Below w.heap.size w w') [14] 0 [(2, 0), (2, 1), (2, 2), (0, 3), (2, 4), (2, 5), (2, 6), (0, 7), (2, 8), (1, 9), (2, 10), (2, 11), (2, 12), (2, 13), (3, 14)] #[true, true, true, true, true, true, true, true, true, true, true, true, true, true, true] (by kernel_rfl) (by kernel_rfl) (by decide) (by kernel_rfl) (by kernel_rfl) (fun _ _ _ _ _ h => h) (by (first | assumption | exact rr.drew)) (fun hS0 => ?_)
  simp only [List.map_cons, List.map_nil, List.getElem?_toArray, List.getElem?_cons_succ, List.getElem?_cons_zero]
  (apply lexg_pure (by rfl); (focus (intro w; go_simp; (try with_reducible rfl); done)); simp only [Act.put, List.setIfInBounds_toArray, List.set_cons_zero, List.set_cons_succ])
  (apply lexg_pure (by rfl); (focus (intro w; go_simp; (try with_reducible rfl); done)); simp only [Act.put, List.setIfInBounds_toArray, List.set_cons_zero, List.set_cons_succ])
  (apply lexg_pure (by rfl); (focus (intro w; go_simp; (try with_reducible rfl); done)); simp only [Act.put, List.setIfInBounds_toArray, List.set_cons_zero, List.set_cons_succ])
  (apply lexg_take (by rfl); (focus (intro w hw; (try dsimp only at hw); go_simp; (try with_reducible rfl); done)); simp only [Act.put, List.setIfInBounds_toArray, List.set_cons_zero, List.set_cons_succ])
  (apply lexg_pure (by rfl); (focus (intro w; go_simp; (try with_reducible rfl); done)); simp only [Act.put, List.setIfInBounds_toArray, List.set_cons_zero, List.set_cons_succ])
  (apply lexg_pure (by rfl); (focus (intro w; go_simp; (try with_reducible rfl); done)); simp only [Act.put, List.setIfInBounds_toArray, List.set_cons_zero, List.set_cons_succ])
  (apply lexg_pure (by rfl); (focus (intro w; go_simp; (try with_reducible rfl); done)); simp only [Act.put, List.setIfInBounds_toArray, List.set_cons_zero, List.set_cons_succ])
  (apply lexg_take (by rfl); (focus (intro w hw; (try dsimp only at hw); go_simp; (try with_reducible rfl); done)); simp only [Act.put, List.setIfInBounds_toArray, List.set_cons_zero, List.set_cons_succ])
  (apply lexg_pure (by rfl); (focus (intro w; go_simp; (try with_reducible rfl); done)); simp only [Act.put, List.setIfInBounds_toArray, List.set_cons_zero, List.set_cons_succ])
  (refine lexg_eff (by rfl) ?_; go_simp; ((go_at_call 55; with_reducible refine (HWH.out _).mono ?_; rintro e w5 ⟨rfl, rfl⟩)); refine lexg_both (by (first | assumption | exact rr.drew)) (fun hS1 => ?_))
  (apply lexg_pure (by rfl); (focus (intro w; go_simp; (try with_reducible rfl); done)); simp only [Act.put, List.setIfInBounds_toArray, List.set_cons_zero, List.set_cons_succ])
  (apply lexg_pure (by rfl); (focus (intro w; go_simp; (try with_reducible rfl); done)); simp only [Act.put, List.setIfInBounds_toArray, List.set_cons_zero, List.set_cons_succ])
  (apply lexg_pure (by rfl); (focus (intro w; go_simp; (try with_reducible rfl); done)); simp only [Act.put, List.setIfInBounds_toArray, List.set_cons_zero, List.set_cons_succ])
  (apply lexg_pure (by rfl); (focus (intro w; go_simp; (try with_reducible rfl); done)); simp only [Act.put, List.setIfInBounds_toArray, List.set_cons_zero, List.set_cons_succ])
  (refine lexg_effN (by rfl) ?_; go_simp)
  refine lexg_nil (fun _ => wpAnyG_done (by kernel_rfl) ?_ _)
  rename_i hunm
  clear hunm
  go_upto_region 2 with fail
  go_cut [5, 6] from 12 to 148 (fun a s wx => ∃ (vb cv bA oA : Nat), a = .pointer (some ⟨vb, 0, none⟩) ∧ s = .bool true ∧ Blk wx vb 73 [.int .i64 v.id, .int .i64 v.bl, .int .i64 v.p.r, .int .i64 v.p.w, .int .i64 v.p.l, .int .i64 v.p.b, .int .i64 v.ver, .slice (some ⟨bA, oA, none⟩) v.ch.length cv] ∧ bA < wx.heap.size ∧ wx.cell? ⟨bA, oA + K, none⟩ = some (.int .i64 i) ∧ Below w.heap.size w wx)
  case first =>
    have rr := Below.refl w.heap.size w
    refine region_lexg (fun w' => Below w.heap.size w w') [13] 7 [(2, 0), (2, 1), (2, 2), (0, 3), (2, 4), (2, 5), (2, 6), (0, 7)] #[true, true, true, true, true, true, true, true, false, false, false, false, false, false, false] (by kernel_rfl) (by kernel_rfl) (by decide) (by kernel_rfl) (by kernel_rfl) (fun _ _ _ _ _ h => h) (by (first | (with_reducible assumption) | (repeat (first | (with_reducible assumption) | (with_reducible refine Below.drew ?_) | (with_reducible refine belowL ?_ _))))) (fun hS0 => ?_)
    simp only [List.map_cons, List.map_nil, List.getElem?_toArray, List.getElem?_cons_succ, List.getElem?_cons_zero]
    (apply lexg_pure (by rfl); (focus (intro w; go_simp; (try with_reducible rfl); done)); simp only [Act.put, List.setIfInBounds_toArray, List.set_cons_zero, List.set_cons_succ])
    (apply lexg_pure (by rfl); (focus (intro w; go_simp; (try with_reducible rfl); done)); simp only [Act.put, List.setIfInBounds_toArray, List.set_cons_zero, List.set_cons_succ])
    (apply lexg_pure (by rfl); (focus (intro w; go_simp; (try with_reducible rfl); done)); simp only [Act.put, List.setIfInBounds_toArray, List.set_cons_zero, List.set_cons_succ])
    (apply lexg_take (by rfl); (focus (intro w hw; (try dsimp only at hw); go_simp; (try with_reducible rfl); done)); simp only [Act.put, List.setIfInBounds_toArray, List.set_cons_zero, List.set_cons_succ])
    (apply lexg_pure (by rfl); (focus (intro w; go_simp; (try with_reducible rfl); done)); simp only [Act.put, List.setIfInBounds_toArray, List.set_cons_zero, List.set_cons_succ])
    (apply lexg_pure (by rfl); (focus (intro w; go_simp; (try with_reducible rfl); done)); simp only [Act.put, List.setIfInBounds_toArray, List.set_cons_zero, List.set_cons_succ])
    (apply lexg_pure (by rfl); (focus (intro w; go_simp; (try with_reducible rfl); done)); simp only [Act.put, List.setIfInBounds_toArray, List.set_cons_zero, List.set_cons_succ])
    (apply lexg_take (by rfl); (focus (intro w hw; (try dsimp only at hw); go_simp; (try with_reducible rfl); done)); simp only [Act.put, List.setIfInBounds_toArray, List.set_cons_zero, List.set_cons_succ])
    refine lexg_nil (fun hS2 => ?_)
    refine lexg_fork2 (i := 8) (j := 12) (by kernel_rfl) (by kernel_rfl : _ = #[true, true, true, true, true, true, true, true, true, false, false, false, false, false, false]) (by kernel_rfl : _ = #[true, true, true, true, true, true, true, true, false, false, false, false, true, false, false]) ?_ ?_
    focus
      apply lexg_act (by simp only [List.getElem?_toArray, List.getElem?_cons_succ, List.getElem?_cons_zero]; rfl) (by rfl)
      go_simp
      ((go_at_call 25; with_reducible refine (HV.out _ (by assumption)).mono ?_; rintro e w5 ⟨A, cv, rfl, hm5, hb5⟩; have hb5q : Below w.heap.size w w5 := belowA hb5 (by assumption); (try (have qb : Blk w5 w.heap.size 73 [.int .i64 0, .int .i64 0, .int .i64 0, .int .i64 0, .int .i64 0, .int .i64 0, .int .i64 0, .slice none 0 0] := (by refine Blk.below ?_ hb5; first | exact Blk.new rfl | exact Blk.drewT (Blk.new rfl) | exact Blk.drewT (Blk.drewT (Blk.new rfl))); have q0 := qb.cell 0; have q1 := qb.cell 1; have q2 := qb.cell 2; have q3 := qb.cell 3; have q4 := qb.cell 4; have q5 := qb.cell 5; have q6 := qb.cell 6; have q7 := qb.cell 7; have qf := qb.frozen; simp only [List.getElem?_cons_succ, List.getElem?_cons_zero] at q0 q1 q2 q3 q4 q5 q6 q7)); clear hb5))
      refine lexg_both (by (first | (with_reducible assumption) | (repeat (first | (with_reducible assumption) | (with_reducible refine Below.drew ?_) | (with_reducible refine belowL ?_ _))))) (fun hS1 => ?_)
      refine lexg_more 0 [(2, 9), (2, 10), (2, 11), (1, 12), (3, 13), (2, 14)] #[true, true, true, true, true, true, true, true, true, true, true, true, true, true, true] (by kernel_rfl) (by decide) (by kernel_rfl) (by kernel_rfl) (fun _ _ _ _ _ h => h) (fun _ => by assumption) ?_
      simp only [List.map_cons, List.map_nil, List.getElem?_toArray, List.getElem?_cons_succ, List.getElem?_cons_zero]
      (apply lexg_pure (by rfl); (focus (intro w; go_simp; (try with_reducible rfl); done)); simp only [Act.put, List.setIfInBounds_toArray, List.set_cons_zero, List.set_cons_succ])
      (apply lexg_pure (by rfl); (focus (intro w; go_simp; (try with_reducible rfl); done)); simp only [Act.put, List.setIfInBounds_toArray, List.set_cons_zero, List.set_cons_succ])
      (apply lexg_pure (by rfl); (focus (intro w; go_simp; (try with_reducible rfl); done)); simp only [Act.put, List.setIfInBounds_toArray, List.set_cons_zero, List.set_cons_succ])
      (refine lexg_eff (by rfl) ?_; go_simp; refine lexg_both (by (first | (with_reducible assumption) | (repeat (first | (with_reducible assumption) | (with_reducible refine Below.drew ?_) | (with_reducible refine belowL ?_ _))))) (fun hS1 => ?_))
      (refine lexg_effN (by rfl) ?_; go_simp)
      (apply lexg_pure (by rfl); (focus (intro w; go_simp; (try with_reducible rfl); done)); simp only [Act.put, List.setIfInBounds_toArray, List.set_cons_zero, List.set_cons_succ])
      refine lexg_nil (fun _ => wpAnyG_done (by kernel_rfl) ?_ _)
    rotate_left
    focus
      apply lexg_act (by simp only [List.getElem?_toArray, List.getElem?_cons_succ, List.getElem?_cons_zero]; rfl) (by rfl)
      go_simp
      refine lexg_both (by (first | (with_reducible assumption) | (repeat (first | (with_reducible assumption) | (with_reducible refine Below.drew ?_) | (with_reducible refine belowL ?_ _))))) (fun hS1 => ?_)
      refine lexg_more 0 [(1, 8), (2, 9), (2, 10), (2, 11), (3, 13), (2, 14)] #[true, true, true, true, true, true, true, true, true, true, true, true, true, true, true] (by kernel_rfl) (by decide) (by kernel_rfl) (by kernel_rfl) (fun _ _ _ _ _ h => h) (fun _ => by assumption) ?_
      simp only [List.map_cons, List.map_nil, List.getElem?_toArray, List.getElem?_cons_succ, List.getElem?_cons_zero]
      (refine lexg_eff (by rfl) ?_; go_simp; ((go_at_call 25; with_reducible refine (HV.out _ (by assumption)).mono ?_; rintro e w5 ⟨A, cv, rfl, hm5, hb5⟩; have hb5q : Below w.heap.size w w5 := belowA hb5 (by assumption); (try (have qb : Blk w5 w.heap.size 73 [.int .i64 0, .int .i64 0, .int .i64 0, .int .i64 0, .int .i64 0, .int .i64 0, .int .i64 0, .slice none 0 0] := (by refine Blk.below ?_ hb5; first | exact Blk.new rfl | exact Blk.drewT (Blk.new rfl) | exact Blk.drewT (Blk.drewT (Blk.new rfl))); have q0 := qb.cell 0; have q1 := qb.cell 1; have q2 := qb.cell 2; have q3 := qb.cell 3; have q4 := qb.cell 4; have q5 := qb.cell 5; have q6 := qb.cell 6; have q7 := qb.cell 7; have qf := qb.frozen; simp only [List.getElem?_cons_succ, List.getElem?_cons_zero] at q0 q1 q2 q3 q4 q5 q6 q7)); clear hb5)); refine lexg_both (by (first | (with_reducible assumption) | (repeat (first | (with_reducible assumption) | (with_reducible refine Below.drew ?_) | (with_reducible refine belowL ?_ _))))) (fun hS1 => ?_))
      (apply lexg_pure (by rfl); (focus (intro w; go_simp; (try with_reducible rfl); done)); simp only [Act.put, List.setIfInBounds_toArray, List.set_cons_zero, List.set_cons_succ])
      (apply lexg_pure (by rfl); (focus (intro w; go_simp; (try with_reducible rfl); done)); simp only [Act.put, List.setIfInBounds_toArray, List.set_cons_zero, List.set_cons_succ])
      (apply lexg_pure (by rfl); (focus (intro w; go_simp; (try with_reducible rfl); done)); simp only [Act.put, List.setIfInBounds_toArray, List.set_cons_zero, List.set_cons_succ])
      (refine lexg_effN (by rfl) ?_; go_simp)
      (apply lexg_pure (by rfl); (focus (intro w; go_simp; (try with_reducible rfl); done)); simp only [Act.put, List.setIfInBounds_toArray, List.set_cons_zero, List.set_cons_succ])
      refine lexg_nil (fun _ => wpAnyG_done (by kernel_rfl) ?_ _)
    rotate_left
    · rename_i hunm2
      clear hunm2
      obtain ⟨bA, oA, rfl, hbA, hbA2, hcA⟩ := hm5.cell HI.out.1
      go_wp2
      go_meet
      exact ⟨w5.heap.size, cv, bA, oA, rfl, rfl, Blk.new rfl, by simp; omega, (World.cell?_alloc_lt w5 _ _ hbA2).trans hcA, belowL hb5q _⟩
    · rename_i hunm2
      clear hunm2
      obtain ⟨bA, oA, rfl, hbA, hbA2, hcA⟩ := hm5.cell HI.out.1
      have hbA' : bA ≠ w.heap.size := by simp at hbA; omega
      go_wp2
      go_meet
      exact ⟨w.heap.size, cv, bA, oA, rfl, rfl, (((((((qb.set 0 (.int .i64 v.id)).set 1 (.int .i64 v.bl)).set 2 (.int .i64 v.p.r)).set 3 (.int .i64 v.p.w)).set 4 (.int .i64 v.p.l)).set 5 (.int .i64 v.p.b)).set 6 (.int .i64 v.ver)).set 7 (.slice (some ⟨bA, oA, none⟩) v.ch.length cv), by simp; omega,
        cell_oth (cell_oth (cell_oth (cell_oth (cell_oth (cell_oth (cell_oth (cell_oth hcA hbA') hbA') hbA') hbA') hbA') hbA') hbA') hbA',
        (((((((hb5q.setCell (Nat.le_refl _) _).setCell (Nat.le_refl _) _).setCell (Nat.le_refl _) _).setCell (Nat.le_refl _) _).setCell (Nat.le_refl _) _).setCell (Nat.le_refl _) _).setCell (Nat.le_refl _) _).setCell (Nat.le_refl _) _⟩
  case rest =>
    obtain ⟨vb, cv, bA, oA, rfl, rfl, hvb, hbA, hcA, hbc⟩ := hcut
    have rc := Below.refl wc.heap.size wc
    have y7 := hvb.rule 7 _ rfl
    have ya : ∀ w', Below wc.heap.size wc w' → w'.cell? ⟨bA, oA + K, none⟩ = some (.int .i64 i) := fun w' hb => (hb.cell (p := ⟨bA, oA + K, none⟩) hbA).trans hcA
    have e2' : ∀ w', Below wc.heap.size wc w' → w'.cell? ⟨c, 2, none⟩ = some (.pointer (some ⟨xb, 0, none⟩)) := fun w' hb => e2 w' (belowA hb hbc)
    have HBC := hide hbc
    have HC2 := hide (fun w' (hb : Below wc.heap.size wc w') => HC.out w' (belowA hb hbc))
    clear e2 hvb hbA hcA hbc
    go_upto_region 4 with fail
    go_cut [6, 7] from 12 to 148 (fun s a wx => ∃ (xk d bM oM d' : Nat) (B : Option Addr), a = .pointer (some ⟨xk, 0, none⟩) ∧ s = .bool true ∧ Blk wx xk 89 [.int .i64 x.id, .int .i64 x.vol, .int .i64 x.ep, .slice (some ⟨bM, oM, none⟩) x.me.length d, .slice B x.jo.length d'] ∧ bM < wx.heap.size ∧ wx.cell? ⟨bM, oM, none⟩ = some (.int .i64 (pr K).2) ∧ Below w.heap.size w wx ∧ w.heap.size ≤ xk)
    case first =>
      refine region_lexg (fun w' => Below wc.heap.size wc w') [14] 7 [(2, 0), (2, 1), (2, 2), (0, 3), (2, 4), (0, 5), (2, 6), (2, 7), (0, 8)] #[true, true, true, true, true, true, true, true, true, false, false, false, false, false, false, false] (by kernel_rfl) (by kernel_rfl) (by decide) (by kernel_rfl) (by kernel_rfl) (fun _ _ _ _ _ h => h) (by (first | (with_reducible assumption) | (repeat (first | (with_reducible assumption) | (with_reducible refine Below.drew ?_) | (with_reducible refine belowL ?_ _))))) (fun hS0 => ?_)
      simp only [List.map_cons, List.map_nil, List.getElem?_toArray, List.getElem?_cons_succ, List.getElem?_cons_zero]
      (apply lexg_pure (by rfl); (focus (intro w; go_simp; (try with_reducible rfl); done)); simp only [Act.put, List.setIfInBounds_toArray, List.set_cons_zero, List.set_cons_succ])
      (apply lexg_pure (by rfl); (focus (intro w; go_simp; (try with_reducible rfl); done)); simp only [Act.put, List.setIfInBounds_toArray, List.set_cons_zero, List.set_cons_succ])
      (apply lexg_pure (by rfl); (focus (intro w; go_simp; (try with_reducible rfl); done)); simp only [Act.put, List.setIfInBounds_toArray, List.set_cons_zero, List.set_cons_succ])
      (apply lexg_take (by rfl); (focus (intro w hw; (try dsimp only at hw); go_simp; (try with_reducible rfl); done)); simp only [Act.put, List.setIfInBounds_toArray, List.set_cons_zero, List.set_cons_succ])
      (apply lexg_pure (by rfl); (focus (intro w; go_simp; (try with_reducible rfl); done)); simp only [Act.put, List.setIfInBounds_toArray, List.set_cons_zero, List.set_cons_succ])
      (apply lexg_take (by rfl); (focus (intro w hw; (try dsimp only at hw); go_simp; (try with_reducible rfl); done)); simp only [Act.put, List.setIfInBounds_toArray, List.set_cons_zero, List.set_cons_succ])
      (apply lexg_pure (by rfl); (focus (intro w; go_simp; (try with_reducible rfl); done)); simp only [Act.put, List.setIfInBounds_toArray, List.set_cons_zero, List.set_cons_succ])
      (apply lexg_pure (by rfl); (focus (intro w; go_simp; (try with_reducible rfl); done)); simp only [Act.put, List.setIfInBounds_toArray, List.set_cons_zero, List.set_cons_succ])
      (apply lexg_take (by rfl); (focus (intro w hw; (try dsimp only at hw); go_simp; (try with_reducible rfl); done)); simp only [Act.put, List.setIfInBounds_toArray, List.set_cons_zero, List.set_cons_succ])
      refine lexg_nil (fun hS2 => ?_)
      refine lexg_fork2 (i := 9) (j := 13) (by kernel_rfl) (by kernel_rfl : _ = #[true, true, true, true, true, true, true, true, true, true, false, false, false, false, false, false]) (by kernel_rfl : _ = #[true, true, true, true, true, true, true, true, true, false, false, false, false, true, false, false]) ?_ ?_
      focus
        apply lexg_act (by simp only [List.getElem?_toArray, List.getElem?_cons_succ, List.getElem?_cons_zero]; rfl) (by rfl)
        go_simp
        ((go_at_call 33; with_reducible refine (HC2.out _ (by assumption)).mono ?_; rintro e w5 ⟨A, d, B, d', rfl, hm5, hb5⟩; have hb5q : Below wc.heap.size wc w5 := belowA hb5 (by assumption); (try (have qb : Blk w5 wc.heap.size 89 [.int .i64 0, .int .i64 0, .int .i64 0, .slice none 0 0, .slice none 0 0] := (by refine Blk.below ?_ hb5; first | exact Blk.new rfl | exact Blk.drewT (Blk.new rfl) | exact Blk.drewT (Blk.drewT (Blk.new rfl))); have q0 := qb.cell 0; have q1 := qb.cell 1; have q2 := qb.cell 2; have q3 := qb.cell 3; have q4 := qb.cell 4; have qf := qb.frozen; simp only [List.getElem?_cons_succ, List.getElem?_cons_zero] at q0 q1 q2 q3 q4)); clear hb5))
        refine lexg_both (by (first | (with_reducible assumption) | (repeat (first | (with_reducible assumption) | (with_reducible refine Below.drew ?_) | (with_reducible refine belowL ?_ _))))) (fun hS1 => ?_)
        refine lexg_more 0 [(2, 10), (2, 11), (2, 12), (1, 13), (3, 14), (2, 15)] #[true, true, true, true, true, true, true, true, true, true, true, true, true, true, true, true] (by kernel_rfl) (by decide) (by kernel_rfl) (by kernel_rfl) (fun _ _ _ _ _ h => h) (fun _ => by assumption) ?_
        simp only [List.map_cons, List.map_nil, List.getElem?_toArray, List.getElem?_cons_succ, List.getElem?_cons_zero]
        (apply lexg_pure (by rfl); (focus (intro w; go_simp; (try with_reducible rfl); done)); simp only [Act.put, List.setIfInBounds_toArray, List.set_cons_zero, List.set_cons_succ])
        (apply lexg_pure (by rfl); (focus (intro w; go_simp; (try with_reducible rfl); done)); simp only [Act.put, List.setIfInBounds_toArray, List.set_cons_zero, List.set_cons_succ])
        (apply lexg_pure (by rfl); (focus (intro w; go_simp; (try with_reducible rfl); done)); simp only [Act.put, List.setIfInBounds_toArray, List.set_cons_zero, List.set_cons_succ])
        (refine lexg_eff (by rfl) ?_; go_simp; refine lexg_both (by (first | (with_reducible assumption) | (repeat (first | (with_reducible assumption) | (with_reducible refine Below.drew ?_) | (with_reducible refine belowL ?_ _))))) (fun hS1 => ?_))
        (refine lexg_effN (by rfl) ?_; go_simp)
        (apply lexg_pure (by rfl); (focus (intro w; go_simp; (try with_reducible rfl); done)); simp only [Act.put, List.setIfInBounds_toArray, List.set_cons_zero, List.set_cons_succ])
        refine lexg_nil (fun _ => wpAnyG_done (by kernel_rfl) ?_ _)
      rotate_left
      focus
        apply lexg_act (by simp only [List.getElem?_toArray, List.getElem?_cons_succ, List.getElem?_cons_zero]; rfl) (by rfl)
        go_simp
        refine lexg_both (by (first | (with_reducible assumption) | (repeat (first | (with_reducible assumption) | (with_reducible refine Below.drew ?_) | (with_reducible refine belowL ?_ _))))) (fun hS1 => ?_)
        refine lexg_more 0 [(1, 9), (2, 10), (2, 11), (2, 12), (3, 14), (2, 15)] #[true, true, true, true, true, true, true, true, true, true, true, true, true, true, true, true] (by kernel_rfl) (by decide) (by kernel_rfl) (by kernel_rfl) (fun _ _ _ _ _ h => h) (fun _ => by assumption) ?_
        simp only [List.map_cons, List.map_nil, List.getElem?_toArray, List.getElem?_cons_succ, List.getElem?_cons_zero]
        (refine lexg_eff (by rfl) ?_; go_simp; ((go_at_call 33; with_reducible refine (HC2.out _ (by assumption)).mono ?_; rintro e w5 ⟨A, d, B, d', rfl, hm5, hb5⟩; have hb5q : Below wc.heap.size wc w5 := belowA hb5 (by assumption); (try (have qb : Blk w5 wc.heap.size 89 [.int .i64 0, .int .i64 0, .int .i64 0, .slice none 0 0, .slice none 0 0] := (by refine Blk.below ?_ hb5; first | exact Blk.new rfl | exact Blk.drewT (Blk.new rfl) | exact Blk.drewT (Blk.drewT (Blk.new rfl))); have q0 := qb.cell 0; have q1 := qb.cell 1; have q2 := qb.cell 2; have q3 := qb.cell 3; have q4 := qb.cell 4; have qf := qb.frozen; simp only [List.getElem?_cons_succ, List.getElem?_cons_zero] at q0 q1 q2 q3 q4)); clear hb5)); refine lexg_both (by (first | (with_reducible assumption) | (repeat (first | (with_reducible assumption) | (with_reducible refine Below.drew ?_) | (with_reducible refine belowL ?_ _))))) (fun hS1 => ?_))
        (apply lexg_pure (by rfl); (focus (intro w; go_simp; (try with_reducible rfl); done)); simp only [Act.put, List.setIfInBounds_toArray, List.set_cons_zero, List.set_cons_succ])
        (apply lexg_pure (by rfl); (focus (intro w; go_simp; (try with_reducible rfl); done)); simp only [Act.put, List.setIfInBounds_toArray, List.set_cons_zero, List.set_cons_succ])
        (apply lexg_pure (by rfl); (focus (intro w; go_simp; (try with_reducible rfl); done)); simp only [Act.put, List.setIfInBounds_toArray, List.set_cons_zero, List.set_cons_succ])
        (refine lexg_effN (by rfl) ?_; go_simp)
        (apply lexg_pure (by rfl); (focus (intro w; go_simp; (try with_reducible rfl); done)); simp only [Act.put, List.setIfInBounds_toArray, List.set_cons_zero, List.set_cons_succ])
        refine lexg_nil (fun _ => wpAnyG_done (by kernel_rfl) ?_ _)
      rotate_left
      · rename_i hunm2
        clear hunm2
        obtain ⟨bM, oM, rfl, hbM, hbM2, hcM⟩ := hm5.cell (j := 0) (i := (pr K).2) (by rw [← List.head?_eq_getElem?]; exact HI.out.2.2)
        go_wp2
        go_meet
        exact ⟨w5.heap.size, d, bM, oM, d', B, rfl, rfl, Blk.new rfl, by simp; omega, (World.cell?_alloc_lt w5 _ _ hbM2).trans hcM, belowA (belowL hb5q _) HBC.out, by have h1 := hb5q.size; have h2 := HBC.out.size; omega⟩
      · rename_i hunm2
        clear hunm2
        obtain ⟨bM, oM, rfl, hbM, hbM2, hcM⟩ := hm5.cell (j := 0) (i := (pr K).2) (by rw [← List.head?_eq_getElem?]; exact HI.out.2.2)
        have hbM' : bM ≠ wc.heap.size := by simp at hbM; omega
        go_wp2
        go_meet
        exact ⟨wc.heap.size, d, bM, oM, d', B, rfl, rfl, ((((qb.set 0 (.int .i64 x.id)).set 1 (.int .i64 x.vol)).set 2 (.int .i64 x.ep)).set 3 (.slice (some ⟨bM, oM, none⟩) x.me.length d)).set 4 (.slice B x.jo.length d'), by simp; omega,
          cell_oth (cell_oth (cell_oth (cell_oth (cell_oth hcM hbM') hbM') hbM') hbM') hbM',
          belowA (((((hb5q.setCell (Nat.le_refl _) _).setCell (Nat.le_refl _) _).setCell (Nat.le_refl _) _).setCell (Nat.le_refl _) _).setCell (Nat.le_refl _) _) HBC.out, HBC.out.size⟩
    case rest =>
      obtain ⟨xk, d, bM, oM, d', B2, rfl, rfl, hxk, hbM, hcM, hb2, hxw⟩ := hcut
      have r2 := Below.refl wc.heap.size wc
      clear rc y7 ya e2' HC2
      have hml : 0 < x.me.length := by
        cases hm : x.me with
        | nil => rw [hm] at HI; cases HI.out.2.2
        | cons a b => simp
      have z0 := hxk.cell 0
      have z3 := hxk.cell 3
      simp only [List.getElem?_cons_succ, List.getElem?_cons_zero] at z0 z3
      have k8' := k8 wc hb2
      have k1' := k1 wc hb2
      have HB2 := hide hb2
      have HXK := hide hxk
      clear hxk hb2
      have hto : i64ok (pr K).2 := by have := HSE.out.me K; unfold i64ok; omega
      have hlk := (HCU.out.2.2.2.2.chg (Chg.of_below (L := []) HB2.out) (by simp)).look (by rw [HK.out.1]; exact hto)
      rw [HK.out.1] at hlk
      have HP := hide (H.out.chg (Chg.of_below (L := []) HB2.out) (by simp) (fun q => CurM.chg q (Chg.of_below (L := []) HB2.out) (by simp)))
      obtain ⟨q, hq⟩ : ∃ q, (pr K).2 = q := ⟨_, rfl⟩
      rw [hq] at hlk hto hcM
      have HQ := hide hq
      clear hq
      go_upto_if 75 with fail
      go_cut [9, 10] from 12 to 148 (fun dl ow wx => ∃ (Ft' : List Nat) (dz oz : Int), dl = .int .i64 dz ∧ ow = .int .i64 oz ∧ (dz = (if k.asked then (0 : Int) else (X.tr.delta q).d) ∧ oz = (if k.asked then (0 : Int) else (X.tr.delta q).r)) ∧
        CP wx (c :: (Ft' ++ (ma :: cb :: rv.ownBlock.toList) ++ Fa ++ Fo)) c (some S) (n + 1) { X with tr := if k.asked then X.tr else X.tr.beg q, cur := some { k with asked := true } } (fun w Fc v => CurM w pr Fc v (some { k with asked := true })) (.pointer (some ⟨xb, 0, none⟩)) mt (.pointer (some ⟨cb, 0, none⟩)) ans out Ft' (ma :: cb :: rv.ownBlock.toList) Fa Fo ∧
        (∀ z ∈ c :: (Ft' ++ (ma :: cb :: rv.ownBlock.toList) ++ Fa ++ Fo), z ∈ F ∨ w.heap.size ≤ z) ∧ Chg F w wx ∧ Blk wx xk 89 [.int .i64 x.id, .int .i64 x.vol, .int .i64 x.ep, .slice (some ⟨bM, oM, none⟩) x.me.length d, .slice B2 x.jo.length d'])
      case first =>
        cases hka : k.asked with
        | true =>
          have HKA := hide hka
          clear hka
          go_wp2
          go_meet
          have hkk : ({ k with asked := true } : Wk) = k := by rw [← HKA.out]
          have hp := HP.out
          have hcm : CurM wc pr (ma :: cb :: rv.ownBlock.toList) (.pointer (some ⟨cb, 0, none⟩)) X.cur := hp.cu
          rw [hk] at hcm
          refine ⟨Ft, 0, 0, rfl, rfl, ⟨by rw [HKA.out]; simp, by rw [HKA.out]; simp⟩, ?_, fun z hz => Or.inl (by rw [H.out.eF]; exact hz), Chg.of_below HB2.out, HXK.out⟩
          rw [hkk, HKA.out]
          simp only [if_true]
          exact ⟨hp.blk, rfl, by rw [← H.out.eF]; exact hp.nd, fun z hz => hp.lt z (by rw [H.out.eF]; exact hz), by rw [← H.out.eF]; exact hp.st, hp.tr.mono (by omega), hcm, by rw [← H.out.eF]; exact hp.an, by rw [← H.out.eF]; exact hp.ou⟩
        | false =>
          have HKA := hide hka
          have HTK := hide (ctracker_calls HP.out.tr HP.out.dj.2.1.1 HP.out.blk)
          clear hka
          go_wp2_with fail
          refine HTK.out.mono ?_
          rintro e w5 ⟨tb, Fu, rfl, hg5, ht5, hc5, hf5, hn5⟩
          have HBG := hide (tbegin_calls w5 Fu tb n X.tr q ht5 hto hn)
          have H5 := hide (And.intro hg5 (And.intro ht5 (And.intro hc5 (And.intro hf5 hn5))))
          clear hg5 ht5 hc5 hf5 hn5 HTK
          go_wp2_with fail
          refine HBG.out.mono ?_
          rintro e w6 ⟨rfl, ht6, hc6⟩
          have hmt : mt ∈ Ft := HP.out.tr.mem
          have hqz : ∀ z ∈ ma :: cb :: rv.ownBlock.toList, z ∉ mt :: Fu := fun z hz hx => by
            rcases H5.out.2.2.2.1 z hx with h3 | h3
            · exact (HP.out.dj.1.2.1 z hz).2.1 h3
            · have := HP.out.lt z (HP.out.mem.2.2.1 z hz); omega
          have hch6 : Chg (mt :: Fu) wc w6 := (H5.out.2.2.1.mono (fun z hz => Or.inl (by rw [List.mem_singleton.1 hz]; simp))).same (hc6.mono (fun z hz => Or.inl (List.mem_cons_of_mem _ hz)))
          have ha0 : GM w ma 0 (fun _ => none) := by
            have := HCU.out.2.2.2.2
            unfold Asked at this
            rw [HKA.out] at this
            exact this
          have ha6 := (ha0.below HB2.out).chg hch6 (hqz ma (by simp))
          obtain ⟨w7, hrun, hg7, hc7⟩ := ha6.put (mt := 80) (k := q) hto Tryz.underlying80 (.bool true) (by omega)
          simp only [Option.isSome_none, Bool.false_eq_true, if_false, Nat.zero_add] at hg7
          have hcb6 := (HCU.out.1.below HB2.out).chg hch6 (hqz cb (by simp))
          have k8 := hcb6.cell 8
          simp only [List.getElem?_cons_succ, List.getElem?_cons_zero] at k8
          have hcc : c ∉ mt :: Fu := fun hx => by
            rcases H5.out.2.2.2.1 c hx with h3 | h3
            · exact HP.out.dj.2.2.1 h3
            · have := HP.out.lt c HP.out.mem.1; omega
          have hmac : ma ≠ c := (HP.out.dj.1.2.1 ma (by simp)).1
          have hmam : ma ∉ mt :: Fu := hqz ma (by simp)
          have hcm : ma ≠ cb ∧ ma ∉ rv.ownBlock.toList := by
            have := HP.out.dj.2.1.2.1
            simp only [List.nodup_cons, List.mem_cons, not_or] at this
            exact this.1
          have hg6 := H5.out.1.chg hc6 (fun hx => (List.nodup_cons.1 H5.out.2.2.2.2).1 hx)
          have hchW : Chg (ma :: mt :: Fu) wc w7 := (hch6.mono (fun z hz => Or.inl (List.mem_cons_of_mem _ hz))).trans hc7 (fun z hz => Or.inl (by rw [List.mem_singleton.1 hz]; simp))
          have hw := HP.out.work (n' := n + 1) (Ft' := mt :: Fu) (Fc' := ma :: cb :: rv.ownBlock.toList) (cur' := .pointer (some ⟨cb, 0, none⟩)) (X' := { X with tr := X.tr.beg q, cur := some { k with asked := true } }) (U' := fun w Fc v => CurM w pr Fc v (some { k with asked := true })) hchW
            (fun z hz => by
              rcases List.mem_cons.1 hz with rfl | hz
              · exact Or.inr (Or.inl (by simp))
              · rcases H5.out.2.2.2.1 z hz with h3 | h3
                · exact Or.inl h3
                · exact Or.inr (Or.inr h3))
            ((HP.out.blk.chg hch6 hcc).chg hc7 (by simpa using hmac.symm))
            (fun z hz => ⟨by
              rcases H5.out.2.2.2.1 z hz with h3 | h3
              · exact Or.inl h3
              · exact Or.inr (Or.inr h3), by
              rcases List.mem_cons.1 hz with rfl | hz
              · exact (hg6.chg hc7 (by simp; intro e; exact hmam (by rw [e]; simp))).lt
              · exact Nat.lt_of_lt_of_le (ht6.lt z hz) hc7.size⟩)
            (fun z hz => ⟨Or.inr (Or.inl hz), Nat.lt_of_lt_of_le (HP.out.lt z (HP.out.mem.2.2.1 z hz)) hchW.size⟩) H5.out.2.2.2.2 HP.out.dj.2.1.2.1 (fun z hz hx => hqz z hx hz) rfl rfl
            (Or.inr ⟨tb, Fu, rfl, hg6.chg hc7 (by simp; intro e; exact hmam (by rw [e]; simp)), ht6.chg hc7 (fun z hz hx => by rw [List.mem_singleton.1 hx] at hz; exact hmam (List.mem_cons_of_mem _ hz))⟩)
            (by
              refine ⟨ma, _, rfl, ⟨cb, rv, B, cB, blen, rfl, rfl, hcb6.chg hc7 (by simpa using hcm.1.symm), HCU.out.2.1, HCU.out.2.2.1, ?_⟩, ?_⟩
              · exact own_chg (own_chg (own_chg HCU.out.2.2.2.1 (Chg.of_below (L := []) HB2.out) (fun _ _ hx => by cases hx)) hch6 (fun g hg => hqz g (by simp [hg]))) hc7 (fun g hg hx => hcm.2 (by rw [← List.mem_singleton.1 hx]; simp [hg]))
              · unfold Asked
                simp only [if_true]
                show GM w7 ma 1 (updV (fun _ => none) (pr (k.at_ / 8)).2 (some (.bool true)))
                rw [HK.out.1, HQ.out]
                exact hg7)
          have hxk7 : Blk w7 xk 89 [.int .i64 x.id, .int .i64 x.vol, .int .i64 x.ep, .slice (some ⟨bM, oM, none⟩) x.me.length d, .slice B2 x.jo.length d'] := HXK.out.chg hchW (fun hx => by
            have hx2 := HXK.out.lt
            have hF : xk ∈ F ∨ wc.heap.size ≤ xk := by
              rcases List.mem_cons.1 hx with rfl | hx
              · exact Or.inl (HP.out.mem.2.2.1 _ (by simp))
              · rcases H5.out.2.2.2.1 _ hx with h3 | h3
                · exact Or.inl (HP.out.mem.2.1 _ h3)
                · exact Or.inr h3
            rcases hF with h3 | h3
            · have := H.out.lt _ h3; omega
            · omega)
          have H7 := hide (And.intro hw.1 (And.intro (fun z hz => (hw.2 z hz).imp id (fun h3 => Nat.le_trans HB2.out.size h3)) (And.intro (((Chg.of_below (L := F) HB2.out)).trans hchW (fun z hz => by
            rcases List.mem_cons.1 hz with rfl | hz
            · exact Or.inl (HP.out.mem.2.2.1 _ (by simp))
            · rcases H5.out.2.2.2.1 _ hz with h3 | h3
              · exact Or.inl (HP.out.mem.2.1 _ h3)
              · exact Or.inr (Nat.le_trans HB2.out.size h3))) hxk7)))
          clear hw hxk7 hchW hg6 hcb6 ha6 ha0 hch6 ht6 hc6 hg7 hc7
          go_wp2
          go_meet
          refine ⟨mt :: Fu, _, _, rfl, rfl, ⟨by rw [HKA.out]; simp, by rw [HKA.out]; simp⟩, ?_, H7.out.2.1, H7.out.2.2.1, H7.out.2.2.2⟩
          rw [HKA.out]
          exact H7.out.1
      case rest =>
        obtain ⟨Ft', dz, oz, rfl, rfl, hdo, hp, hsub, hchg, hxk⟩ := hcut
        have HDO := hide hdo
        clear hdo
        have hcu2 : CurM wc pr (ma :: cb :: rv.ownBlock.toList) (.pointer (some ⟨cb, 0, none⟩)) (some { k with asked := true }) := hp.cu
        obtain ⟨ma', Fb', hFe, ⟨cb', rv', B', cB', blen', hpe, hFb, hcb', hle', hlen', hrow'⟩, hask'⟩ := hcu2
        simp only [Value.pointer.injEq, Option.some.injEq, Addr.mk.injEq, and_true] at hpe
        subst hpe
        have e9 := Below.refl wc.heap.size wc
        have k0' := hcb'.rule 0 _ rfl
        have k4' := hcb'.rule 4 _ rfl
        have k6' := hcb'.rule 6 _ rfl
        have HP9 := hide (And.intro hp (And.intro hsub (And.intro hchg hxk)))
        have HLE' := hide (And.intro hle' hlen')
        have hd5 : k.done ≤ 512 := by have := HSE.out.bl; omega
        clear hp hsub hchg hxk hcb' hle' hlen' hrow' hask' hFe hFb
        go_upto_if 96 with fail
        go_cut [11] from 12 to 148 (fun b wx => ∃ (B9 : Option Addr) (c9 bn : Nat), b = .slice B9 bn c9 ∧ bn = (if k.kind = 1 then 16 else 0) ∧ Below wc.heap.size wc wx)
        case first =>
          by_cases hk1 : k.kind = 1
          · have hk1' : ((k.kind : Int) == 1) = true := by simp [hk1]
            have hm1 : IntKind.i64.wrap ((k.done : Int) * 16) = (k.done : Int) * 16 := IntWalk.i64_in _ (by omega)
            have hm2 : IntKind.i64.wrap ((k.done : Int) + 1) = (k.done : Int) + 1 := IntWalk.i64_in _ (by omega)
            have hm3 : IntKind.i64.wrap (((k.done : Int) + 1) * 16) = ((k.done : Int) + 1) * 16 := IntWalk.i64_in _ (by omega)
            obtain ⟨Bz, cz, hsl⟩ := slice16e B' blen' cB' k.done (by have h3 := HLE'.out.1; have h4 := HLE'.out.2 hk1; simp only [] at h4; omega)
            have HK1 := hide hk1
            clear hk1
            go_upto_region 12 with fail
            refine region_lexg (fun w' => Below wc.heap.size wc w') [16] 0 [(2, 0), (2, 1), (2, 2), (0, 3), (2, 4), (2, 5), (2, 6), (0, 7), (2, 8), (2, 9), (2, 10), (2, 11), (0, 12), (2, 13), (2, 14), (2, 15), (3, 16)] #[true, true, true, true, true, true, true, true, true, true, true, true, true, true, true, true, true] (by kernel_rfl) (by kernel_rfl) (by decide) (by kernel_rfl) (by kernel_rfl) (fun _ _ _ _ _ h => h) (by (first | (with_reducible assumption) | exact e9.drew)) (fun hS0 => ?_)
            simp only [List.map_cons, List.map_nil, List.getElem?_toArray, List.getElem?_cons_succ, List.getElem?_cons_zero]
            (apply lexg_pure (by rfl); (focus (intro w; go_simp; (try with_reducible rfl); done)); simp only [Act.put, List.setIfInBounds_toArray, List.set_cons_zero, List.set_cons_succ])
            (apply lexg_pure (by rfl); (focus (intro w; go_simp; (try with_reducible rfl); done)); simp only [Act.put, List.setIfInBounds_toArray, List.set_cons_zero, List.set_cons_succ])
            (apply lexg_pure (by rfl); (focus (intro w; go_simp; (try with_reducible rfl); done)); simp only [Act.put, List.setIfInBounds_toArray, List.set_cons_zero, List.set_cons_succ])
            (apply lexg_take (by rfl); (focus (intro w hw; (try dsimp only at hw); go_simp; (try with_reducible rfl); done)); simp only [Act.put, List.setIfInBounds_toArray, List.set_cons_zero, List.set_cons_succ])
            (apply lexg_pure (by rfl); (focus (intro w; go_simp; (try with_reducible rfl); done)); simp only [Act.put, List.setIfInBounds_toArray, List.set_cons_zero, List.set_cons_succ])
            (apply lexg_pure (by rfl); (focus (intro w; go_simp; (try with_reducible rfl); done)); simp only [Act.put, List.setIfInBounds_toArray, List.set_cons_zero, List.set_cons_succ])
            (apply lexg_pure (by rfl); (focus (intro w; go_simp; (try with_reducible rfl); done)); simp only [Act.put, List.setIfInBounds_toArray, List.set_cons_zero, List.set_cons_succ])
            (apply lexg_take (by rfl); (focus (intro w hw; (try dsimp only at hw); go_simp; (try with_reducible rfl); done)); simp only [Act.put, List.setIfInBounds_toArray, List.set_cons_zero, List.set_cons_succ])
            (apply lexg_pure (by rfl); (focus (intro w; go_simp; (try with_reducible rfl); done)); simp only [Act.put, List.setIfInBounds_toArray, List.set_cons_zero, List.set_cons_succ])
            (apply lexg_pure (by rfl); (focus (intro w; go_simp; (try with_reducible rfl); done)); simp only [Act.put, List.setIfInBounds_toArray, List.set_cons_zero, List.set_cons_succ])
            (apply lexg_pure (by rfl); (focus (intro w; go_simp; (try with_reducible rfl); done)); simp only [Act.put, List.setIfInBounds_toArray, List.set_cons_zero, List.set_cons_succ])
            (apply lexg_pure (by rfl); (focus (intro w; go_simp; (try with_reducible rfl); done)); simp only [Act.put, List.setIfInBounds_toArray, List.set_cons_zero, List.set_cons_succ])
            (apply lexg_take (by rfl); (focus (intro w hw; (try dsimp only at hw); go_simp; (try with_reducible rfl); done)); simp only [Act.put, List.setIfInBounds_toArray, List.set_cons_zero, List.set_cons_succ])
            (apply lexg_pure (by rfl); (focus (intro w; go_simp; (try with_reducible rfl); done)); simp only [Act.put, List.setIfInBounds_toArray, List.set_cons_zero, List.set_cons_succ])
            (apply lexg_pure (by rfl); (focus (intro w; go_simp; (try with_reducible rfl); done)); simp only [Act.put, List.setIfInBounds_toArray, List.set_cons_zero, List.set_cons_succ])
            (apply lexg_pure (by rfl); (focus (intro w; go_simp; (try with_reducible rfl); done)); simp only [Act.put, List.setIfInBounds_toArray, List.set_cons_zero, List.set_cons_succ])
            (refine lexg_effN (by rfl) ?_; go_simp)
            refine lexg_nil (fun _ => wpAnyG_done (by kernel_rfl) ?_ _)
            rename_i hunm9
            clear hunm9
            go_wp2
            go_meet
            exact ⟨Bz, cz, 16, rfl, by rw [if_pos HK1.out], e9.drew⟩
          · have hk1' : ((k.kind : Int) == 1) = false := by simp; omega
            have HK1 := hide hk1
            clear hk1
            go_wp2
            go_meet
            exact ⟨none, 0, 0, rfl, by rw [if_neg HK1.out], e9⟩
        case rest =>
          obtain ⟨B9, c9, bn, rfl, hbn, hb9⟩ := hcut
          obtain ⟨i0, hi, hz0, hz1, hz2⟩ := info_parts Tryz.infoPost
          have hp := HP9.out.1.chg (Chg.of_below (L := []) hb9) (by simp) (fun h => CurM.chg h (Chg.of_below (L := []) hb9) (by simp))
          obtain ⟨P, hP, how, hFo, hPok⟩ := hp.ou
          obtain ⟨Ao, co, rfl, g1, g2, g3, g4, g5⟩ := own_view how
          have hPl : P.length ≤ 100000 := by
            have h3 : (P.map PoM.p).length = X.out.length := by rw [hP]
            rw [List.length_map] at h3
            omega
          have e9 := Below.refl wc.heap.size wc
          have e0' := hp.blk.rule 0 _ rfl
          have e1' := hp.blk.rule 1 _ rfl
          have e6' := hp.blk.rule 6 _ rfl
          have hcu3 : CurM wc pr (ma :: cb :: rv.ownBlock.toList) (.pointer (some ⟨cb, 0, none⟩)) (some { k with asked := true }) := hp.cu
          obtain ⟨ma3, Fb3, hFe3, ⟨cb3, rv3, B3, cB3, blen3, hpe3, hFb3, hcb3, _, _, _⟩, _⟩ := hcu3
          simp only [Value.pointer.injEq, Option.some.injEq, Addr.mk.injEq, and_true] at hpe3
          subst hpe3
          have k0' := hcb3.rule 0 _ rfl
          have k1' := hcb3.rule 1 _ rfl
          have hxk := HP9.out.2.2.2.below hb9
          have z0' := hxk.rule 0 _ rfl
          have hw40 : IntKind.i64.wrap (40 + q) = 40 + q := by
            have h3 := HSE.out.me K
            rw [HQ.out] at h3
            exact IntWalk.i64_in _ (by omega)
          have HP13 := hide (And.intro hp (And.intro HP9.out.2.1 ((HP9.out.2.2.1).below hb9)))
          have HO := hide (And.intro hP (And.intro how (And.intro hFo (And.intro hPok g3))))
          have HBN := hide hbn
          have HDJ := hide hp.dj
          clear hp hP how hFo hPok g1 g2 g3 g4 g5 hFe3 hFb3 hcb3 hxk hbn hb9
          go_upto_region 13 with fail
          refine region_lqm (fun w' => Below wc.heap.size wc w') [33] [(2, 0), (2, 1), (2, 2), (2, 3), (0, 4), (2, 5), (2, 6), (2, 7), (0, 8), (2, 9), (2, 10), (2, 11), (0, 12), (2, 13), (2, 14), (2, 15), (0, 16), (2, 17), (2, 18), (2, 19), (0, 20), (2, 21), (2, 22), (2, 23), (2, 24), (0, 25), (2, 26), (2, 27), (2, 29), (1, 28), (2, 30), (2, 31), (1, 32), (3, 33), (2, 34), (2, 35), (3, 36)] #[true, true, true, true, true, true, true, true, true, true, true, true, true, true, true, true, true, true, true, true, true, true, true, true, true, true, true, true, true, true, true, true, true, true, true, true, true] (by kernel_rfl) (by kernel_rfl) (by kernel_rfl) (by kernel_rfl) (by kernel_rfl) (by kernel_rfl) (fun _ _ _ _ _ h => h) (by (first | (with_reducible assumption) | (repeat (first | (with_reducible assumption) | (with_reducible refine Below.drew ?_) | (with_reducible refine belowL ?_ _))))) (hL := rfl) ?_
          (apply lq_pure (by rfl); (focus (intro w; go_simp; (try with_reducible rfl); done)); intro K hK; simp only [Act.put, List.setIfInBounds_toArray, List.set_cons_zero, List.set_cons_succ]; refine hK _ ?_; clear hK K)
          (apply lq_pure (by rfl); (focus (intro w; go_simp; (try with_reducible rfl); done)); intro K hK; simp only [Act.put, List.setIfInBounds_toArray, List.set_cons_zero, List.set_cons_succ]; refine hK _ ?_; clear hK K)
          (apply lq_pure (by rfl); (focus (intro w; go_simp; (try with_reducible rfl); done)); intro K hK; simp only [Act.put, List.setIfInBounds_toArray, List.set_cons_zero, List.set_cons_succ]; refine hK _ ?_; clear hK K)
          (apply lq_pure (by rfl); (focus (intro w; go_simp; (try with_reducible rfl); done)); intro K hK; simp only [Act.put, List.setIfInBounds_toArray, List.set_cons_zero, List.set_cons_succ]; refine hK _ ?_; clear hK K)
          (apply lq_take (by rfl); (focus (intro w hw; (try dsimp only at hw); go_simp; (try with_reducible rfl); done)); intro K hK; simp only [Act.put, List.setIfInBounds_toArray, List.set_cons_zero, List.set_cons_succ]; refine hK _ ?_; clear hK K)
          (apply lq_pure (by rfl); (focus (intro w; go_simp; (try with_reducible rfl); done)); intro K hK; simp only [Act.put, List.setIfInBounds_toArray, List.set_cons_zero, List.set_cons_succ]; refine hK _ ?_; clear hK K)
          (apply lq_pure (by rfl); (focus (intro w; go_simp; (try with_reducible rfl); done)); intro K hK; simp only [Act.put, List.setIfInBounds_toArray, List.set_cons_zero, List.set_cons_succ]; refine hK _ ?_; clear hK K)
          (apply lq_pure (by rfl); (focus (intro w; go_simp; (try with_reducible rfl); done)); intro K hK; simp only [Act.put, List.setIfInBounds_toArray, List.set_cons_zero, List.set_cons_succ]; refine hK _ ?_; clear hK K)
          (apply lq_take (by rfl); (focus (intro w hw; (try dsimp only at hw); go_simp; (try with_reducible rfl); done)); intro K hK; simp only [Act.put, List.setIfInBounds_toArray, List.set_cons_zero, List.set_cons_succ]; refine hK _ ?_; clear hK K)
          (apply lq_pure (by rfl); (focus (intro w; go_simp; (try with_reducible rfl); done)); intro K hK; simp only [Act.put, List.setIfInBounds_toArray, List.set_cons_zero, List.set_cons_succ]; refine hK _ ?_; clear hK K)
          (apply lq_pure (by rfl); (focus (intro w; go_simp; (try with_reducible rfl); done)); intro K hK; simp only [Act.put, List.setIfInBounds_toArray, List.set_cons_zero, List.set_cons_succ]; refine hK _ ?_; clear hK K)
          (apply lq_pure (by rfl); (focus (intro w; go_simp; (try with_reducible rfl); done)); intro K hK; simp only [Act.put, List.setIfInBounds_toArray, List.set_cons_zero, List.set_cons_succ]; refine hK _ ?_; clear hK K)
          (apply lq_take (by rfl); (focus (intro w hw; (try dsimp only at hw); go_simp; (try with_reducible rfl); done)); intro K hK; simp only [Act.put, List.setIfInBounds_toArray, List.set_cons_zero, List.set_cons_succ]; refine hK _ ?_; clear hK K)
          (apply lq_pure (by rfl); (focus (intro w; go_simp; (try with_reducible rfl); done)); intro K hK; simp only [Act.put, List.setIfInBounds_toArray, List.set_cons_zero, List.set_cons_succ]; refine hK _ ?_; clear hK K)
          (apply lq_pure (by rfl); (focus (intro w; go_simp; (try with_reducible rfl); done)); intro K hK; simp only [Act.put, List.setIfInBounds_toArray, List.set_cons_zero, List.set_cons_succ]; refine hK _ ?_; clear hK K)
          (apply lq_pure (by rfl); (focus (intro w; go_simp; (try with_reducible rfl); done)); intro K hK; simp only [Act.put, List.setIfInBounds_toArray, List.set_cons_zero, List.set_cons_succ]; refine hK _ ?_; clear hK K)
          (apply lq_take (by rfl); (focus (intro w hw; (try dsimp only at hw); go_simp; (try with_reducible rfl); done)); intro K hK; simp only [Act.put, List.setIfInBounds_toArray, List.set_cons_zero, List.set_cons_succ]; refine hK _ ?_; clear hK K)
          (apply lq_pure (by rfl); (focus (intro w; go_simp; (try with_reducible rfl); done)); intro K hK; simp only [Act.put, List.setIfInBounds_toArray, List.set_cons_zero, List.set_cons_succ]; refine hK _ ?_; clear hK K)
          (apply lq_pure (by rfl); (focus (intro w; go_simp; (try with_reducible rfl); done)); intro K hK; simp only [Act.put, List.setIfInBounds_toArray, List.set_cons_zero, List.set_cons_succ]; refine hK _ ?_; clear hK K)
          (apply lq_pure (by rfl); (focus (intro w; go_simp; (try with_reducible rfl); done)); intro K hK; simp only [Act.put, List.setIfInBounds_toArray, List.set_cons_zero, List.set_cons_succ]; refine hK _ ?_; clear hK K)
          (apply lq_take (by rfl); (focus (intro w hw; (try dsimp only at hw); go_simp; (try with_reducible rfl); done)); intro K hK; simp only [Act.put, List.setIfInBounds_toArray, List.set_cons_zero, List.set_cons_succ]; refine hK _ ?_; clear hK K)
          (apply lq_pure (by rfl); (focus (intro w; go_simp; (try with_reducible rfl); done)); intro K hK; simp only [Act.put, List.setIfInBounds_toArray, List.set_cons_zero, List.set_cons_succ]; refine hK _ ?_; clear hK K)
          (apply lq_pure (by rfl); (focus (intro w; go_simp; (try with_reducible rfl); done)); intro K hK; simp only [Act.put, List.setIfInBounds_toArray, List.set_cons_zero, List.set_cons_succ]; refine hK _ ?_; clear hK K)
          (apply lq_pure (by rfl); (focus (intro w; go_simp; (try with_reducible rfl); done)); intro K hK; simp only [Act.put, List.setIfInBounds_toArray, List.set_cons_zero, List.set_cons_succ]; refine hK _ ?_; clear hK K)
          (apply lq_pure (by rfl); (focus (intro w; go_simp; (try with_reducible rfl); done)); intro K hK; simp only [Act.put, List.setIfInBounds_toArray, List.set_cons_zero, List.set_cons_succ]; refine hK _ ?_; clear hK K)
          (apply lq_take (by rfl); (focus (intro w hw; (try dsimp only at hw); go_simp; (try with_reducible rfl); done)); intro K hK; simp only [Act.put, List.setIfInBounds_toArray, List.set_cons_zero, List.set_cons_succ]; refine hK _ ?_; clear hK K)
          (apply lq_pure (by rfl); (focus (intro w; go_simp; (try with_reducible rfl); done)); intro K hK; simp only [Act.put, List.setIfInBounds_toArray, List.set_cons_zero, List.set_cons_succ]; refine hK _ ?_; clear hK K)
          (apply lq_pure (by rfl); (focus (intro w; go_simp; (try with_reducible rfl); done)); intro K hK; simp only [Act.put, List.setIfInBounds_toArray, List.set_cons_zero, List.set_cons_succ]; refine hK _ ?_; clear hK K)
          (apply lq_pure (by rfl); (focus (intro w; go_simp; (try with_reducible rfl); done)); intro K hK; simp only [Act.put, List.setIfInBounds_toArray, List.set_cons_zero, List.set_cons_succ]; refine hK _ ?_; clear hK K)
          refine lq_eff (by rfl) ?_
          intro K Q1 hQ1 hK; clear hQ1; go_simp; refine hK _ _ (by (first | (with_reducible assumption) | (repeat (first | (with_reducible assumption) | (with_reducible refine Below.drew ?_) | (with_reducible refine belowL ?_ _))))) ?_; clear hK K Q1
          (apply lq_pure (by rfl); (focus (intro w; go_simp; (try with_reducible rfl); done)); intro K hK; simp only [Act.put, List.setIfInBounds_toArray, List.set_cons_zero, List.set_cons_succ]; refine hK _ ?_; clear hK K)
          (apply lq_pure (by rfl); (focus (intro w; go_simp; (try with_reducible rfl); done)); intro K hK; simp only [Act.put, List.setIfInBounds_toArray, List.set_cons_zero, List.set_cons_succ]; refine hK _ ?_; clear hK K)
          refine lq_eff (by rfl) ?_
          intro K Q1 hQ1 hK; clear hQ1; go_simp; refine hK _ _ (by (first | (with_reducible assumption) | (repeat (first | (with_reducible assumption) | (with_reducible refine Below.drew ?_) | (with_reducible refine belowL ?_ _))))) ?_; clear hK K Q1
          refine lq_effN (by rfl) ?_
          intro K Q1 hQ1 hK; clear hQ1; (refine app_wp _ _ 33 rfl 40 i0 _ 5 88 Tryz.underlying33 hi hz0 hz1 hz2 rfl (by decide) (.slice Ao P.length co) P.length (poCells P) rfl (own_chg HO.out.2.1 (Chg.of_below (L := []) (by first | (with_reducible assumption) | (repeat (first | (with_reducible assumption) | (with_reducible refine Below.drew ?_) | (with_reducible refine belowL ?_ _))))) (fun _ _ hx => by cases hx)) (wc.heap.size + 1) 1 1 [.int .i64 (40 + q), .int .i64 15, .slice (some ⟨wc.heap.size, 0, none⟩) 8 8, .slice B9 bn c9, .slice none 0 0] rfl (Blk.drewT (Blk.new (by simp))) rfl (by intro u hu; simp at hu; rcases hu with rfl | rfl | rfl | rfl | rfl <;> rfl) (by decide) (by unfold maxLen; omega) (by omega) ?_; intro g cg w9 ho9 hch9 hg9 hgl9; have hS1 := giveB (W := wc) hch9 (by first | (with_reducible assumption) | (repeat (first | (with_reducible assumption) | (with_reducible refine Below.drew ?_) | (with_reducible refine belowL ?_ _)))); have hN : Blk _ wc.heap.size 3 [.int .i64 x.id, .int .i64 X.id, .int .i64 X.num, .int .i64 k.kind, .int .i64 r8, .int .i64 4, .int .i64 dz, .int .i64 oz] := Blk.drewT (Blk.alloc (Blk.new (w := wc) rfl) (.cells #[.int .i64 (40 + q), .int .i64 15, .slice (some ⟨wc.heap.size, 0, none⟩) 8 8, .slice B9 bn c9, .slice none 0 0] 40)); have hc9 := (HP13.out.1.blk.below hS1).chg hch9 (by rw [← HO.out.2.2.1]; exact HDJ.out.2.2.2.2.2); have f6 := hc9.cell 6; have ff := hc9.frozen; simp only [List.getElem?_cons_succ, List.getElem?_cons_zero] at f6; have H9 := hide (And.intro ho9 (And.intro hch9 (And.intro hg9 (And.intro hgl9 (And.intro hc9 (And.intro hS1 hN)))))); clear ho9 hch9 hg9 hgl9 hc9 hN); (try simp only [Act.put, List.setIfInBounds_toArray, List.set_cons_zero, List.set_cons_succ]); refine hK _ _ ?_; clear hK K Q1
          (apply lq_pure (by rfl); (focus (intro w; go_simp; (try with_reducible rfl); done)); intro K hK; simp only [Act.put, List.setIfInBounds_toArray, List.set_cons_zero, List.set_cons_succ]; refine hK _ ?_; clear hK K)
          (apply lq_pure (by rfl); (focus (intro w; go_simp; (try with_reducible rfl); done)); intro K hK; simp only [Act.put, List.setIfInBounds_toArray, List.set_cons_zero, List.set_cons_succ]; refine hK _ ?_; clear hK K)
          refine lq_effN (by rfl) ?_
          intro K Q1 hQ1 hK; clear hQ1; go_simp; refine hK _ _ ?_; clear hK K Q1
          refine lq_nil ?_
          go_wp2
          go_end0
          have hX : X.send pr k = ({ ({ X with tr := if k.asked then X.tr else X.tr.beg q, cur := some { k with asked := true } } : Cl) with out := X.out ++ [⟨40 + q, [x.id, X.id, X.num, k.kind, r8, 4, dz, oz], bn⟩] } : Cl) := by
            unfold Cl.send Wk.post
            simp only []
            rw [HK.out.1, HK.out.2, HQ.out, ← HI.out.2.1, HBN.out, HDO.out.1, HDO.out.2]
            cases hka : k.asked <;> simp [Cnt.zero]
          rw [hX]
          exact ⟨rfl, CP.sent HP13.out.1 HO.out.1 HO.out.2.2.1 HO.out.2.2.2.1 H9.out.2.2.2.2.2.1 (Nat.le_refl _) (by simp; omega) H9.out.2.2.2.2.2.2 rfl H9.out.1 H9.out.2.1 H9.out.2.2.1 H9.out.2.2.2.1 rfl HP13.out.2.1 HP13.out.2.2⟩
end Go.Proofs.YtanfdnpnkdiiiaaGreat
