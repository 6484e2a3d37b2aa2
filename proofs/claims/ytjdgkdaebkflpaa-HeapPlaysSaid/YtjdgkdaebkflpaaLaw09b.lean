/- The law HeapSame: names that are set in another order stand as in the first one. -/
import Derived.Test.YtjdgkdaebkflpaaAll
import Derived.Test.YtjdgkdaebkflpaaPick
namespace Go.Proofs.Ytjdgkdaebkflpaa
open Go.ChangeShapes Go.WideShapes Go.ChangeAt Go.RowKit Go.Proofs Go.Joins Go.Maps
set_option linter.unusedVariables false

/-- names 0, 1, .., each with a key -/
def tab (n : Nat) (f : Nat → Int) : List Ld := (List.range n).map fun (j : Nat) => ⟨(j : Int), f j⟩
theorem tab_length (n : Nat) (f : Nat → Int) : (tab n f).length = n := by simp [tab]
theorem mem_tab {n : Nat} {f : Nat → Int} {x : Ld} : x ∈ tab n f ↔ ∃ j, j < n ∧ x = ⟨(j : Int), f j⟩ := by
  unfold tab
  rw [List.mem_map]
  constructor
  · rintro ⟨j, hj, rfl⟩; exact ⟨j, List.mem_range.1 hj, rfl⟩
  · rintro ⟨j, hj, rfl⟩; exact ⟨j, List.mem_range.2 hj, rfl⟩
theorem tab_nodup (n : Nat) (f : Nat → Int) : (tab n f).Nodup :=
  List.Pairwise.map _ (fun a b h h2 => h (by have := congrArg Ld.id h2; simp at this; omega)) List.nodup_range
theorem tab_congr {n : Nat} {f g : Nat → Int} (h : ∀ j, j < n → f j = g j) : tab n f = tab n g := by
  unfold tab
  exact List.map_congr_left fun j hj => by rw [h j (List.mem_range.1 hj)]
theorem mem_setL {L : List Ld} {x y : Ld} : y ∈ setL L x ↔ (y ∈ L ∧ y.id ≠ x.id) ∨ y = x := by
  unfold setL
  simp [List.mem_append, List.mem_filter]
theorem setL_nodup {L : List Ld} {x : Ld} (h : L.Nodup) : (setL L x).Nodup := by
  unfold setL
  rw [List.nodup_append]
  refine ⟨h.filter _, by simp, fun a ha b hb e => ?_⟩
  simp at hb
  rw [List.mem_filter] at ha
  rw [e, hb] at ha
  simp at ha
def fset (f : Nat → Int) (k : Nat) (v : Int) : Nat → Int := fun j => if j = k then v else f j
theorem tab_set {M : List Ld} {n m k : Nat} {f : Nat → Int} {v : Int} (h : M.Perm (tab n f)) (hk : k ≤ n) (hm : m = max n (k + 1)) : (setL M ⟨k, v⟩).Perm (tab m (fset f k v)) := by
  refine (setL_perm _ h).trans ((List.perm_ext_iff_of_nodup (setL_nodup (tab_nodup _ _)) (tab_nodup _ _)).2 fun y => ?_)
  rw [mem_setL, mem_tab, mem_tab]
  constructor
  · rintro (⟨⟨j, hj, rfl⟩, hn⟩ | rfl)
    · refine ⟨j, by omega, ?_⟩
      unfold fset
      rw [if_neg (fun e => hn (by simp [e]))]
    · refine ⟨k, by omega, ?_⟩
      unfold fset
      rw [if_pos rfl]
  · rintro ⟨j, hj, rfl⟩
    unfold fset
    by_cases e : j = k
    · right; rw [if_pos e, e]
    · left
      rw [if_neg e]
      exact ⟨⟨j, by omega, rfl⟩, fun e2 => e (by simp at e2; omega)⟩
/-- two heaps, apart -/
structure Two (W wr : World) (Ma Mb : List Ld) (Fa Fb : List Nat) : Prop where
  a : HeapAt wr W.heap.size Ma Fa
  b : HeapAt wr (W.heap.size + 1) Mb Fb
  apart : ∀ z ∈ Fa, z ∉ Fb
  la : ∀ z ∈ Fa, W.heap.size ≤ z
  lb : ∀ z ∈ Fb, W.heap.size ≤ z
  below : Below W.heap.size W wr
theorem HeapAt.flt {w : World} {p : Nat} {L : List Ld} {F : List Nat} (h : HeapAt w p L F) : ∀ z ∈ F, z < w.heap.size := by
  rcases h with ⟨hb, _, rfl⟩ | ⟨A, cap, bm, f, h, _, _, rfl⟩
  · intro z hz
    rw [List.mem_singleton.1 hz]
    exact hb.lt
  · exact h.lt
theorem HeapAt.chg {w w' : World} {p : Nat} {L : List Ld} {F G : List Nat} (h : HeapAt w p L F) (hc : Chg G w w') (hg : ∀ z ∈ F, z ∉ G) : HeapAt w' p L F := by
  rcases h with ⟨hb, hl, rfl⟩ | ⟨A, cap, bm, f, h, hf, ho, rfl⟩
  · exact Or.inl ⟨hb.chg hc (hg _ (List.mem_singleton.2 rfl)), hl, rfl⟩
  · exact Or.inr ⟨A, cap, bm, f, h.chg hc hg, hf, ho, rfl⟩
theorem HeapAt.below {w w' : World} {p : Nat} {L : List Ld} {F : List Nat} (h : HeapAt w p L F) (hb : Below w.heap.size w w') : HeapAt w' p L F := h.chg (Chg.of_below (L := []) hb) (fun _ _ hz => by cases hz)
section
variable {W wr w1 : World} {Ma Mb M' : List Ld} {Fa Fb F' : List Nat}
theorem Two.setA (h : Two W wr Ma Mb Fa Fb) (hA : HeapAt w1 W.heap.size M' F') (hc : Chg Fa wr w1) (hg : ∀ z ∈ F', z ∈ Fa ∨ wr.heap.size ≤ z) : Two W w1 M' Mb F' Fb :=
  ⟨hA, h.b.chg hc (fun z hz hz2 => h.apart z hz2 hz), fun z hz hz2 => by
    rcases hg z hz with h1 | h1
    · exact h.apart z h1 hz2
    · have := h.b.flt z hz2; omega, fun z hz => by
    rcases hg z hz with h1 | h1
    · exact h.la z h1
    · exact Nat.le_trans h.below.size h1, h.lb, Chg.onto h.below h.below.size hc h.la⟩
theorem Two.setB (h : Two W wr Ma Mb Fa Fb) (hA : HeapAt w1 (W.heap.size + 1) M' F') (hc : Chg Fb wr w1) (hg : ∀ z ∈ F', z ∈ Fb ∨ wr.heap.size ≤ z) : Two W w1 Ma M' Fa F' :=
  ⟨h.a.chg hc h.apart, hA, fun z hz hz2 => by
    rcases hg z hz2 with h1 | h1
    · exact h.apart z hz h1
    · have := h.a.flt z hz; omega, h.la, fun z hz => by
    rcases hg z hz with h1 | h1
    · exact h.lb z h1
    · exact Nat.le_trans h.below.size h1, Chg.onto h.below h.below.size hc h.lb⟩
theorem Two.later (h : Two W wr Ma Mb Fa Fb) (hb : Below wr.heap.size wr w1) : Two W w1 Ma Mb Fa Fb :=
  ⟨h.a.below hb, h.b.below hb, h.apart, h.la, h.lb, h.below.trans (hb.mono h.below.size)⟩
end
theorem tab_ids {M : List Ld} {n : Nat} {f : Nat → Int} (h : M.Perm (tab n f)) (hn : n ≤ 1000000) : ∀ y ∈ M, i64ok y.id := fun y hy => by
  obtain ⟨j, hj, rfl⟩ := mem_tab.1 (h.subset hy)
  unfold i64ok
  constructor <;> simp <;> omega
theorem Two.start (W : World) : Two W ((W.alloc (.cells [Value.slice none 0 0, .map none].toArray 55)).alloc (.cells [Value.slice none 0 0, .map none].toArray 55)) [] [] [W.heap.size] [W.heap.size + 1] :=
  ⟨Or.inl ⟨(Blk.new rfl).alloc _, rfl, rfl⟩, Or.inl ⟨Blk.new (by simp), rfl, rfl⟩, by simp, by simp, by simp, ((Below.refl _ _).alloc (Nat.le_refl _) _).alloc (by simp) _⟩
theorem pick_nat (k n : Int) (h : 1 ≤ n) : ∃ q : Nat, pick k n = q ∧ (q : Int) < n := by
  obtain ⟨h1, h2⟩ := pick_bd k n h
  exact ⟨(pick k n).toNat, by omega, by omega⟩
set_option maxHeartbeats 4000000 in
set_option maxRecDepth 100000 in
/-- THE WALK of HeapSame: whatever comes in, it answers true, and nothing that was there turns. -/
theorem heapSame_walk {H : Type} {enc : TypeId × Value → H} (W : World) (base : Nat) (v0 v1 v2 : Value) (d0 d1 d2 : DataW H) (p0 p1 p2 : List MemPlace)
    (ok0 : Value.okWide Try.prog W .any base 51 v0) (h0 : DataW.Trod enc Try.prog W 0 (fun _ => true) true 51 v0 d0 p0)
    (ok1 : Value.okWide Try.prog W .any base 51 v1) (h1 : DataW.Trod enc Try.prog W 0 (fun _ => true) true 51 v1 d1 p1)
    (ok2 : Value.okWide Try.prog W .any base 3 v2) (h2 : DataW.Trod enc Try.prog W 0 (fun _ => true) true 3 v2 d2 p2) :
    Calls Try.prog 11 #[v0, v1, v2] W fun e w' => e = .returned (.bool true) ∧ Below W.heap.size W w' := by
  obtain ⟨A0, c0, l, rfl, l0, m0, fw, R0⟩ := open_intsR Try.underlying51 Try.underlying3 (by kernel_rfl) ok0 h0
  obtain ⟨A1, c1, ks, rfl, l1, m1, fw1, R1⟩ := open_intsR Try.underlying51 Try.underlying3 (by kernel_rfl) ok1 h1
  obtain ⟨tn, rfl, rfl, rfl, wt⟩ := open_int Try.underlying3 ok2 h2
  clear ok0 h0 ok1 h1 ok2 h2 wt fw fw1
  unfold maxLen at m0 m1
  by_cases n0 : l.length ≤ 60 ∧ l.length ≤ ks.length ∧ ks.length ≤ 100
  · obtain ⟨n0, n1, n2⟩ := n0
    have HR0 := hide R0
    have HR1 := hide R1
    clear R0 R1
    have d1 : decide ((60 : Int) < l.length) = false := decide_eq_false (by omega)
    have d2 : decide (ks.length < l.length) = false := decide_eq_false (by omega)
    have d3 : decide ((100 : Int) < ks.length) = false := decide_eq_false (by omega)
    go_enter Try.func11, Try.ntmps11
    go_wp2
    have HT0 := hide (Two.start W)
    obtain ⟨kf, hkf⟩ : ∃ kf : Nat → Int, kf = fun j => ks.getD j 0 := ⟨_, rfl⟩
    have HKF := hide hkf
    have HK : ∀ (j : Nat) (wx : World), j < l.length → Below W.heap.size W wx → ∃ b o, A1 = some ⟨b, o, none⟩ ∧ wx.cell? ⟨b, o + j, none⟩ = some (.int .i64 (kf j)) := fun j wx hj hb => by
      obtain ⟨b', o, e1, hbB, hcell⟩ := HR1.out.at_ (by omega)
      refine ⟨b', o, e1, (hb.cell (p := ⟨b', o + j, none⟩) hbB).trans (hcell j _ ?_)⟩
      rw [HKF.out]
      simp [show j < ks.length by omega]
    have HL : ∀ (j : Nat) (wx : World), j < l.length → Below W.heap.size W wx → ∃ b o v, A0 = some ⟨b, o, none⟩ ∧ wx.cell? ⟨b, o + j, none⟩ = some (.int .i64 v) := fun j wx hj hb => by
      obtain ⟨b', o, e1, hbB, hcell⟩ := HR0.out.at_ (by omega)
      refine ⟨b', o, l[j], e1, (hb.cell (p := ⟨b', o + j, none⟩) hbB).trans (hcell j _ (by simp [hj]))⟩
    have HKK := hide HK
    have HLL := hide HL
    clear HK HL hkf
    go_loopw [9] (fun i wr => ∃ (k : Nat) (Ma Mb : List Ld) (Fa Fb : List Nat) (g : Nat → Int), k ≤ l.length ∧ i = .int .i64 k ∧ Two W wr Ma Mb Fa Fb ∧ Ma.Perm (tab k kf) ∧ Mb.Perm (tab k g)) (fun i _ => l.length - (intOf i).toNat)
    case atStart => exact ⟨0, [], [], _, _, kf, Nat.zero_le _, rfl, HT0.out, by simp [tab], by simp [tab]⟩
    case round =>
      obtain ⟨k, Ma, Mb, Fa, Fb, g, hk, rfl, hT, hPa, hPb⟩ := hrel
      have HT := hide hT
      have HPA := hide hPa
      have HPB := hide hPb
      clear hT hPa hPb
      by_cases hlt : k < l.length
      · obtain ⟨b0, o0, v, rfl, _⟩ := HLL.out k wr hlt HT.out.below
        obtain ⟨b1, o1, rfl, hc1⟩ := HKK.out k wr hlt HT.out.below
        have i1 : (k : Int) < l.length := by omega
        have i2 : (k : Int) < ks.length := by omega
        obtain ⟨u, hu⟩ : ∃ u, kf k = u := ⟨_, rfl⟩
        rw [hu] at hc1
        have HU := hide hu
        clear hu
        go_wp2_with fail
        have hPa := HPA.out
        have hids := tab_ids hPa (by omega)
        have hml : Ma.length ≤ 1000 := by have := hPa.length_eq; rw [tab_length] at this; omega
        refine (set_calls W.heap.size Ma Fa ⟨k, u⟩ _ (HT.out.a) hids (by unfold i64ok; constructor <;> simp <;> omega) hml).mono ?_
        rintro e w1 ⟨rfl, M1, F1, hA1, hp1, hc1, hg1⟩
        have hp2 : M1.Perm (tab (k + 1) (fset kf k u)) := hp1.trans (tab_set hPa (by omega) (by omega))
        have HT1 := hide (HT.out.setA hA1 hc1 hg1)
        have HP1 := hide hp2
        clear hids hml hA1 hp1 hp2 hc1 hg1
        obtain ⟨b0', o0', v, e0, hc0⟩ := HLL.out k w1 hlt HT1.out.below
        cases e0
        go_wp2_with fail
        have hPb := HPB.out
        have hids := tab_ids hPb (by omega)
        have hml : Mb.length ≤ 1000 := by have := hPb.length_eq; rw [tab_length] at this; omega
        refine (set_calls (W.heap.size + 1) Mb Fb ⟨k, v⟩ _ (HT1.out.b) hids (by unfold i64ok; constructor <;> simp <;> omega) hml).mono ?_
        rintro e w2 ⟨rfl, M2, F2, hA1, hp1, hc1, hg1⟩
        have hp2 : M2.Perm (tab (k + 1) (fset g k v)) := hp1.trans (tab_set hPb (by omega) (by omega))
        have HT2 := hide (HT1.out.setB hA1 hc1 hg1)
        have HP2 := hide hp2
        clear hids hml hA1 hp1 hp2 hc1 hg1
        go_wp2
        go_roundw
        case rel =>
          refine ⟨k + 1, M1, M2, F1, F2, fset g k v, by omega, by go_num, HT2.out, ?_, HP2.out⟩
          have := HP1.out
          rw [show fset kf k u = kf from by funext j; unfold fset; split; (rename_i e; rw [e, HU.out]); rfl] at this
          exact this
        case measure => simp [intOf]; omega
      · have hkn : ¬ ((k : Int) < l.length) := by omega
        have e : k = l.length := by omega
        have HE := hide e
        clear e hlt
        go_wp2
        go_loopw [10, 11] (fun i _ wr => ∃ (c : Nat) (Mb : List Ld) (Fb : List Nat) (g : Nat → Int), c ≤ l.length ∧ i = .int .i64 c ∧ Two W wr Ma Mb Fa Fb ∧ Mb.Perm (tab l.length g)) (fun i _ _ => l.length - (intOf i).toNat)
        case atStart => exact ⟨0, Mb, Fb, g, Nat.zero_le _, rfl, HT.out, by rw [← HE.out]; exact HPB.out⟩
        case round =>
          clear hkn HT HPB
          obtain ⟨c, Mb, Fb, g, hc, rfl, hT, hPb⟩ := hrel
          have HT := hide hT
          have HPB := hide hPb
          clear hT hPb
          by_cases hlt : c < l.length
          · have i1 : (c : Int) < l.length := by omega
            go_wp2_with fail
            with_reducible refine (pick_calls _ _ _ (by omega)).mono ?_
            rintro e w' ⟨rfl, rfl⟩
            obtain ⟨q, hq, hqn⟩ := pick_nat (wrap64 (tn + (c : Int) % 7)) l.length (by omega)
            rw [hq]
            clear hq
            obtain ⟨b1, o1, rfl, hc1⟩ := HKK.out q wr (by omega) HT.out.below
            have i2 : (q : Int) < ks.length := by omega
            obtain ⟨u, hu⟩ : ∃ u, kf q = u := ⟨_, rfl⟩
            rw [hu] at hc1
            go_wp2_with fail
            have hPb := HPB.out
            have hids := tab_ids hPb (by omega)
            have hml : Mb.length ≤ 1000 := by have := hPb.length_eq; rw [tab_length] at this; omega
            refine (set_calls (W.heap.size + 1) Mb Fb ⟨q, u⟩ _ (HT.out.b) hids (by unfold i64ok; constructor <;> simp <;> omega) hml).mono ?_
            rintro e w2 ⟨rfl, M2, F2, hA1, hp1, hc1, hg1⟩
            have hp2 : M2.Perm (tab l.length (fset g q u)) := hp1.trans (tab_set hPb (by omega) (by omega))
            have HT2 := hide (HT.out.setB hA1 hc1 hg1)
            have HP2 := hide hp2
            clear hids hml hA1 hp1 hp2 hc1 hg1
            clear hc1 hu
            go_wp2
            go_roundw
            case rel => exact ⟨c + 1, M2, F2, fset g q u, by omega, by go_num, HT2.out, HP2.out⟩
            case measure => simp [intOf]; omega
          · have hcn : ¬ ((c : Int) < l.length) := by omega
            clear hlt
            go_wp2
            go_loopw [12] (fun i wr => ∃ (c : Nat) (Mb : List Ld) (Fb : List Nat) (g : Nat → Int), c ≤ l.length ∧ i = .int .i64 ((c : Int) - 1) ∧ Two W wr Ma Mb Fa Fb ∧ Mb.Perm (tab l.length g) ∧ ∀ j, c ≤ j → j < l.length → g j = kf j) (fun i _ => (intOf i + 1).toNat)
            case atStart => exact ⟨l.length, Mb, Fb, g, Nat.le_refl _, rfl, HT.out, HPB.out, fun j h1 h2 => absurd h1 (by omega)⟩
            case round =>
              clear hcn HT HPB
              obtain ⟨d, Mb, Fb, g, hd, rfl, hT, hPb, hg⟩ := hrel
              have HT := hide hT
              have HPB := hide hPb
              have HG := hide hg
              clear hT hPb hg
              cases d with
              | zero =>
                have i1 : ¬ ((0 : Int) ≤ ((0 : Nat) : Int) - 1) := by omega
                have hPa : Ma.Perm (tab l.length kf) := by have := HPA.out; rw [HE.out] at this; exact this
                have hPb2 : Mb.Perm (tab l.length kf) := by
                  have := HPB.out
                  rw [tab_congr (f := g) (g := kf) (fun j hj => HG.out j (Nat.zero_le _) hj)] at this
                  exact this
                have hla : Ma.length = l.length := by rw [hPa.length_eq, tab_length]
                have hlb : Mb.length = l.length := by rw [hPb2.length_eq, tab_length]
                have hss := sortLd_perm_eq (hPa.trans hPb2.symm)
                have HLA := hide hla
                have HLB := hide hlb
                have HSS := hide hss
                clear hPa hPb2 hla hlb hss
                go_wp2_with fail
                refine (hall_calls W.heap.size Ma Fa _ HT.out.a (by rw [HLA.out]; omega)).mono ?_
                intro e w2 ho2
                obtain ⟨A2, n2, cc2, rfl, ln2, _, r2, _, b2⟩ := ho2.view
                have HT2 := hide (HT.out.later b2)
                have R2 := hide r2
                have en2 : n2 = l.length := by rw [← ln2, List.length_map, sortLd_length, HLA.out]
                clear ho2 b2 r2 ln2
                subst en2
                go_wp2_with fail
                refine (hall_calls (W.heap.size + 1) Mb Fb _ HT2.out.b (by rw [HLB.out]; omega)).mono ?_
                intro e w3 ho3
                obtain ⟨A3, n3, cc3, rfl, ln3, _, r3, _, b3⟩ := ho3.view
                have HT3 := hide (HT2.out.later b3)
                have R3 := hide r3
                have R23 := hide ((R2.out.below b3).more b3.size)
                have en3 : n3 = l.length := by rw [← ln3, List.length_map, sortLd_length, HLB.out]
                clear ho3 b3 r3 ln3
                subst en3
                go_wp2_with fail
                refine (sameInts_yes ((sortLd Ma).map Ld.id) l.length A2 A3 cc2 cc3 w3 (by rw [List.length_map, sortLd_length, HLA.out]) R23.out (by rw [HSS.out]; exact R3.out) (by omega)).mono ?_
                rintro e w4 ⟨rfl, q4, hw4⟩
                have HT4 := hide (HT3.out.later (w1 := w4) (by rw [hw4]; exact below_drewN (Below.refl _ _) _))
                clear hw4
                go_wp2_with fail
                refine (hlen_calls W.heap.size Ma Fa _ HT4.out.a).mono ?_
                rintro e w5 ⟨rfl, rfl⟩
                rw [HLA.out]
                go_wp2_with fail
                refine (hlen_calls (W.heap.size + 1) Mb Fb _ HT4.out.b).mono ?_
                rintro e w5 ⟨rfl, rfl⟩
                rw [HLB.out]
                go_wp2_with fail
                refine (awake09_calls _).mono ?_
                rintro e w6 ⟨rfl, hb6⟩
                have B6 := HT4.out.below.trans (hb6.mono HT4.out.below.size)
                go_wp2
                go_ret
                exact ⟨rfl, B6⟩
              | succ q =>
                have i1 : (0 : Int) ≤ ((q + 1 : Nat) : Int) - 1 := by omega
                have i3 : ((q + 1 : Nat) : Int) - 1 = q := by omega
                rw [i3]
                obtain ⟨b1, o1, rfl, hc1⟩ := HKK.out q wr (by omega) HT.out.below
                have i2 : (q : Int) < ks.length := by omega
                obtain ⟨u, hu⟩ : ∃ u, kf q = u := ⟨_, rfl⟩
                rw [hu] at hc1
                have HU := hide hu
                clear hu i3 i1
                go_wp2_with fail
                have hPb := HPB.out
                have hids := tab_ids hPb (by omega)
                have hml : Mb.length ≤ 1000 := by have := hPb.length_eq; rw [tab_length] at this; omega
                refine (set_calls (W.heap.size + 1) Mb Fb ⟨q, u⟩ _ (HT.out.b) hids (by unfold i64ok; constructor <;> simp <;> omega) hml).mono ?_
                rintro e w2 ⟨rfl, M2, F2, hA1, hp1, hc1, hg1⟩
                have hp2 : M2.Perm (tab l.length (fset g q u)) := hp1.trans (tab_set hPb (by omega) (by omega))
                have HT2 := hide (HT.out.setB hA1 hc1 hg1)
                have HP2 := hide hp2
                clear hids hml hA1 hp1 hp2 hc1 hg1
                clear hc1
                go_wp2
                go_roundw
                case rel =>
                  refine ⟨q, M2, F2, fset g q u, by omega, by go_num, HT2.out, HP2.out, fun j h1 h2 => ?_⟩
                  unfold fset
                  by_cases e : j = q
                  · rw [if_pos e, e, HU.out]
                  · rw [if_neg e]; exact HG.out j (by omega) h2
                case measure => simp [intOf]
  · by_cases d1 : (60 : Int) < l.length
    · have e1 : decide ((60 : Int) < l.length) = true := decide_eq_true d1
      go_enter Try.func11, Try.ntmps11
      go_wp2_with (go_at_call 27; with_reducible refine (awake09_calls _).mono ?_; rintro e w1 ⟨rfl, hb1⟩)
      go_ret
      exact ⟨rfl, hb1⟩
    · by_cases d2 : ks.length < l.length
      · have e1 : decide ((60 : Int) < l.length) = false := decide_eq_false d1
        have e2 : decide (ks.length < l.length) = true := decide_eq_true d2
        go_enter Try.func11, Try.ntmps11
        go_wp2_with (go_at_call 27; with_reducible refine (awake09_calls _).mono ?_; rintro e w1 ⟨rfl, hb1⟩)
        go_ret
        exact ⟨rfl, hb1⟩
      · have e1 : decide ((60 : Int) < l.length) = false := decide_eq_false d1
        have e2 : decide (ks.length < l.length) = false := decide_eq_false d2
        have e3 : decide ((100 : Int) < ks.length) = true := decide_eq_true (by omega)
        go_enter Try.func11, Try.ntmps11
        go_wp2_with (go_at_call 27; with_reducible refine (awake09_calls _).mono ?_; rintro e w1 ⟨rfl, hb1⟩)
        go_ret
        exact ⟨rfl, hb1⟩
end Go.Proofs.Ytjdgkdaebkflpaa
