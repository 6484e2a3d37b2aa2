/- The law HeapPlays: whatever is set and dropped, each answer, and all names, are the document's. -/
import Derived.Test.YtjdgkdaebkflpaaRef09
import Derived.Test.YtjdgkdaebkflpaaLaw09b
import Derived.Deep.CutRange
import Derived.Deep.CutBlock
namespace Go.Proofs.Ytjdgkdaebkflpaa
open Go.ChangeShapes Go.WideShapes Go.ChangeAt Go.RowKit Go.Proofs Go.Joins Go.Maps Go.Deep
set_option linter.unusedVariables false
set_option linter.unusedSimpArgs false

theorem HeapAt.nodup {w : World} {p : Nat} {L : List Ld} {F : List Nat} (h : HeapAt w p L F) : (L.map Ld.id).Nodup := by
  rcases h with ⟨_, rfl, _⟩ | ⟨A, cap, bm, f, _, hf, _, _⟩
  · simp
  · exact hf.1
theorem outL_perm {L M : List Ld} (k : Int) (h : L.Perm M) : (outL L k).Perm (outL M k) := h.filter _
theorem outL_sorted {L : List Ld} (k : Int) (h : L.Pairwise fun a b => (!ldLt b a) = true) : (outL L k).Pairwise fun a b => (!ldLt b a) = true := h.sublist List.filter_sublist
theorem sort_out {M M' : List Ld} {k : Int} (h : M'.Perm (outL M k)) : outL (sortLd M) k = sortLd M' :=
  (sortLd_of (h.trans (outL_perm k (sortLd_perm M).symm)) (outL_sorted k (sortLd_sorted M))).symm
theorem sort_put {M M' R : List Ld} {x : Ld} (h : M'.Perm (setL M x)) (hR : PutX (outL (sortLd M) x.id) x R) : R = sortLd M' := by
  obtain ⟨a, ha, rfl, h1, h2⟩ := hR
  have hs := outL_sorted x.id (sortLd_sorted M)
  obtain ⟨P, hP⟩ : ∃ P, outL (sortLd M) x.id = P := ⟨_, rfl⟩
  have hp : (outL M x.id).Perm P := by rw [← hP]; exact outL_perm _ (sortLd_perm M).symm
  rw [hP] at ha h1 h2 hs ⊢
  refine (sortLd_of ?_ ?_).symm
  · refine h.trans ((hp.append_right [x]).trans ?_)
    refine (List.perm_append_singleton x P).trans ?_
    have := List.perm_middle (a := x) (l₁ := P.take a) (l₂ := P.drop a)
    rw [List.take_append_drop] at this
    exact this.symm
  · have hs2 := hs
    rw [← List.take_append_drop a P] at hs2
    obtain ⟨s1, s2, s3⟩ := List.pairwise_append.1 hs2
    have hx : ∀ y ∈ P.drop a, (!ldLt y x) = true := by
      by_cases hl : a < P.length
      · have hd := List.drop_eq_getElem_cons hl
        have hf := h2 hl
        rw [gt_get hl] at hf
        rw [hd] at s2 ⊢
        rw [List.pairwise_cons] at s2
        intro y hy
        rcases List.mem_cons.1 hy with rfl | hy
        · rw [ldLt_iff] at hf
          simp only [Bool.not_eq_true', ldLt_no]
          omega
        · have := s2.1 y hy
          simp only [Bool.not_eq_true', ldLt_no] at this ⊢
          rw [ldLt_iff] at hf
          omega
      · rw [List.drop_of_length_le (by omega)]
        intro y hy; cases hy
    refine List.pairwise_append.2 ⟨s1, List.pairwise_cons.2 ⟨hx, s2⟩, fun y hy z hz => ?_⟩
    rcases List.mem_cons.1 hz with rfl | hz
    · rw [h1 y hy]; rfl
    · exact s3 y hy z hz
theorem sort_least {M M' : List Ld} (hl : 0 < M.length) (ho : HeapOk M) (hn : (M.map Ld.id).Nodup) (h : M'.Perm (outL M (gt M 0).id)) : (sortLd M).drop 1 = sortLd M' ∧ (sortLd M)[0]? = some (gt M 0) := by
  have hp : M.Perm ((sortLd M).drop 0) := by rw [List.drop_zero]; exact (sortLd_perm M).symm
  have hjs : 0 < (sortLd M).length := by rw [sortLd_length]; exact hl
  have hd : (sortLd M).drop 0 = (sortLd M)[0] :: (sortLd M).drop (0 + 1) := List.drop_eq_getElem_cons hjs
  have hs := sortLd_sorted M
  rw [← List.drop_zero (l := sortLd M), hd, List.pairwise_cons] at hs
  have hg : gt M 0 = (sortLd M)[0] := gt0_of ho ((sortLd_perm M).subset (List.getElem_mem hjs)) (fun y hy => by
    have := hp.subset hy
    rw [hd] at this
    rcases List.mem_cons.1 this with e | h5
    · rw [e, ldLt_no]; omega
    · simpa using hs.1 y h5)
  have h1 := perm_out hl hn
  have h2 := h1.symm.trans hp
  rw [hd, ← hg] at h2
  exact ⟨(sortLd_of (h.trans h2.cons_inv) hs.2).symm, by rw [List.getElem?_eq_getElem hjs, hg]⟩
/-- the heap, and the document's list beside it -/
structure Play (W wr : World) (M : List Ld) (F : List Nat) (A : Option Addr) (n : Nat) : Prop where
  h : HeapAt wr W.heap.size M F
  la : ∀ z ∈ F, W.heap.size ≤ z
  x : Reads wr wr.heap.size 2 A n (ldCells (sortLd M))
  apart : ∀ g, A.map Addr.block = some g → g ∉ F
  ids : ∀ y ∈ M, i64ok y.id
  len : M.length = n
  below : Below W.heap.size W wr
theorem Play.later {W wr w1 : World} {M : List Ld} {F : List Nat} {A : Option Addr} {n : Nat} (h : Play W wr M F A n) (hb : Below wr.heap.size wr w1) : Play W w1 M F A n :=
  ⟨h.h.below hb, h.la, (h.x.below hb).more hb.size, h.apart, h.ids, h.len, h.below.trans (hb.mono h.below.size)⟩
theorem setL_le (L : List Ld) (x : Ld) : (setL L x).length ≤ L.length + 1 := by
  unfold setL
  rw [List.length_append]
  have := List.length_filter_le (fun y => y.id != x.id) L
  simp only [List.length_singleton]
  omega
theorem outL_le (L : List Ld) (k : Int) : (outL L k).length ≤ L.length := List.length_filter_le _ _
theorem outL_none {L : List Ld} {k : Int} (h : ∀ y ∈ L, y.id ≠ k) : outL L k = L := List.filter_eq_self.2 fun y hy => by simpa using h y hy
theorem AtX.some {M : List Ld} {k z : Int} {i : Nat} (h : AtX (sortLd M) k z) (hi : i < M.length) (hk : (gt M i).id = k) : ∃ j : Nat, z = j ∧ j < M.length ∧ (gt (sortLd M) j).id = k := by
  rcases h with ⟨_, h⟩ | ⟨j, hj, e, h⟩
  · exact absurd hk (h _ ((sortLd_perm M).symm.subset (gt_mem hi)))
  · exact ⟨j, e, by rw [sortLd_length] at hj; exact hj, h⟩
theorem AtX.none {M : List Ld} {k z : Int} (h : AtX (sortLd M) k z) (hn : ∀ y ∈ M, y.id ≠ k) : z = -1 := by
  rcases h with ⟨e, _⟩ | ⟨j, hj, e, h⟩
  · exact e
  · exact absurd h (hn _ ((sortLd_perm M).subset (gt_mem hj)))
theorem has_or (M : List Ld) (k : Int) : (∃ i, i < M.length ∧ (gt M i).id = k) ∨ ∀ y ∈ M, y.id ≠ k := by
  by_cases h : ∃ i, i < M.length ∧ (gt M i).id = k
  · exact Or.inl h
  · refine Or.inr fun y hy e => h ?_
    obtain ⟨i, hi, rfl⟩ := List.mem_iff_getElem.1 hy
    exact ⟨i, hi, by rw [gt_get hi]; exact e⟩
theorem Reads.chg {w w' : World} {size n : Nat} {A : Option Addr} {xs : List Value} {L : List Nat} (h : Reads w w.heap.size size A n xs) (hc : Chg L w w') (hn : ∀ g, A.map Addr.block = some g → g ∉ L) : Reads w' w'.heap.size size A n xs := by
  refine ⟨h.1, fun h0 => ?_⟩
  obtain ⟨b, o, rfl, hb, hcell⟩ := h.2 h0
  exact ⟨b, o, rfl, Nat.lt_of_lt_of_le hb hc.size, fun j u hu => (hc.cell (p := ⟨b, o + j, none⟩) hb (hn b rfl)).trans (hcell j u hu)⟩
/-- the heap has turned; the list is a new one -/
theorem Play.turn {W w0 w1 w2 : World} {M M1 : List Ld} {F F1 : List Nat} {A : Option Addr} {n m : Nat} {v : Value} (h : Play W w0 M F A n) (h1 : HeapAt w1 W.heap.size M1 F1) (hc : Chg F w0 w1) (hg : ∀ z ∈ F1, z ∈ F ∨ w0.heap.size ≤ z)
    (hids : ∀ y ∈ M1, i64ok y.id) (hE : EsInv w1 w2 (sortLd M1) m v) : ∃ A' c', v = .slice A' m c' ∧ m ≤ c' ∧ M1.length = m ∧ Play W w2 M1 F1 A' m := by
  have hE2 := hE
  obtain ⟨A', c', rfl, hl, hr, hf, hb⟩ := hE.reads
  obtain ⟨_, _, e0, _, ho, _⟩ := hE2
  cases e0
  obtain ⟨_, _, e0, hmc, _⟩ := own_view ho
  cases e0
  have hbe : Below W.heap.size W w1 := Chg.onto h.below h.below.size hc h.la
  have hl1 : M1.length = m := by rw [← hl, sortLd_length]
  exact ⟨A', c', rfl, hmc, hl1, h1.below hb, fun z hz => by
    rcases hg z hz with h2 | h2
    · exact h.la z h2
    · exact Nat.le_trans h.below.size h2, hr, fun g hg2 hz => by have := h1.flt g hz; have := hf g hg2; omega, hids, hl1, hbe.trans (hb.mono hbe.size)⟩
theorem Play.tail {W w1 w2 : World} {M M1 : List Ld} {F : List Nat} {b o o' n : Nat} (h : Play W w1 M F (some ⟨b, o, none⟩) n) (hn : 0 < n) (h1 : HeapAt w2 W.heap.size M1 F) (hp : M1.Perm (outL M (gt M 0).id)) (hc : Chg F w1 w2)
    (ho : o' = o + 2 ∨ n = 1) : Play W w2 M1 F (some ⟨b, o', none⟩) (n - 1) := by
  obtain ⟨_, _, _, _, hok⟩ := h.h.c0
  have hl : 0 < M.length := by rw [h.len]; exact hn
  obtain ⟨hs, _⟩ := sort_least hl hok h.h.nodup hp
  have hl1 : M1.length = n - 1 := by
    have e := congrArg List.length hs
    rw [List.length_drop, sortLd_length, sortLd_length, h.len] at e
    exact e.symm
  refine ⟨h1, h.la, ⟨by rw [ldCells_length, sortLd_length, hl1], fun h0 => ?_⟩, h.apart, fun y hy => h.ids y (List.mem_filter.1 (hp.subset hy)).1, hl1, Chg.onto h.below h.below.size hc h.la⟩
  have ho2 : o' = o + 2 := by rcases ho with h3 | h3 <;> omega
  subst ho2
  obtain ⟨b', o2, e, hb, hcell⟩ := (h.x.chg hc h.apart).at_ hn
  injection e with e
  injection e with e1 e2
  subst e1 e2
  refine ⟨b, o + 2, rfl, hb, fun j u hu => ?_⟩
  rw [Nat.add_assoc]
  refine hcell (2 + j) u ?_
  rw [← hs] at hu
  have hd : ldCells ((sortLd M).drop 1) = (ldCells (sortLd M)).drop 2 := by
    cases hq : sortLd M with
    | nil => rfl
    | cons a t => rfl
  rw [hd, List.getElem?_drop] at hu
  exact hu
theorem Play.start (W : World) : Play W (W.alloc (.cells [Value.slice none 0 0, .map none].toArray 55)) [] [W.heap.size] none 0 :=
  ⟨Or.inl ⟨Blk.new rfl, rfl, rfl⟩, by simp, ⟨by simp [sortLd, ldCells], fun h => absurd h (by omega)⟩, by simp, by simp, rfl, (Below.refl _ _).alloc (Nat.le_refl _) _⟩
theorem Try.cellsAct : Try.prog.cellsOf 73 = 3 := by kernel_rfl
set_option maxHeartbeats 8000000 in
set_option maxRecDepth 100000 in
/-- THE WALK of HeapPlays: whatever comes in, it answers true, and nothing that was there turns. -/
theorem heapPlays_walk {H : Type} {enc : TypeId × Value → H} (W : World) (base : Nat) (v0 : Value) (d0 : DataW H) (p0 : List MemPlace)
    (ok0 : Value.okWide Try.prog W .any base 70 v0) (h0 : DataW.Trod enc Try.prog W 0 (fun _ => true) true 70 v0 d0 p0) :
    Calls Try.prog 12 #[v0] W fun e w' => e = .returned (.bool true) ∧ Below W.heap.size W w' := by
  obtain ⟨A0, N, c0, g, rfl, hN, hcm, hg, hr⟩ := open_rows 3 Try.underlying70 Try.underlying73 rfl (by kernel_rfl) Try.cellsAct (by decide) (by
    intro j f hf
    match j, hf with
    | 0, hf => cases hf; exact Try.underlying3
    | 1, hf => cases hf; exact Try.underlying3
    | 2, hf => cases hf; exact Try.underlying3) ok0 h0
  clear ok0 h0
  unfold maxLen at hcm
  by_cases n0 : N ≤ 100
  · have HG := hide hg
    have HR := hide hr
    clear hg hr
    go_enter Try.func12, Try.ntmps12
    go_wp2
    have HP0 := hide (Play.start W)
    go_loopw [2, 4, 5, 6, 7, 8, 9, 10, 11, 12, 13, 14, 15] (fun r x i _ _ _ _ _ _ _ _ _ _ wr => ∃ (k n c : Nat) (M : List Ld) (F : List Nat) (A : Option Addr), k ≤ N ∧ n ≤ k ∧ n ≤ c ∧ i = .int .i64 k ∧ x = .slice A n c ∧ Play W wr M F A n) (fun _ _ i _ _ _ _ _ _ _ _ _ _ _ => N - (intOf i).toNat)
    case atStart => exact ⟨0, 0, 0, [], _, none, by omega, by omega, by omega, rfl, rfl, HP0.out⟩
    case round =>
      obtain ⟨k, n, c, M, F, A, hk, hnk, hnc, rfl, rfl, hP⟩ := hrel
      have HP := hide hP
      clear hP
      by_cases hlt : k < N
      · obtain ⟨b, o, rfl, hbB, hcell⟩ := HR.out (by omega)
        have g0 := (HP.out.below.cell (p := ⟨b, o + (k * 3 + 0), none⟩) hbB).trans (hcell k 0 hlt (by omega))
        have g1 := (HP.out.below.cell (p := ⟨b, o + (k * 3 + 1), none⟩) hbB).trans (hcell k 1 hlt (by omega))
        have g2 := (HP.out.below.cell (p := ⟨b, o + (k * 3 + 2), none⟩) hbB).trans (hcell k 2 hlt (by omega))
        have k1 := HG.out k 1 hlt (by omega)
        rw [Nat.add_zero] at g0
        rw [← Nat.add_assoc] at g1 g2
        obtain ⟨dz, hdz⟩ : ∃ z, g k 0 = z := ⟨_, rfl⟩
        obtain ⟨nm, hnm⟩ : ∃ z, g k 1 = z := ⟨_, rfl⟩
        obtain ⟨ky, hky⟩ : ∃ z, g k 2 = z := ⟨_, rfl⟩
        rw [hdz] at g0
        rw [hnm] at g1 k1
        rw [hky] at g2
        have i1 : (k : Int) < N := by omega
        clear hdz hnm hky hcell
        go_upto_block 2 with fail
        have HB := hide (Blk.new (w := wr) (cs := [.int .i64 dz, .int .i64 nm, .int .i64 ky]) (t := 73) rfl)
        have HP1 := hide (HP.out.later ((Below.refl _ _).alloc (Nat.le_refl _) (.cells [.int .i64 dz, .int .i64 nm, .int .i64 ky].toArray 73)))
        have hbq : wr.heap.size ∉ F := fun h => by have := HP.out.h.flt _ h; omega
        clear HP
        go_cut [4, 7, 8, 9] from 20 to 152 (fun x _ _ _ wx => ∃ (M : List Ld) (F : List Nat) (A : Option Addr) (n c : Nat), x = .slice A n c ∧ n ≤ c ∧ n ≤ k + 1 ∧ Play W wx M F A n ∧ Blk wx wr.heap.size 73 [.int .i64 dz, .int .i64 nm, .int .i64 ky])
        case first =>
          obtain ⟨w0, hw0⟩ : ∃ w0, wr.alloc (.cells [.int .i64 dz, .int .i64 nm, .int .i64 ky].toArray 73) = w0 := ⟨_, rfl⟩
          have HW0 := hide hw0
          have HBB := HB.out
          rw [hw0] at HBB
          have HPP := HP1.out
          rw [hw0] at HPP
          have hsz : wr.heap.size < w0.heap.size := HBB.lt
          rw [show wr.alloc (.cells #[.int .i64 dz, .int .i64 nm, .int .i64 ky] 73) = w0 from hw0]
          have b1 := HBB.rule 1 _ rfl
          have b2 := HBB.rule 2 _ rfl
          have b10 : w0.cell? ⟨wr.heap.size, 1, none⟩ = some (.int .i64 nm) := HBB.cell 1
          have b20 : w0.cell? ⟨wr.heap.size, 2, none⟩ = some (.int .i64 ky) := HBB.cell 2
          have HB1 := hide HBB
          have HP2 := hide HPP
          have hxn : i64ok nm := k1
          have hMn : M.length = n := HPP.len
          have HMN := hide hMn
          have hMl : M.length ≤ 1000 := by omega
          have hsl : (sortLd M).length = n := by rw [sortLd_length]; exact hMn
          have HSL := hide hsl
          have HML := hide hMl
          clear HBB HPP HB HP1 hw0 hMn hMl hsl
          by_cases d0 : dz = 0
          · have t0 : (dz == 0) = true := by simp [d0]
            clear d0
            go_wp2_with fail
            refine (set_calls W.heap.size M F ⟨nm, ky⟩ w0 HP2.out.h HP2.out.ids hxn HML.out).mono ?_
            rintro e w1 ⟨rfl, M1, F1, hA1, hp1, hc1, hg1⟩
            have B1 := HB1.out.chg hc1 hbq
            have c11 : w1.cell? ⟨wr.heap.size, 1, none⟩ = some (.int .i64 nm) := B1.cell 1
            have c12 : w1.cell? ⟨wr.heap.size, 2, none⟩ = some (.int .i64 ky) := B1.cell 2
            have hids1 : ∀ y ∈ M1, i64ok y.id := fun y hy => by
              rcases mem_setL.1 (hp1.subset hy) with ⟨h, _⟩ | rfl
              · exact HP2.out.ids y h
              · exact hxn
            have hm1 : M1.length ≤ M.length + 1 := by
              rw [hp1.length_eq]
              exact setL_le _ _
            have hm2 : M1.length ≤ n + 1 := by rw [HMN.out] at hm1; exact hm1
            have X1 := hide (And.intro hA1 (And.intro hc1 (And.intro hg1 (And.intro hids1 (And.intro hp1 B1)))))
            have HM2 := hide hm2
            clear hA1 hc1 hg1 hids1 hp1 B1 hm1 hm2
            go_wp2_with fail
            refine (rput_calls A n c (sortLd M) ⟨nm, ky⟩ w1 (HP2.out.x.chg X1.out.2.1 HP2.out.apart) HSL.out (by omega)).mono ?_
            rintro e w2 ⟨R, m, v, rfl, hR, hE⟩
            have hRs := sort_put X1.out.2.2.2.2.1 hR
            rw [hRs] at hE
            have B2 := X1.out.2.2.2.2.2.below hE.reads.choose_spec.choose_spec.2.2.2.2
            obtain ⟨A', c', rfl, hmc, hml, hP3⟩ := HP2.out.turn X1.out.1 X1.out.2.1 X1.out.2.2.1 X1.out.2.2.2.1 hE
            have hmn : m ≤ n + 1 := by rw [← hml]; exact HM2.out
            have X3 := hide (And.intro hP3 B2)
            clear hE hR hRs hP3 B2 hml
            go_wp2
            go_meet
            case rel => exact ⟨M1, F1, A', m, c', rfl, hmc, by omega, X3.out.1, X3.out.2⟩
          · have t0 : (dz == 0) = false := by simp [d0]
            by_cases d1 : dz = 1
            · have t1 : (dz == 1) = true := by simp [d1]
              clear d0 d1
              rcases has_or M nm with ⟨i, hi, hnm⟩ | hno
              · have DC := drop_calls W.heap.size M F i w0.drew (HP2.out.h.below (Below.refl _ _).drew) HP2.out.ids hi HML.out
                rw [hnm] at DC
                have HDC := hide DC
                have HAX := hide (fun z (hz : AtX (sortLd M) nm z) => AtX.some hz hi hnm)
                clear DC hi hnm
                go_wp2_with fail
                refine region_lexg (fun w' => w'.cell? ⟨wr.heap.size, 1, none⟩ = some (.int .i64 nm)) [] 0 [(2, 0), (0, 1), (2, 3), (2, 4), (0, 5), (1, 2), (1, 6), (2, 7), (2, 8)] #[true, true, true, true, true, true, true, true, true] (by kernel_rfl) (by kernel_rfl) (by decide) (by kernel_rfl) (by kernel_rfl) (fun _ _ _ _ _ h => h) (by (first | exact b10 | exact HS1.out)) (fun hS0 => ?_)
                simp only [List.map_cons, List.map_nil, List.getElem?_toArray, List.getElem?_cons_succ, List.getElem?_cons_zero]
                (apply lexg_pure (by rfl); (focus (intro w; go_simp; (try with_reducible rfl); done)); simp only [Act.put, List.setIfInBounds_toArray, List.set_cons_zero, List.set_cons_succ])
                (apply lexg_take (by rfl); (focus (intro w hw; (try dsimp only at hw); go_simp; (try with_reducible rfl); done)); simp only [Act.put, List.setIfInBounds_toArray, List.set_cons_zero, List.set_cons_succ])
                (apply lexg_pure (by rfl); (focus (intro w; go_simp; (try with_reducible rfl); done)); simp only [Act.put, List.setIfInBounds_toArray, List.set_cons_zero, List.set_cons_succ])
                (apply lexg_pure (by rfl); (focus (intro w; go_simp; (try with_reducible rfl); done)); simp only [Act.put, List.setIfInBounds_toArray, List.set_cons_zero, List.set_cons_succ])
                (apply lexg_take (by rfl); (focus (intro w hw; (try dsimp only at hw); go_simp; (try with_reducible rfl); done)); simp only [Act.put, List.setIfInBounds_toArray, List.set_cons_zero, List.set_cons_succ])
                (refine lexg_eff (by rfl) ?_; (go_simp; go_at_call 30; (with_reducible refine (HDC.out).mono ?_); rintro e w1 ⟨rfl, M1, hA1, hp1, hc0⟩; have hc1 := (Chg.refl F w0).drew.same hc0; clear hc0; have HC1 := hide hc1; have HP1 := hide hp1; have HA1 := hide hA1; have HS1 := hide (show w1.cell? ⟨wr.heap.size, 1, none⟩ = some (.int .i64 nm) from (HB1.out.chg hc1 hbq).cell 1); clear hA1 hp1 hc1); simp only [Act.put, List.setIfInBounds_toArray, List.set_cons_zero, List.set_cons_succ]; refine lexg_both (by (first | exact b10 | exact HS1.out)) (fun hS1 => ?_))
                (refine lexg_eff (by rfl) ?_; (go_simp; go_at_call 40; (with_reducible refine (rat_calls A n c (sortLd M) nm _ (HP2.out.x.chg HC1.out HP2.out.apart) HSL.out (by omega)).mono ?_); rintro e w2 ⟨⟨z, rfl, hz⟩, rfl⟩; obtain ⟨j, rfl, hj, hjn⟩ := HAX.out z hz; clear hz hjn); simp only [Act.put, List.setIfInBounds_toArray, List.set_cons_zero, List.set_cons_succ]; refine lexg_both (by (first | exact b10 | exact HS1.out)) (fun hS1 => ?_))
                (apply lexg_pure (by rfl); (focus (intro w; go_simp; (try with_reducible rfl); done)); simp only [Act.put, List.setIfInBounds_toArray, List.set_cons_zero, List.set_cons_succ])
                (apply lexg_pure (by rfl); (focus (intro w; go_simp; (try with_reducible rfl); done)); simp only [Act.put, List.setIfInBounds_toArray, List.set_cons_zero, List.set_cons_succ])
                refine lexg_nil (fun _ => wpAnyG_done (by kernel_rfl) ?_ _)
                have hids1 : ∀ y ∈ M1, i64ok y.id := fun y hy => HP2.out.ids y (List.mem_filter.1 (HP1.out.subset hy)).1
                have hm1 : M1.length ≤ n := by rw [HP1.out.length_eq, ← HMN.out]; exact outL_le _ _
                have HI1 := hide hids1
                have HM1 := hide hm1
                clear hids1 hm1
                go_wp2_with fail
                refine (rout_calls A n c (sortLd M) nm w1 (HP2.out.x.chg HC1.out HP2.out.apart) HSL.out (by omega)).mono ?_
                rintro e w2 ⟨m, v, rfl, hE⟩
                rw [sort_out HP1.out] at hE
                have B2 := (HB1.out.chg HC1.out hbq).below hE.reads.choose_spec.choose_spec.2.2.2.2
                obtain ⟨A', c', rfl, hmc, hml, hP3⟩ := HP2.out.turn HA1.out HC1.out (fun z hz => Or.inl hz) HI1.out hE
                have hmn : m ≤ n := by rw [← hml]; exact HM1.out
                have X3 := hide (And.intro hP3 B2)
                clear hE hP3 B2 hml
                go_wp2
                go_meet
                case rel => exact ⟨M1, F, A', m, c', rfl, hmc, by omega, X3.out.1, X3.out.2⟩
              · have HDC := hide (drop_no W.heap.size M F nm w0.drew (HP2.out.h.below (Below.refl _ _).drew) hxn hno)
                have HAX := hide (fun z (hz : AtX (sortLd M) nm z) => AtX.none hz hno)
                have HNO := hide hno
                clear hno
                go_wp2_with fail
                refine region_lexg (fun w' => w'.cell? ⟨wr.heap.size, 1, none⟩ = some (.int .i64 nm)) [] 0 [(2, 0), (0, 1), (2, 3), (2, 4), (0, 5), (1, 2), (1, 6), (2, 7), (2, 8)] #[true, true, true, true, true, true, true, true, true] (by kernel_rfl) (by kernel_rfl) (by decide) (by kernel_rfl) (by kernel_rfl) (fun _ _ _ _ _ h => h) (by (exact b10)) (fun hS0 => ?_)
                simp only [List.map_cons, List.map_nil, List.getElem?_toArray, List.getElem?_cons_succ, List.getElem?_cons_zero]
                (apply lexg_pure (by rfl); (focus (intro w; go_simp; (try with_reducible rfl); done)); simp only [Act.put, List.setIfInBounds_toArray, List.set_cons_zero, List.set_cons_succ])
                (apply lexg_take (by rfl); (focus (intro w hw; (try dsimp only at hw); go_simp; (try with_reducible rfl); done)); simp only [Act.put, List.setIfInBounds_toArray, List.set_cons_zero, List.set_cons_succ])
                (apply lexg_pure (by rfl); (focus (intro w; go_simp; (try with_reducible rfl); done)); simp only [Act.put, List.setIfInBounds_toArray, List.set_cons_zero, List.set_cons_succ])
                (apply lexg_pure (by rfl); (focus (intro w; go_simp; (try with_reducible rfl); done)); simp only [Act.put, List.setIfInBounds_toArray, List.set_cons_zero, List.set_cons_succ])
                (apply lexg_take (by rfl); (focus (intro w hw; (try dsimp only at hw); go_simp; (try with_reducible rfl); done)); simp only [Act.put, List.setIfInBounds_toArray, List.set_cons_zero, List.set_cons_succ])
                (refine lexg_eff (by rfl) ?_; (go_simp; go_at_call 30; (with_reducible refine (HDC.out).mono ?_); rintro e w1 ⟨rfl, rfl⟩); simp only [Act.put, List.setIfInBounds_toArray, List.set_cons_zero, List.set_cons_succ]; refine lexg_both (by (exact b10)) (fun hS1 => ?_))
                (refine lexg_eff (by rfl) ?_; (go_simp; go_at_call 40; (with_reducible refine (rat_calls A n c (sortLd M) nm _ (HP2.out.later (Below.refl _ _).drew).x HSL.out (by omega)).mono ?_); rintro e w2 ⟨⟨z, rfl, hz⟩, rfl⟩; have hz1 := HAX.out z hz; clear hz; subst hz1); simp only [Act.put, List.setIfInBounds_toArray, List.set_cons_zero, List.set_cons_succ]; refine lexg_both (by (exact b10)) (fun hS1 => ?_))
                (apply lexg_pure (by rfl); (focus (intro w; go_simp; (try with_reducible rfl); done)); simp only [Act.put, List.setIfInBounds_toArray, List.set_cons_zero, List.set_cons_succ])
                (apply lexg_pure (by rfl); (focus (intro w; go_simp; (try with_reducible rfl); done)); simp only [Act.put, List.setIfInBounds_toArray, List.set_cons_zero, List.set_cons_succ])
                refine lexg_nil (fun _ => wpAnyG_done (by kernel_rfl) ?_ _)
                go_wp2_with fail
                refine (rout_calls A n c (sortLd M) nm w0.drew (HP2.out.later (Below.refl _ _).drew).x HSL.out (by omega)).mono ?_
                rintro e w2 ⟨m, v, rfl, hE⟩
                rw [outL_none (fun y hy => HNO.out y ((sortLd_perm M).subset hy))] at hE
                have B2 := (HB1.out.below (Below.refl w0.heap.size w0).drew).below hE.reads.choose_spec.choose_spec.2.2.2.2
                obtain ⟨A', c', rfl, hmc, hml, hP3⟩ := (HP2.out.later (Below.refl _ _).drew).turn (HP2.out.h.below (Below.refl _ _).drew) (Chg.refl F w0.drew) (fun z hz => Or.inl hz) HP2.out.ids hE
                have hmn : m ≤ n := by rw [← hml, HMN.out]; exact Nat.le_refl _
                have X3 := hide (And.intro hP3 B2)
                clear hE hP3 B2 hml
                go_wp2
                go_meet
                case rel => exact ⟨M, F, A', m, c', rfl, hmc, by omega, X3.out.1, X3.out.2⟩
            · have t1 : (dz == 1) = false := by simp [d1]
              by_cases d2 : dz = 2
              · have t2 : (dz == 2) = true := by simp [d2]
                clear d0 d1 d2
                by_cases hn0 : n = 0
                · have hM0 : M = [] := List.eq_nil_of_length_eq_zero (by rw [HMN.out]; exact hn0)
                  have hh := HP2.out.h
                  rw [hM0] at hh
                  have HM0 := hide hM0
                  clear hM0 hn0
                  go_wp2_with fail
                  refine (hleast_none W.heap.size F w0 hh).mono ?_
                  rintro e w1 ⟨rfl, rfl⟩
                  clear hh
                  go_wp2
                  go_meet
                  case rel => exact ⟨M, F, A, n, c, rfl, hnc, by omega, HP2.out, HB1.out⟩
                · obtain ⟨_, _, _, _, hok⟩ := HP2.out.h.c0
                  have hml : 0 < M.length := by rw [HMN.out]; omega
                  have hp2 := HP2.out
                  obtain ⟨bx, ox, rfl, _⟩ := hp2.x.at_ (by omega)
                  have n1 : (1 : Int) ≤ n := by omega
                  have n2 : (n : Int) ≤ c := by omega
                  have hnt := hn0
                  go_wp2_with fail
                  refine (hleast_some W.heap.size M F w0 hp2.h hml).mono ?_
                  rintro e w1 ⟨rfl, n1', hw1⟩
                  have hb1 : Below w0.heap.size w0 w1 := by rw [hw1]; exact below_drewN (Below.refl _ _) _
                  have hp3 := hp2.later hb1
                  have DC := drop_calls W.heap.size M F 0 w1 hp3.h hp3.ids hml HML.out
                  obtain ⟨y, hy⟩ : ∃ y, gt M 0 = y := ⟨_, rfl⟩
                  rw [hy] at DC ⊢
                  have HY := hide hy
                  have HB9 := hide hb1
                  have HP3 := hide hp3
                  have HOK := hide hok
                  clear hw1 hb1 hp2 hp3 hok hy hnt hml
                  go_wp2_with fail
                  refine (DC).mono ?_
                  rintro e w2 ⟨rfl, M1, hA1, hp1, hc1⟩
                  have X1 := hide (And.intro hA1 (And.intro hp1 hc1))
                  clear hA1 hp1 hc1 DC
                  have HT := hide (fun o' ho => HP3.out.tail (o' := o') (by omega) X1.out.1 (by rw [HY.out]; exact X1.out.2.1) X1.out.2.2 ho)
                  have hB2 := (HB1.out.below HB9.out).chg X1.out.2.2 hbq
                  have HBB2 := hide hB2
                  clear hB2
                  by_cases hc1 : c = 1
                  · go_wp2
                    all_goals go_meet
                    all_goals exact ⟨M1, F, _, n - 1, _, rfl, by omega, by omega, HT.out _ (Or.inr (by omega)), HBB2.out⟩
                  · go_wp2
                    all_goals go_meet
                    all_goals exact ⟨M1, F, _, n - 1, _, rfl, by omega, by omega, HT.out _ (Or.inl rfl), HBB2.out⟩
              · have t2 : (dz == 2) = false := by simp [d2]
                clear d0 d1 d2
                go_wp2
                go_meet
                case rel => exact ⟨M, F, A, n, c, rfl, hnc, by omega, HP2.out, HB1.out⟩
        case rest =>
          obtain ⟨M, F, A, n, c, rfl, hnc, hnk, hP, hB⟩ := hcut
          clear HB HP1 hbq g0 g1 g2
          have hMn : M.length = n := hP.len
          have HMN := hide hMn
          have hxn : i64ok nm := k1
          have hsl : (sortLd M).length = n := by rw [sortLd_length]; exact hMn
          have HSL := hide hsl
          have HPC := hide hP
          have HBC := hide hB
          clear hP hB hMn hsl
          by_cases hn0 : n = 0
          · have hM0 : M = [] := List.eq_nil_of_length_eq_zero (by rw [HMN.out]; exact hn0)
            have t8 : ¬ ((0 : Int) < n) := by omega
            have t9 : ¬ (0 < n) := by omega
            clear hn0
            have hh := HPC.out.h
            rw [hM0] at hh
            have hno : ∀ y ∈ M, y.id ≠ nm := by rw [hM0]; intro y hy; cases hy
            have HNO := hide hno
            clear hM0 hno
            go_wp2_with fail
            refine (hleast_none W.heap.size F wc hh).mono ?_
            rintro e w1 ⟨rfl, rfl⟩
            clear hh
            have HP1 := HPC
            have HB1 := HBC
            have b1 : wc.cell? ⟨wr.heap.size, 1, none⟩ = some (.int .i64 nm) := HB1.out.cell 1
            go_wp2_with fail
            refine (hkey_no W.heap.size M F nm wc HP1.out.h hxn HNO.out).mono ?_
            rintro e w2 ⟨rfl, rfl⟩
            go_wp2_with fail
            with_reducible refine (rat_calls _ _ _ (sortLd M) nm wc HP1.out.x HSL.out (by omega)).mono ?_
            rintro e w2 ⟨⟨z, rfl, hz⟩, rfl⟩
            obtain rfl := AtX.none hz HNO.out
            clear hz b1
            have HP2 := HP1
            go_wp2_with fail
            refine (hlen_calls W.heap.size M F _ HP2.out.h).mono ?_
            rintro e w3 ⟨rfl, rfl⟩
            rw [HMN.out]
            go_wp2_with fail
            refine (hall_calls W.heap.size M F _ HP2.out.h (by rw [HMN.out]; omega)).mono ?_
            intro e w3 ho3
            obtain ⟨A3, n3, cc3, rfl, ln3, _, r3, _, b3⟩ := ho3.view
            have en3 : n3 = n := by rw [← ln3, List.length_map, HSL.out]
            subst en3
            have HP3 := hide (HP2.out.later b3)
            have R3 := hide r3
            have B3 := hide b3
            clear ho3 b3 r3 ln3
            go_wp2_with fail
            refine (rnames_calls _ _ _ (sortLd M) w3 HP3.out.x HSL.out (by omega)).mono ?_
            intro e w4 ho4
            obtain ⟨A4, n4, cc4, rfl, ln4, _, r4, _, b4⟩ := ho4.view
            have en4 : n4 = n3 := by rw [← ln4, List.length_map, HSL.out]
            subst en4
            have HP4 := hide (HP3.out.later b4)
            have R4 := hide r4
            have R34 := hide ((R3.out.below b4).more b4.size)
            clear ho4 b4 r4 ln4
            go_wp2_with fail
            refine (sameInts_yes ((sortLd M).map Ld.id) n4 A3 A4 cc3 cc4 w4 (by rw [List.length_map, HSL.out]) R34.out R4.out (by omega)).mono ?_
            rintro e w5 ⟨rfl, q5, hw5⟩
            have HP5 := hide (HP4.out.later (w1 := w5) (by rw [hw5]; exact below_drewN (Below.refl _ _) _))
            clear hw5
            go_wp2
            go_roundw
            case rel => exact ⟨k + 1, n4, c, M, F, _, by omega, hnk, hnc, by go_num, rfl, HP5.out⟩
            case measure => simp [intOf]; omega
          · have n1 : (0 : Int) < n := by omega
            obtain ⟨_, _, _, _, hok⟩ := HPC.out.h.c0
            have hml : 0 < M.length := by rw [HMN.out]; omega
            obtain ⟨bx, ox, rfl, hbx, hcell⟩ := HPC.out.x.at_ (by omega)
            have hl0 := (sort_least hml hok HPC.out.h.nodup (List.Perm.refl _)).2
            have hg0 : gt (sortLd M) 0 = gt M 0 := by unfold gt; rw [List.getD_eq_getElem?_getD, hl0]; rfl
            have HCE := hide (fun (j : Nat) (hj : j < n) (w' : World) (hb : Below wc.heap.size wc w') => show w'.cell? ⟨bx, ox + j * 2, none⟩ = some (.int .i64 (gt (sortLd M) j).id) ∧ w'.cell? ⟨bx, ox + j * 2 + 1, none⟩ = some (.int .i64 (gt (sortLd M) j).n) by
              have hjs : j < (sortLd M).length := by rw [HSL.out]; exact hj
              rw [gt_get hjs]
              exact ⟨(hb.cell (p := ⟨bx, ox + j * 2, none⟩) hbx).trans (hcell _ _ (ldCells_get _ j 0 hjs (by omega))), (hb.cell (p := ⟨bx, ox + j * 2 + 1, none⟩) hbx).trans (hcell _ _ (ldCells_get _ j 1 hjs (by omega)))⟩)
            have HG0 := hide hg0
            clear hcell hl0 hg0 hok
            go_wp2_with fail
            refine (hleast_some W.heap.size M F wc HPC.out.h hml).mono ?_
            rintro e w1 ⟨rfl, q1, hw1⟩
            have hb1 : Below wc.heap.size wc w1 := by rw [hw1]; exact below_drewN (Below.refl _ _) _
            obtain ⟨x00, x01⟩ := HCE.out 0 (by omega) w1 hb1
            rw [HG0.out, Nat.zero_mul, Nat.add_zero] at x00 x01
            have HP1 := hide (HPC.out.later hb1)
            have HB1 := hide (HBC.out.below hb1)
            have HBW := hide hb1
            obtain ⟨y, hy⟩ : ∃ y, gt M 0 = y := ⟨_, rfl⟩
            rw [hy] at x00 x01 ⊢
            clear hw1 hb1 hy
            rcases has_or M nm with ⟨i, hi, hnm⟩ | hno
            · have b1 : w1.cell? ⟨wr.heap.size, 1, none⟩ = some (.int .i64 nm) := HB1.out.cell 1
              have hky := hkey_yes W.heap.size M F i w1 HP1.out.h hi (by rw [hnm]; exact hxn) (by rw [HMN.out]; omega)
              rw [hnm] at hky
              have HIN := hide (And.intro hi hnm)
              have HKY := hide hky
              clear hi hnm hky
              go_wp2_with fail
              refine (HKY.out).mono ?_
              rintro e w2 ⟨rfl, q2, hw2⟩
              have hb2 : Below w1.heap.size w1 w2 := by rw [hw2]; exact below_drewN (Below.refl _ _) _
              have HP2 := hide (HP1.out.later hb2)
              have b2 : w2.cell? ⟨wr.heap.size, 1, none⟩ = some (.int .i64 nm) := (HB1.out.below hb2).cell 1
              have HBW2 := hide (HBW.out.trans (hb2.mono HBW.out.size))
              clear hw2 hb2
              go_wp2_with fail
              with_reducible refine (rat_calls _ _ _ (sortLd M) nm w2 HP2.out.x HSL.out (by omega)).mono ?_
              rintro e w3 ⟨⟨z, rfl, hz⟩, rfl⟩
              obtain ⟨j, rfl, hj, hjn⟩ := hz.some HIN.out.1 HIN.out.2
              have hjn2 : j < n := by rw [← HMN.out]; exact hj
              have hkk : (gt (sortLd M) j).n = (gt M i).n := by
                have h1 := HPC.out.h.nodup
                have h2 : gt (sortLd M) j ∈ M := (sortLd_perm M).subset (gt_mem (by rw [HSL.out]; exact hjn2))
                obtain ⟨i2, hi2, e2⟩ := List.mem_iff_getElem.1 h2
                have e3 : i2 = i := nodup_ids h1 hi2 HIN.out.1 (by rw [gt_get hi2, e2, hjn, HIN.out.2])
                subst e3
                rw [gt_get hi2, e2]
              obtain ⟨x20, x21⟩ := HCE.out j hjn2 w2 HBW2.out
              rw [hkk] at x21
              obtain ⟨kv, hkv⟩ : ∃ kv, (gt M i).n = kv := ⟨_, rfl⟩
              rw [hkv] at x21 ⊢
              have i5 : (j : Int) < n := by omega
              clear hz hjn hj hkk hkv x20 hjn2 b2 b1
              go_wp2_with fail
              refine (hlen_calls W.heap.size M F _ HP2.out.h).mono ?_
              rintro e w3 ⟨rfl, rfl⟩
              rw [HMN.out]
              go_wp2_with fail
              refine (hall_calls W.heap.size M F _ HP2.out.h (by rw [HMN.out]; omega)).mono ?_
              intro e w3 ho3
              obtain ⟨A3, n3, cc3, rfl, ln3, _, r3, _, b3⟩ := ho3.view
              have en3 : n3 = n := by rw [← ln3, List.length_map, HSL.out]
              subst en3
              have HP3 := hide (HP2.out.later b3)
              have R3 := hide r3
              have B3 := hide b3
              clear ho3 b3 r3 ln3
              go_wp2_with fail
              refine (rnames_calls _ _ _ (sortLd M) w3 HP3.out.x HSL.out (by omega)).mono ?_
              intro e w4 ho4
              obtain ⟨A4, n4, cc4, rfl, ln4, _, r4, _, b4⟩ := ho4.view
              have en4 : n4 = n3 := by rw [← ln4, List.length_map, HSL.out]
              subst en4
              have HP4 := hide (HP3.out.later b4)
              have R4 := hide r4
              have R34 := hide ((R3.out.below b4).more b4.size)
              clear ho4 b4 r4 ln4
              go_wp2_with fail
              refine (sameInts_yes ((sortLd M).map Ld.id) n4 A3 A4 cc3 cc4 w4 (by rw [List.length_map, HSL.out]) R34.out R4.out (by omega)).mono ?_
              rintro e w5 ⟨rfl, q5, hw5⟩
              have HP5 := hide (HP4.out.later (w1 := w5) (by rw [hw5]; exact below_drewN (Below.refl _ _) _))
              clear hw5
              go_wp2
              go_roundw
              case rel => exact ⟨k + 1, n4, c, M, F, _, by omega, hnk, hnc, by go_num, rfl, HP5.out⟩
              case measure => simp [intOf]; omega
            · have HNO := hide hno
              clear hno
              have b1 : w1.cell? ⟨wr.heap.size, 1, none⟩ = some (.int .i64 nm) := HB1.out.cell 1
              go_wp2_with fail
              refine (hkey_no W.heap.size M F nm w1 HP1.out.h hxn HNO.out).mono ?_
              rintro e w2 ⟨rfl, rfl⟩
              go_wp2_with fail
              with_reducible refine (rat_calls _ _ _ (sortLd M) nm w1 HP1.out.x HSL.out (by omega)).mono ?_
              rintro e w2 ⟨⟨z, rfl, hz⟩, rfl⟩
              obtain rfl := AtX.none hz HNO.out
              clear hz b1
              have HP2 := HP1
              go_wp2_with fail
              refine (hlen_calls W.heap.size M F _ HP2.out.h).mono ?_
              rintro e w3 ⟨rfl, rfl⟩
              rw [HMN.out]
              go_wp2_with fail
              refine (hall_calls W.heap.size M F _ HP2.out.h (by rw [HMN.out]; omega)).mono ?_
              intro e w3 ho3
              obtain ⟨A3, n3, cc3, rfl, ln3, _, r3, _, b3⟩ := ho3.view
              have en3 : n3 = n := by rw [← ln3, List.length_map, HSL.out]
              subst en3
              have HP3 := hide (HP2.out.later b3)
              have R3 := hide r3
              have B3 := hide b3
              clear ho3 b3 r3 ln3
              go_wp2_with fail
              refine (rnames_calls _ _ _ (sortLd M) w3 HP3.out.x HSL.out (by omega)).mono ?_
              intro e w4 ho4
              obtain ⟨A4, n4, cc4, rfl, ln4, _, r4, _, b4⟩ := ho4.view
              have en4 : n4 = n3 := by rw [← ln4, List.length_map, HSL.out]
              subst en4
              have HP4 := hide (HP3.out.later b4)
              have R4 := hide r4
              have R34 := hide ((R3.out.below b4).more b4.size)
              clear ho4 b4 r4 ln4
              go_wp2_with fail
              refine (sameInts_yes ((sortLd M).map Ld.id) n4 A3 A4 cc3 cc4 w4 (by rw [List.length_map, HSL.out]) R34.out R4.out (by omega)).mono ?_
              rintro e w5 ⟨rfl, q5, hw5⟩
              have HP5 := hide (HP4.out.later (w1 := w5) (by rw [hw5]; exact below_drewN (Below.refl _ _) _))
              clear hw5
              go_wp2
              go_roundw
              case rel => exact ⟨k + 1, n4, c, M, F, _, by omega, hnk, hnc, by go_num, rfl, HP5.out⟩
              case measure => simp [intOf]; omega
      · have i1 : ¬ ((k : Int) < N) := by omega
        have HB := hide HP.out.below
        clear HP
        go_wp2_with fail
        refine (awake09_calls _).mono ?_
        rintro e w2 ⟨rfl, hb2⟩
        have B2 := HB.out.trans (hb2.mono HB.out.size)
        go_wp2
        go_ret
        exact ⟨rfl, B2⟩
  · have d0 : decide ((100 : Int) < N) = true := decide_eq_true (by omega)
    go_enter Try.func12, Try.ntmps12
    go_wp2_with (go_at_call 27; with_reducible refine (awake09_calls _).mono ?_; rintro e w1 ⟨rfl, hb1⟩)
    go_ret
    exact ⟨rfl, hb1⟩
end Go.Proofs.Ytjdgkdaebkflpaa
