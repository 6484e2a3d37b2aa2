/- The law PlaceEven: chunks placed one by one come to all servers alike. -/
import Derived.Test.YtjdgkdaebkflpaaLaw19a
import Derived.Test.YtjdgkdaebkflpaaLaw19b
import Derived.BigRegion
namespace Go.Proofs.Ytjdgkdaebkflpaa
open Go.ChangeShapes Go.WideShapes Go.ChangeAt Go.RowKit Go.Proofs Go.Joins
set_option linter.unusedVariables false

theorem mem_ldOf {cs : List Int} {x : Ld} (h : x ∈ ldOf cs) : ∃ i, ∃ h : i < cs.length, x = ⟨(i : Int), cs[i]⟩ := by
  unfold ldOf at h
  obtain ⟨i, hi, rfl⟩ := List.mem_map.1 h
  have hi' : i < cs.length := by simpa using hi
  exact ⟨i, hi', by simp [hi']⟩
theorem ldOf_mem {cs : List Int} {i : Nat} (h : i < cs.length) : (⟨(i : Int), cs[i]⟩ : Ld) ∈ ldOf cs := by
  unfold ldOf
  exact List.mem_map.2 ⟨i, by simpa using h, by simp [h]⟩
theorem chosen_take (xs : List Ld) (k : Int) : chosen xs k = ((sortLd xs).take k.toNat).map Ld.id := by unfold chosen; rw [List.map_take]
theorem chosen_mem {cs : List Int} {k j : Int} (h : j ∈ chosen (ldOf cs) k) : ∃ i, ∃ hi : i < cs.length, j = i ∧ (⟨(i : Int), cs[i]⟩ : Ld) ∈ (sortLd (ldOf cs)).take k.toNat := by
  rw [chosen_take] at h
  obtain ⟨x, hx, rfl⟩ := List.mem_map.1 h
  obtain ⟨i, hi, rfl⟩ := mem_ldOf ((sortLd_perm _).subset (List.mem_of_mem_take hx))
  exact ⟨i, hi, rfl, hx⟩
theorem chosen_nodup (cs : List Int) (k : Int) : (chosen (ldOf cs) k).Nodup := by
  unfold chosen
  refine List.Nodup.sublist (List.take_sublist _ _) (((sortLd_perm (ldOf cs)).map Ld.id).nodup_iff.2 ?_)
  have e : (ldOf cs).map Ld.id = (List.range cs.length).map fun (i : Nat) => (i : Int) := by
    unfold ldOf
    rw [List.map_map]
    rfl
  rw [e]
  exact List.Pairwise.map _ (fun a b h h2 => h (by omega)) List.nodup_range
theorem chosen_least {cs : List Int} {k : Int} {i j : Nat} (hi : i < cs.length) (hj : j < cs.length) (h1 : (i : Int) ∈ chosen (ldOf cs) k) (h2 : ¬ (j : Int) ∈ chosen (ldOf cs) k) : cs[i] ≤ cs[j] := by
  obtain ⟨i', hi', e, hx⟩ := chosen_mem h1
  obtain rfl : i = i' := by omega
  have hy : (⟨(j : Int), cs[j]⟩ : Ld) ∈ sortLd (ldOf cs) := (sortLd_perm _).symm.subset (ldOf_mem hj)
  have hs := sortLd_sorted (ldOf cs)
  rw [← List.take_append_drop k.toNat (sortLd (ldOf cs))] at hs hy
  rcases List.mem_append.1 hy with h | h
  · exact absurd (by rw [chosen_take]; exact List.mem_map.2 ⟨_, h, rfl⟩) h2
  · have := (List.pairwise_append.1 hs).2.2 _ hx _ h
    simp only [Bool.not_eq_true'] at this
    rw [ldLt_no] at this
    have h5 : (⟨(i : Int), cs[i]⟩ : Ld).n = cs[i] := rfl
    have h6 : (⟨(j : Int), cs[j]⟩ : Ld).n = cs[j] := rfl
    omega
/-- what the counts are when the first t of ids have had one more -/
def Bump (cs ids : List Int) (t : Nat) (cs' : List Int) : Prop :=
  cs'.length = cs.length ∧ ∀ (i : Nat) (h : i < cs.length) (h' : i < cs'.length), cs'[i] = cs[i] + (if (i : Int) ∈ ids.take t then 1 else 0)
def Even (cs : List Int) : Prop := ∀ (i j : Nat) (hi : i < cs.length) (hj : j < cs.length), cs[i] ≤ cs[j] + 1
theorem Bump.zero (cs ids : List Int) : Bump cs ids 0 cs := ⟨rfl, fun i h h' => by simp⟩
theorem Bump.step {cs ids cs' : List Int} {t i : Nat} (h : Bump cs ids t cs') (ht : t < ids.length) (hi : ids[t] = (i : Int)) (hn : ids.Nodup) (hl : i < cs'.length) : Bump cs ids (t + 1) (cs'.set i (cs'[i] + 1)) := by
  obtain ⟨h1, h2⟩ := h
  refine ⟨by rw [List.length_set]; exact h1, fun j hj hj' => ?_⟩
  have hnot : ¬ (i : Int) ∈ ids.take t := by
    rw [← hi]
    have := hn
    rw [← List.take_append_drop t ids, List.drop_eq_getElem_cons ht, List.nodup_append] at this
    intro hm
    exact this.2.2 _ hm _ (List.mem_cons_self ..) rfl
  rw [List.getElem_set, List.take_succ_eq_append_getElem ht, hi]
  by_cases e : i = j
  · subst e
    rw [if_pos rfl, h2 i (by omega) hl, if_neg hnot, if_pos (by simp)]
    omega
  · rw [if_neg e, h2 j hj (by rw [List.length_set] at hj'; exact hj')]
    congr 1
    simp only [List.mem_append, List.mem_singleton]
    have : ¬ (j : Int) = i := by omega
    simp [this]
theorem Bump.all {cs ids cs' : List Int} {t : Nat} (h : Bump cs ids t cs') (ht : t = ids.length) : cs'.length = cs.length ∧ ∀ (i : Nat) (h : i < cs.length) (h' : i < cs'.length), cs'[i] = cs[i] + (if (i : Int) ∈ ids then 1 else 0) := by
  subst ht
  have := h.2
  rw [List.take_length] at this
  exact ⟨h.1, this⟩
theorem Bump.even {cs cs' : List Int} {k : Int} {t : Nat} (h : Bump cs (chosen (ldOf cs) k) t cs') (ht : t = (chosen (ldOf cs) k).length) (he : Even cs) : Even cs' := by
  obtain ⟨h1, h2⟩ := h.all ht
  intro i j hi hj
  have a := he i j (by omega) (by omega)
  rw [h2 i (by omega) hi, h2 j (by omega) hj]
  by_cases hci : (i : Int) ∈ chosen (ldOf cs) k
  · by_cases hcj : (j : Int) ∈ chosen (ldOf cs) k
    · rw [if_pos hci, if_pos hcj]; omega
    · have := chosen_least (by omega) (by omega) hci hcj
      rw [if_pos hci, if_neg hcj]; omega
  · rw [if_neg hci]
    split <;> omega
theorem Bump.bound {cs ids cs' : List Int} {t m : Nat} (h : Bump cs ids t cs') (hb : ∀ x ∈ cs, 0 ≤ x ∧ x ≤ m) : ∀ x ∈ cs', 0 ≤ x ∧ x ≤ m + 1 := by
  intro x hx
  obtain ⟨i, hi, rfl⟩ := List.mem_iff_getElem.1 hx
  have h1 := h.1
  rw [h.2 i (by omega) hi]
  have := hb _ (List.getElem_mem (show i < cs.length by omega))
  split <;> omega
theorem ldOf_get {cs : List Int} {i : Nat} (h : i < cs.length) : (ldOf cs)[i]'(by rw [ldOf_length]; exact h) = ⟨(i : Int), cs[i]⟩ := by simp [ldOf, h]
theorem ldOf_set {cs : List Int} {i : Nat} (v : Int) (h : i < cs.length) : (ldCells (ldOf cs)).set (i * 2 + 1) (.int .i64 v) = ldCells (ldOf (cs.set i v)) := by
  refine List.ext_getElem? fun j => ?_
  rw [List.getElem?_set]
  have hl : (ldCells (ldOf cs)).length = cs.length * 2 := by rw [ldCells_length, ldOf_length]
  have hl2 : (ldCells (ldOf (cs.set i v))).length = cs.length * 2 := by rw [ldCells_length, ldOf_length, List.length_set]
  by_cases hj : j < cs.length * 2
  · have e : j = j / 2 * 2 + j % 2 := by omega
    have hk : j / 2 < cs.length := by omega
    have a1 := ldCells_get (ldOf cs) (j / 2) (j % 2) (by rw [ldOf_length]; exact hk) (by omega)
    have a2 := ldCells_get (ldOf (cs.set i v)) (j / 2) (j % 2) (by rw [ldOf_length, List.length_set]; exact hk) (by omega)
    rw [← e] at a1 a2
    rw [a1, a2, ldOf_get hk, ldOf_get (by rw [List.length_set]; exact hk)]
    rw [hl]
    rcases (show j % 2 = 0 ∨ j % 2 = 1 by omega) with h2 | h2
    · rw [h2, if_neg (by omega)]
      rfl
    · rw [h2]
      by_cases e2 : i = j / 2
      · subst e2
        rw [if_pos (by omega), if_pos (by omega)]
        simp [Ld.cells]
      · rw [if_neg (by omega)]
        simp [Ld.cells, e2]
  · rw [if_neg (by omega), List.getElem?_eq_none (by omega), List.getElem?_eq_none (by omega)]
theorem even_zero (n : Nat) : Even (List.replicate n 0) := by
  intro i j hi hj
  simp

/-- the row of loads -/
def LRow (W w : World) (g n cap : Nat) (cs : List Int) : Prop :=
  w.ownsRow 0 31 2 (.slice (some ⟨g, 0, none⟩) n cap) n (ldCells (ldOf cs)) ∧ W.heap.size ≤ g ∧ Below W.heap.size W w ∧ cs.length = n
set_option maxHeartbeats 4000000 in
set_option maxRecDepth 100000 in
/-- THE WALK of PlaceEven: whatever comes in, it answers true, and nothing that was there turns. -/
theorem placeEven_walk {H : Type} {enc : TypeId × Value → H} (W : World) (base : Nat) (v0 v1 v2 : Value) (d0 d1 d2 : DataW H) (p0 p1 p2 : List MemPlace)
    (ok0 : Value.okWide Try.prog W .any base 5 v0) (h0 : DataW.Trod enc Try.prog W 0 (fun _ => true) true 5 v0 d0 p0)
    (ok1 : Value.okWide Try.prog W .any base 5 v1) (h1 : DataW.Trod enc Try.prog W 0 (fun _ => true) true 5 v1 d1 p1)
    (ok2 : Value.okWide Try.prog W .any base 5 v2) (h2 : DataW.Trod enc Try.prog W 0 (fun _ => true) true 5 v2 d2 p2) :
    Calls Try.prog 8 #[v0, v1, v2] W fun e w' => e = .returned (.bool true) ∧ Below W.heap.size W w' := by
  obtain ⟨sv, rfl, rfl, rfl, wa⟩ := open_int Try.underlying5 ok0 h0
  obtain ⟨ch, rfl, rfl, rfl, wb⟩ := open_int Try.underlying5 ok1 h1
  obtain ⟨cp, rfl, rfl, rfl, wc⟩ := open_int Try.underlying5 ok2 h2
  obtain ⟨a0, a1⟩ := bounds_u8 wa
  obtain ⟨b0, b1⟩ := bounds_u8 wb
  obtain ⟨c0, c1⟩ := bounds_u8 wc
  clear ok0 ok1 ok2 h0 h1 h2 wa wb wc
  obtain ⟨i0, hi, hz0, hz1, hz2⟩ := info_parts Try.infoLd
  go_enter Try.func8, Try.ntmps8
  go_wp2
  obtain ⟨n, hn⟩ : ∃ n : Nat, (1 + sv % 16 : Int) = n := ⟨(1 + sv % 16).toNat, by omega⟩
  obtain ⟨kk, hk⟩ : ∃ kk : Nat, (1 + cp % 3 : Int) = kk := ⟨(1 + cp % 3).toNat, by omega⟩
  rw [hn, hk]
  have hn1 : 1 ≤ n := by omega
  have hn2 : n ≤ 16 := by omega
  have hk1 : 1 ≤ kk := by omega
  have hk2 : kk ≤ 3 := by omega
  clear hn hk a0 a1 c0 c1
  obtain ⟨l0, hl0⟩ : ∃ l0 : List Int, List.replicate n 0 = l0 := ⟨_, rfl⟩
  have hll : l0.length = n := by rw [← hl0, List.length_replicate]
  have hlz : ∀ (i : Nat) (h : i < l0.length), l0[i] = 0 := fun i h => by simp [← hl0]
  have HL0 := hide hl0
  have HLL := hide hll
  have HLZ := hide hlz
  clear hl0 hll hlz
  go_loopw [9, 10] (fun v i wr => ∃ (k : Nat) (A1 : Option Addr) (c1 : Nat), k ≤ n ∧ i = .int .i64 k ∧ v = .slice A1 k c1 ∧ wr.ownsRow 0 31 2 (.slice A1 k c1) k (ldCells ((ldOf l0).take k)) ∧ (∀ g, A1.map Addr.block = some g → W.heap.size ≤ g) ∧ Below W.heap.size W wr) (fun _ i _ => n - (intOf i).toNat)
  case atStart => exact ⟨0, none, 0, Nat.zero_le _, rfl, rfl, ⟨rfl, Or.inl ⟨rfl, rfl⟩⟩, (fun g hg => by cases hg), Below.refl _ _⟩
  case round =>
    obtain ⟨k, A1, c1, hk, rfl, rfl, hown, hlo, hb⟩ := hrel
    have HO := hide hown
    have HLO := hide hlo
    clear hown hlo
    by_cases hlt : k < n
    · have hst := ldOf_take l0 k (by have := HLL.out; omega)
      rw [HLZ.out] at hst
      have HST := hide hst
      clear hst
      go_wp2_with (at_builtin; refine app_law rfl _ _ 32 rfl 31 i0 _ 2 16 Try.underlying32 hi hz0 hz1 hz2 rfl (by decide) (.slice A1 k c1) k (ldCells ((ldOf l0).take k)) rfl (HO.out.alloc _) wr.heap.size 1 1 (Ld.cells ⟨k, 0⟩) rfl (Blk.new rfl) rfl ?c1 (by decide) ?c3 ?c4 ?_)
      case c1 => intro u hu; simp [Ld.cells] at hu; rcases hu with rfl | rfl <;> rfl
      case c3 => unfold maxLen; omega
      case c4 => omega
      intro g1 d1 w1 own1 ch1 or1 lt1
      rw [ownBlock_slice] at ch1 or1
      rw [ldCells_snoc, ← HST.out] at own1
      have lo1 : W.heap.size ≤ g1 := by
        rcases or1 with h | h
        · exact HLO.out g1 h
        · have := hb.size; omega
      have b1 : Below W.heap.size W w1 := Chg.onto (hb.alloc hb.size _) (by have := hb.size; simp; omega) ch1 (fun x hx => HLO.out x (by simpa using hx))
      have HX := hide (And.intro own1 (And.intro lo1 b1))
      clear own1 lo1 b1 ch1 or1 hb
      go_wp2
      go_roundw
      case rel => exact ⟨k + 1, _, d1, by omega, by go_num, rfl, HX.out.1, fun g hg => by cases hg; exact HX.out.2.1, HX.out.2.2⟩
      case measure => simp [intOf]; omega
    · have e : k = n := by omega
      subst e
      have hX : (ldOf l0).take k = ldOf l0 := List.take_of_length_le (by rw [ldOf_length, HLL.out]; exact Nat.le_refl _)
      have hA1 : ∃ g1, A1 = some ⟨g1, 0, none⟩ := by
        rcases HO.out.2 with ⟨e, _⟩ | ⟨g, cp, cur, e, _⟩
        · injection e with e1 e2 e3; omega
        · injection e with e1 e2 e3; exact ⟨g, e1⟩
      obtain ⟨g, rfl⟩ := hA1
      have hrow : LRow W wr g k c1 l0 := ⟨by have := HO.out; rw [hX] at this; exact this, HLO.out g rfl, hb, HLL.out⟩
      have HROW := hide hrow
      clear hrow hX hb hlt HO HLO
      go_wp2
      go_loopw [6, 11, 12, 13, 14, 15] (fun _ i _ _ _ _ wr => ∃ (t : Nat) (cs : List Int), (t : Int) ≤ ch % 60 ∧ i = .int .i64 t ∧ LRow W wr g k c1 cs ∧ Even cs ∧ ∀ x ∈ cs, 0 ≤ x ∧ x ≤ t) (fun _ i _ _ _ _ _ => (ch % 60).toNat - (intOf i).toNat)
      case atStart => exact ⟨0, l0, by omega, rfl, HROW.out, by rw [← HL0.out]; exact even_zero k, fun x hx => by rw [← HL0.out] at hx; have := List.eq_of_mem_replicate hx; omega⟩
      case round =>
        obtain ⟨t, cs, ht, rfl, hrow, hev, hbd⟩ := hrel
        have HEV := hide hev
        have HBD := hide hbd
        clear hev hbd
        by_cases hc : (t : Int) < ch % 60
        · obtain ⟨hown, hg, hb, hcl⟩ := hrow
          have hrd : Reads wr wr.heap.size 2 (some ⟨g, 0, none⟩) k (ldCells (ldOf cs)) := by
            obtain ⟨A2, c2, e2, _, _, _, _, hr⟩ := own_view hown
            cases e2
            exact hr _ (fun g' hg' => own_lt hown hg')
          have hgl : g < wr.heap.size := own_lt hown rfl
          have HO := hide hown
          have HB := hide hb
          have HCL := hide hcl
          clear hown hb hcl
          go_wp2_with fail
          with_reducible refine (choose_calls _ _ _ (ldOf cs) _ _ (by intro a ha; cases ha; rfl) hrd (by rw [ldOf_length]; exact HCL.out) (by omega)).mono ?_
          rintro e w1 hout
          obtain ⟨A3, n3, c3, rfl, hn3, hc3, hr3, hg3, hb3⟩ := hout.view
          have HL := hide hn3
          rw [chosen_length, ldOf_length, HCL.out] at hn3
          have hn3' : n3 = min kk k := by omega
          obtain ⟨ids, hids⟩ : ∃ ids, chosen (ldOf cs) kk = ids := ⟨_, rfl⟩
          have HND := hide (chosen_nodup cs kk)
          have HME := hide (fun (j : Int) (hj : j ∈ chosen (ldOf cs) kk) => chosen_mem hj)
          have row1 : LRow W w1 g k c1 cs := ⟨own_chg HO.out (Chg.of_below (L := []) hb3) (fun _ _ hx => by cases hx), hg, HB.out.trans (hb3.mono HB.out.size), HCL.out⟩
          have ROW1 := hide row1
          rw [hids] at hr3 HND HL
          have HIDS := hide hids
          obtain ⟨b, o, rfl, hbB, hcell⟩ := hr3.at_ (by omega)
          have hne : ¬ b = g := by
            have := hg3 b rfl
            omega
          have hcell' : ∀ (j : Nat) (h : j < ids.length), w1.cell? ⟨b, o + j, none⟩ = some (.int .i64 ids[j]) := fun j h => hcell j _ (by simp [h])
          have HCELL := hide hcell'
          have d1 : ((n3 : Int) != min (kk : Int) k) = false := by simp; omega
          have HN3 := hide hn3'
          have hn3b : n3 ≤ 3 := by omega
          have hn3p : 1 ≤ n3 := by omega
          clear hn3' hout hn3 hr3 hg3 hb3 row1 hids hcell hcell' hrd
          go_wp2
          go_loopw [6, 13] (fun _ i wr => ∃ (s : Nat) (cs' : List Int), s ≤ n3 ∧ i = .int .i64 s ∧ LRow W wr g k c1 cs' ∧ Bump cs ids s cs' ∧ ∀ (j : Nat) (h : j < ids.length), wr.cell? ⟨b, o + j, none⟩ = some (.int .i64 ids[j])) (fun _ i _ => n3 - (intOf i).toNat)
          case atStart => exact ⟨0, cs, by omega, rfl, ROW1.out, Bump.zero _ _, HCELL.out⟩
          case round =>
            obtain ⟨s, cs', hs, rfl, hrow, hbp, hcell⟩ := hrel
            have HBP := hide hbp
            by_cases hsn : s < n3
            · have hsl : s < ids.length := by rw [HL.out]; exact hsn
              obtain ⟨i, hi', hid, hix⟩ := HME.out ids[s] (by rw [HIDS.out]; exact List.getElem_mem hsl)
              have hik : i < k := by rw [HCL.out] at hi'; exact hi'
              obtain ⟨hown, _, hb, hcl'⟩ := hrow
              have e1 := hcell s hsl
              rw [hid] at e1
              have hil : i < cs'.length := by omega
              have hci : (ldCells (ldOf cs'))[i * 2 + 1]? = some (.int .i64 cs'[i]) := by
                rw [ldCells_get (ldOf cs') i 1 (by rw [ldOf_length]; exact hil) (by omega), ldOf_get hil]
                rfl
              have e2 : wr.cell? ⟨g, i * 2 + 1, none⟩ = some (.int .i64 cs'[i]) := by
                rw [hown.cellAt (i * 2 + 1) (by omega)]
                exact hci
              have e3 : wr.frozen? ⟨g, i * 2 + 1, none⟩ = false := hown.frozenAt _
              have st := (hown.stored (i * 2 + 1) (.int .i64 (cs'[i] + 1))).1
              rw [ldOf_set _ hil] at st
              have bs : Bump cs ids (s + 1) (cs'.set i (cs'[i] + 1)) := hbp.step hsl hid HND.out hil
              have bd := hbp.bound HBD.out _ (List.getElem_mem hil)
              obtain ⟨v, hv⟩ : ∃ v, cs'[i] = v := ⟨_, rfl⟩
              rw [hv] at e2 st bs bd
              obtain ⟨bd0, bd1⟩ := bd
              have e4 : IntKind.i64.wrap (v + 1) = v + 1 := IntWalk.i64_in _ (by omega)
              have hrow2 : LRow W (wr.setCell ⟨g, i * 2 + 1, none⟩ (.int .i64 (v + 1))) g k c1 (cs'.set i (v + 1)) := ⟨st, hg, hb.setCell hg _, by rw [List.length_set]; exact hcl'⟩
              have ce2 : ∀ (j : Nat) (h : j < ids.length), (wr.setCell ⟨g, i * 2 + 1, none⟩ (.int .i64 (v + 1))).drew.cell? ⟨b, o + j, none⟩ = some (.int .i64 ids[j]) := fun j h =>
                ((((Chg.refl [g] wr).setCell (p := ⟨g, i * 2 + 1, none⟩) (Or.inl (by simp)) (.int .i64 (v + 1))).drew).cell (p := ⟨b, o + j, none⟩) (World.block_lt_of_cell? wr _ (hcell j h)) (by simpa using hne)).trans (hcell j h)
              have CE2 := hide ce2
              have ROW2 := hide hrow2
              have BS := hide bs
              have CE := hide hcell
              have i1 : (i : Int) < k := by omega
              have i2 : (s : Int) < n3 := by omega
              have i3 : ¬ ((i : Int) < 0) := by omega
              have i4 : ¬ ((k : Int) ≤ i) := by omega
              clear ce2 hrow2 bs hcell hown hbp hb hci hv hid st hix hi' hcl'
              go_wp2
              go_region
              go_wp2
              go_roundw
              case rel => exact ⟨s + 1, _, by omega, by go_num, ⟨ROW2.out.1, hg, ROW2.out.2.2.1.drew, ROW2.out.2.2.2⟩, BS.out, CE2.out⟩
              case measure => simp [intOf]; omega
            · have hs2 : s = n3 := by omega
              have hev2 : Even cs' := by
                rw [← HIDS.out] at hbp
                exact hbp.even (by rw [HIDS.out, HL.out]; exact hs2) HEV.out
              have HEV2 := hide hev2
              have HBD2 := hide (hbp.bound HBD.out)
              have ROW3 := hide hrow
              have hce : ∀ (i : Nat) (h : i < cs'.length), wr.cell? ⟨g, i * 2 + 1, none⟩ = some (.int .i64 cs'[i]) := fun i h => by
                have h9 := hrow.2.2.2
                rw [hrow.1.cellAt (i * 2 + 1) (by omega), ldCells_get (ldOf cs') i 1 (by rw [ldOf_length]; exact h) (by omega), ldOf_get h]
                rfl
              have HCE := hide hce
              have hcl2 := hrow.2.2.2
              have HCL2 := hide hcl2
              clear hev2 hcell hbp hrow hce hcl2
              go_wp2
              go_loopw [6, 14, 15] (fun _ i _ w3 => ∃ (a q : Nat), a ≤ k ∧ i = .int .i64 a ∧ w3 = wr.drewN q) (fun _ i _ _ => k - (intOf i).toNat)
              case atStart => exact ⟨0, 0, by omega, rfl, rfl⟩
              case round =>
                obtain ⟨a, q, ha, rfl, rfl⟩ := hrel
                by_cases hak : a < k
                · have i5 : (a : Int) < k := by omega
                  go_wp2
                  go_loopw [6, 15] (fun _ i w3 => ∃ (d q : Nat), d ≤ k ∧ i = .int .i64 d ∧ w3 = wr.drewN q) (fun _ i _ => k - (intOf i).toNat)
                  case atStart => exact ⟨0, q, by omega, rfl, rfl⟩
                  case round =>
                    obtain ⟨d, q, hd, rfl, rfl⟩ := hrel
                    by_cases hdk : d < k
                    · have i6 : (d : Int) < k := by omega
                      have f1 := HCE.out a (by rw [HCL2.out]; exact hak)
                      have f2 := HCE.out d (by rw [HCL2.out]; exact hdk)
                      have f3 := HEV2.out a d (by rw [HCL2.out]; exact hak) (by rw [HCL2.out]; exact hdk)
                      have f4 := HBD2.out _ (List.getElem_mem (show d < cs'.length by rw [HCL2.out]; exact hdk))
                      obtain ⟨x, hx⟩ : ∃ x, cs'[a]'(by rw [HCL2.out]; exact hak) = x := ⟨_, rfl⟩
                      obtain ⟨y, hy⟩ : ∃ y, cs'[d]'(by rw [HCL2.out]; exact hdk) = y := ⟨_, rfl⟩
                      rw [hx] at f1 f3
                      rw [hy] at f2 f3 f4
                      obtain ⟨f5, f6⟩ := f4
                      have f7 : IntKind.i64.wrap (y + 1) = y + 1 := IntWalk.i64_in _ (by omega)
                      have f8 : decide (y + 1 < x) = false := decide_eq_false (by omega)
                      clear hx hy f3 f5 f6
                      go_wp2
                      go_quiet (fail)
                      go_wp2
                      go_roundw
                      case rel => exact ⟨d + 1, _, by omega, by go_num, rfl⟩
                      case measure => simp [intOf]; omega
                    · go_wp2
                      go_roundw
                      case rel => exact ⟨a + 1, _, by omega, by go_num, rfl⟩
                      case measure => simp [intOf]; omega
                · go_wp2
                  go_roundw
                  case rel => exact ⟨t + 1, cs', by omega, by go_num, ⟨ROW3.out.1, hg, below_drewN ROW3.out.2.2.1 _, ROW3.out.2.2.2⟩, HEV2.out, fun x hx => by have := HBD2.out x hx; omega⟩
                  case measure => simp [intOf]; omega
        · have hb := hrow.2.2.1
          have HB := hide hb
          clear hrow hb
          go_wp2_with fail
          with_reducible refine (awake19_calls _).mono ?_
          rintro e w4 ⟨rfl, hb4⟩
          have B4 := HB.out.trans (hb4.mono HB.out.size)
          go_wp2
          go_ret
          exact ⟨rfl, B4⟩
end Go.Proofs.Ytjdgkdaebkflpaa
