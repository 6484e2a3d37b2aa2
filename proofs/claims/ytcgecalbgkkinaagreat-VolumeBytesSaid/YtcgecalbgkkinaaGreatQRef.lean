/- One text of: Ref. -/
import Derived.Test.YtcgecalbgkkinaaGreatQVin
namespace Go.Proofs.YtcgecalbgkkinaaGreat
open Go.RowKit Go.Proofs Go.Maps
set_option linter.unusedVariables false
/-- the document's policies: of each volume of which the server has a chunk -/
def Vst.dpol (S : Vst) (s : Int) : List Pol := (S.vs.filter fun v => S.cs.any fun c => c.vol == v.id && c.has s).map Vo.p
theorem Vst.dpol_eq {S : Vst} {n : Nat} (hi : VIn S) (ho : VOk S n) (s : Int) : S.dpol s = S.polOf s := by
  unfold Vst.dpol Vst.polOf
  congr 1
  apply List.filter_congr
  intro v hv
  rw [Bool.eq_iff_iff, List.any_eq_true, List.any_eq_true]
  constructor
  · rintro ⟨c, hc, h⟩
    simp only [Bool.and_eq_true, beq_iff_eq] at h
    obtain ⟨v', hv', e1, e2⟩ := hi.cv c hc
    have := ho.vsr.inj hv' hv (by rw [e1, h.1])
    subst this
    exact ⟨c.id, e2, by unfold hasAt; rw [fd_mem ho.csr hc]; exact h.2⟩
  · rintro ⟨k, hk, h⟩
    unfold hasAt at h
    obtain ⟨c', hc', e1, e2⟩ := hi.vc v hv k hk
    subst e1
    rw [fd_mem ho.csr hc'] at h
    exact ⟨c', hc', by simp only [Bool.and_eq_true, beq_iff_eq]; exact ⟨e2, h⟩⟩
/-- chunks without some, as the document strikes them -/
theorem outs_filter (cs : List Ck) (ks : List Int) : outs cs ks = cs.filter fun c => !ks.contains c.id := by
  induction ks generalizing cs with
  | nil => unfold outs; exact (List.filter_eq_self.2 (by simp)).symm
  | cons k ks ih =>
    unfold outs
    rw [ih]
    unfold out
    rw [List.filter_filter]
    apply List.filter_congr
    intro c hc
    rw [List.contains_cons]
    by_cases h : c.id = k <;> simp [h, bne, Bool.and_comm]
/-- the document's capacities: 0, where there is no server -/
def Vst.pick (S : Vst) (id : Int) : Int := match fd Prod.fst S.sv id with | some x => x.2 | none => 0
/-- what holds of the servers -/
structure SvOk (S : Vst) : Prop where
  svr : Rise Prod.fst S.sv
  sva : ∀ x ∈ S.sv, 0 ≤ x.1 ∧ x.1 ≤ 15 ∧ 1 ≤ x.2 ∧ x.2 ≤ 64
theorem VOk.so {S : Vst} {n : Nat} (h : VOk S n) : SvOk S := ⟨h.svr, h.sva⟩
theorem Vst.pick_pos {S : Vst} (ho : SvOk S) (id : Int) : 0 < S.pick id ↔ (fd Prod.fst S.sv id).isSome := by
  unfold Vst.pick
  cases h : fd Prod.fst S.sv id with
  | none => simp
  | some x =>
    have := ho.sva x (fd_some h).1
    simp
    omega
theorem Vst.pick_zero {S : Vst} (ho : SvOk S) (id : Int) : S.pick id = 0 ↔ fd Prod.fst S.sv id = none := by
  unfold Vst.pick
  cases h : fd Prod.fst S.sv id with
  | none => simp
  | some x =>
    have := ho.sva x (fd_some h).1
    simp
    omega
/-- the document asks each number below 16 for its capacity -/
theorem Vst.dadmits {S : Vst} {n : Nat} (hi : VIn S) (ho : VOk S n) :
    S.admits = true ↔ ∀ id : Nat, id < 16 → 0 < S.pick id → Go.Proofs.YtcgecalbgkkinaaGreat.admits (S.pick id) (S.dpol id) = true := by
  unfold Vst.admits
  rw [List.all_eq_true]
  constructor
  · intro h id hid hp
    obtain ⟨x, hx⟩ := Option.isSome_iff_exists.1 ((Vst.pick_pos ho.so id).1 hp)
    have h1 := h x (fd_some hx).1
    rw [Vst.dpol_eq hi ho]
    have e1 : x.1 = id := (fd_some hx).2
    unfold Vst.pick
    rw [hx, ← e1]
    exact h1
  · intro h x hx
    have hb := ho.sva x hx
    have hf := fd_mem ho.svr hx
    obtain ⟨m, hm⟩ : ∃ m : Nat, (m : Int) = x.1 := ⟨x.1.toNat, by omega⟩
    have hp : S.pick m = x.2 := by unfold Vst.pick; rw [hm, hf]
    have := h m (by omega) (by rw [hp]; omega)
    rw [hp, Vst.dpol_eq hi ho, hm] at this
    exact this
/-- the numbers of the servers there are, as the document finds them -/
theorem Vst.ids {S : Vst} (ho : SvOk S) : ((List.range 16).filter fun id => decide (0 < S.pick (id : Nat))).map (fun i : Nat => (i : Int)) = S.sv.map Prod.fst := by
  have p1 : (((List.range 16).filter fun id => decide (0 < S.pick (id : Nat))).map (fun i : Nat => (i : Int))).Pairwise (· < ·) := by
    rw [List.pairwise_map]
    exact (List.Pairwise.sublist List.filter_sublist List.pairwise_lt_range).imp (fun h => by omega)
  have p2 : (S.sv.map Prod.fst).Pairwise (· < ·) := by
    rw [List.pairwise_map]
    exact ho.svr
  refine List.Perm.eq_of_pairwise (le := (· < ·)) (fun a b _ _ h1 h2 => by omega) p1 p2 ?_
  rw [List.perm_ext_iff_of_nodup (p1.imp (fun h => by omega)) (p2.imp (fun h => by omega))]
  intro a
  simp only [List.mem_map, List.mem_filter, List.mem_range, decide_eq_true_eq]
  constructor
  · rintro ⟨i, ⟨hi, hp⟩, rfl⟩
    obtain ⟨x, hx⟩ := Option.isSome_iff_exists.1 ((Vst.pick_pos ho i).1 hp)
    exact ⟨x, (fd_some hx).1, (fd_some hx).2⟩
  · rintro ⟨x, hx, rfl⟩
    have hb := ho.sva x hx
    refine ⟨x.1.toNat, ⟨by omega, ?_⟩, by omega⟩
    rw [Vst.pick_pos ho, show ((x.1.toNat : Nat) : Int) = x.1 by omega, fd_mem ho.svr hx]
    rfl
/-- and how many they are -/
theorem Vst.count {S : Vst} (ho : SvOk S) : ((List.range 16).filter fun id => decide (0 < S.pick (id : Nat))).length = S.sv.length := by
  have := congrArg List.length (Vst.ids ho)
  simpa using this
section
variable {α : Type} {key : α → Int}
/-- behind all: put at the end -/
theorem ins_last {x : α} : ∀ {L : List α}, (∀ y ∈ L, key y < key x) → ins key x L = L ++ [x]
  | [], _ => rfl
  | y :: L, h => by
    have h1 := h y (List.mem_cons_self ..)
    unfold ins
    rw [if_pos h1, ins_last (fun z hz => h z (List.mem_cons_of_mem _ hz))]
    rfl
/-- put where its like lies -/
theorem ins_set {x : α} : ∀ {L : List α} (h : Rise key L) {i : Nat} (hi : i < L.length), key L[i] = key x → ins key x L = L.set i x
  | y :: L, h, 0, hi, e => by
    have e' : key y = key x := e
    unfold ins
    rw [if_neg (by omega), if_pos e']
    rfl
  | y :: L, h, i + 1, hi, e => by
    have hi' : i < L.length := by simpa using hi
    have e' : key L[i] = key x := e
    have h1 := (List.pairwise_cons.1 h).1 L[i] (List.getElem_mem _)
    unfold ins
    rw [if_pos (by omega), ins_set (List.pairwise_cons.1 h).2 hi' e']
    rfl
/-- put between the lesser and the greater -/
theorem ins_at {x : α} : ∀ {L : List α} {i : Nat} (hi : i ≤ L.length), (∀ y ∈ L.take i, key y < key x) → (∀ h : i < L.length, key x < key L[i]) → ins key x L = L.take i ++ [x] ++ L.drop i
  | [], 0, _, _, _ => rfl
  | y :: L, 0, _, _, h2 => by
    have h3 : key x < key y := h2 (by simp)
    unfold ins
    rw [if_neg (by omega), if_neg (by omega)]
    rfl
  | y :: L, i + 1, hi, h1, h2 => by
    have h3 := h1 y (by simp)
    unfold ins
    rw [if_pos h3, ins_at (i := i) (by simpa using hi) (fun z hz => h1 z (by simp [hz])) (fun h => h2 (by simpa using h))]
    rfl
/-- taken out of its place -/
theorem out_at : ∀ {L : List α} (h : Rise key L) {i : Nat} (hi : i < L.length), out key L (key L[i]) = L.take i ++ L.drop (i + 1)
  | y :: L, h, 0, hi => by
    have h1 := (List.pairwise_cons.1 h).1
    unfold out
    show List.filter _ (y :: L) = L
    rw [List.filter_cons_of_neg (by simp)]
    refine List.filter_eq_self.2 (fun z hz => ?_)
    have := h1 z hz
    simp only [List.getElem_cons_zero, bne_iff_ne, ne_eq]
    omega
  | y :: L, h, i + 1, hi => by
    have hi' : i < L.length := by simpa using hi
    have h1 := (List.pairwise_cons.1 h).1 L[i] (List.getElem_mem _)
    have ih := out_at (List.pairwise_cons.1 h).2 hi'
    unfold out at ih ⊢
    show List.filter _ (y :: L) = y :: L.take i ++ L.drop (i + 1)
    simp only [List.getElem_cons_succ]
    rw [List.filter_cons_of_pos (by simp only [bne_iff_ne, ne_eq]; omega), ih]
    rfl
end
/-- the document's next choice: the least that is not chosen yet -/
theorem chosen_next {X : List Ld} (hn : (X.map Ld.id).Nodup) {k : Nat} (hk : k < X.length) {x : Ld} (hx : x ∈ X) (h1 : x.id ∉ chosen X k) (h2 : ∀ y ∈ X, y.id ∉ chosen X k → ldLt y x = false) :
    chosen X ((k + 1 : Nat) : Int) = chosen X k ++ [x.id] := by
  have hp : (sortLd X).Perm X := List.mergeSort_perm ..
  have hks : k < (sortLd X).length := by rw [hp.length_eq]; exact hk
  have hnd : ((sortLd X).map Ld.id).Nodup := (hp.map Ld.id).nodup_iff.2 hn
  have hd : (sortLd X).drop k = (sortLd X)[k] :: (sortLd X).drop (k + 1) := List.drop_eq_getElem_cons hks
  have hmk : (sortLd X)[k].id ∉ chosen X k := by
    unfold chosen
    rw [Int.toNat_natCast, ← List.map_take]
    intro h
    rw [← List.take_append_drop k (sortLd X), List.map_append, List.nodup_append] at hnd
    exact hnd.2.2 _ h _ (List.mem_map.2 ⟨_, by rw [hd]; exact List.mem_cons_self .., rfl⟩) rfl
  have a1 := h2 _ (hp.subset (List.getElem_mem hks)) hmk
  have hxm : x ∈ (sortLd X).drop k := by
    have := hp.symm.subset hx
    rw [← List.take_append_drop k (sortLd X)] at this
    rcases List.mem_append.1 this with h | h
    · exact absurd (by unfold chosen; rw [Int.toNat_natCast, ← List.map_take]; exact List.mem_map.2 ⟨x, h, rfl⟩) h1
    · exact h
  have hs : (sortLd X).Pairwise fun a b => (!ldLt b a) = true := List.pairwise_mergeSort
    (fun a b c h1 h2 => by simp only [Bool.not_eq_true', ldLt_no] at *; omega)
    (fun a b => by cases h : ldLt b a <;> simp only [Bool.not_false, Bool.not_true, Bool.true_or, Bool.false_or, Bool.not_eq_true']; rw [ldLt_iff] at h; rw [ldLt_no]; omega) X
  rw [← List.take_append_drop k (sortLd X)] at hs
  have hs2 := (List.pairwise_append.1 hs).2.1
  rw [hd, List.pairwise_cons] at hs2
  have e : (sortLd X)[k] = x := by
    rw [hd] at hxm
    rcases List.mem_cons.1 hxm with e | hx
    · exact e.symm
    · have a2 := hs2.1 _ hx
      simp only [Bool.not_eq_true'] at a2
      rw [ldLt_no] at a1 a2
      exact ld_ext (by omega) (by omega)
  unfold chosen
  rw [Int.toNat_natCast, Int.toNat_natCast, List.take_add_one, List.getElem?_map, List.getElem?_eq_getElem hks, e]
  rfl
end Go.Proofs.YtcgecalbgkkinaaGreat
