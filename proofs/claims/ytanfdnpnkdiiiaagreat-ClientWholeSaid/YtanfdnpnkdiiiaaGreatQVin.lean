/- One text of: Vin. -/
import Derived.Test.YtanfdnpnkdiiiaaGreatQVok2
namespace Go.Proofs.YtanfdnpnkdiiiaaGreat
open Go.RowKit Go.Proofs Go.Maps
set_option linter.unusedVariables false

structure VIn (S : Vst) : Prop where
  nd : ∀ c ∈ S.cs, (c.me ++ c.jo).Nodup
  mb : ∀ c ∈ S.cs, c.me ≠ []
  vc : ∀ v ∈ S.vs, ∀ k ∈ v.ch, ∃ c ∈ S.cs, c.id = k ∧ c.vol = v.id
  cv : ∀ c ∈ S.cs, ∃ v ∈ S.vs, v.id = c.vol ∧ c.id ∈ v.ch
  vr : ∀ v ∈ S.vs, v.ch.Pairwise (· < ·)
  sne : S.vs ≠ [] → S.sv ≠ []
theorem VIn.start : VIn ⟨[], [], [], 1⟩ := ⟨by simp, by simp, by simp, by simp, by simp, by simp⟩
section
variable {α : Type} {key : α → Int} {L : List α} {x y : α}
theorem Rise.inj (h : Rise key L) (hx : x ∈ L) (hy : y ∈ L) (e : key x = key y) : x = y := by
  have h1 := fd_mem h hx
  have h2 := fd_mem h hy
  rw [e, h2] at h1
  injection h1 with h1
  exact h1.symm
end
theorem loads_ids (S : Vst) : S.loads.map Ld.id = S.sv.map Prod.fst := by unfold Vst.loads; rw [List.map_map]; rfl
theorem chosen_nodup {S : Vst} (h : Rise Prod.fst S.sv) (m : Int) : (chosen S.loads m).Nodup := by
  unfold chosen
  refine List.Nodup.sublist (List.take_sublist _ _) ?_
  have hp : ((sortLd S.loads).map Ld.id).Perm (S.loads.map Ld.id) := (List.mergeSort_perm _ _).map _
  rw [hp.nodup_iff, loads_ids]
  exact h.nodup
theorem chosen_len (l : List Ld) (m : Int) : (chosen l m).length = min m.toNat l.length := by
  unfold chosen
  rw [List.length_take, List.length_map]
  unfold sortLd
  rw [List.length_mergeSort]
theorem chosen_sub {l : List Ld} {m : Int} {s : Int} (h : s ∈ chosen l m) : s ∈ l.map Ld.id := by
  unfold chosen at h
  have h := List.mem_of_mem_take h
  have hp : ((sortLd l).map Ld.id).Perm (l.map Ld.id) := (List.mergeSort_perm _ _).map _
  exact hp.mem_iff.1 h
theorem loads_len (S : Vst) : S.loads.length = S.sv.length := by unfold Vst.loads; rw [List.length_map]
/-- a volume grows: all of the others are as they were -/
theorem VIn.grow {S : Vst} {v : Vo} {cp : Int} (svr : Rise Prod.fst S.sv) (vsr : Rise Vo.id S.vs) (csr : Rise Ck.id S.cs) (hlt : ∀ c ∈ S.cs, c.id < S.nx) (hcp : 1 ≤ cp) (hsv : S.sv ≠ [])
    (nd : ∀ c ∈ S.cs, (c.me ++ c.jo).Nodup) (mb : ∀ c ∈ S.cs, c.me ≠ [])
    (h2 : ∀ u ∈ S.vs, u.id ≠ v.id → ∀ k ∈ u.ch, ∃ c ∈ S.cs, c.id = k ∧ c.vol = u.id) (h3 : ∀ k ∈ v.ch, ∃ c ∈ S.cs, c.id = k ∧ c.vol = v.id)
    (h4 : ∀ c ∈ S.cs, (c.vol = v.id ∧ c.id ∈ v.ch) ∨ ∃ u ∈ S.vs, u.id ≠ v.id ∧ u.id = c.vol ∧ c.id ∈ u.ch) (h5 : v.ch.Pairwise (· < ·)) (h6 : ∀ u ∈ S.vs, u.ch.Pairwise (· < ·)) : VIn (S.grow v cp) := by
  obtain ⟨g1, g2, g3, g4⟩ := growN_sv (lack v.bl v.ch) S v.id v.ch cp
  have hs1 : 1 ≤ S.sv.length := List.length_pos_iff.2 hsv
  obtain ⟨r1, r2, r3, r4, r5, r6⟩ := growN_all (P := fun c => (c.me ++ c.jo).Nodup ∧ c.me ≠ []) (id := v.id) (cp := cp) (lack v.bl v.ch) v.ch csr hlt (fun c hc => ⟨nd c hc, mb c hc⟩)
    (fun X hX _ _ => by
      refine ⟨by simp only [List.append_nil]; exact chosen_nodup (by rw [hX]; exact svr) _, fun e => ?_⟩
      have hl := chosen_len X.loads (min cp S.sv.length)
      simp only [] at e
      rw [e, loads_len, hX] at hl
      simp only [List.length_nil] at hl
      omega)
  have hch : ∀ k, k ∈ (growN (lack v.bl v.ch) S v.id v.ch cp).2 ↔ k ∈ v.ch ∨ (S.nx ≤ k ∧ k < S.nx + lack v.bl v.ch) := fun k => by
    rw [g4, List.mem_append, List.mem_map]
    constructor
    · rintro (h | ⟨i, hi, rfl⟩)
      · exact Or.inl h
      · have := List.mem_range.1 hi
        exact Or.inr ⟨by omega, by omega⟩
    · rintro (h | ⟨ha, hb⟩)
      · exact Or.inl h
      · exact Or.inr ⟨(k - S.nx).toNat, List.mem_range.2 (by omega), by omega⟩
  have hold : ∀ k ∈ v.ch, k < S.nx := fun k hk => by
    obtain ⟨c, hc, rfl, _⟩ := h3 k hk
    exact hlt c hc
  unfold Vst.grow
  simp only []
  rw [g2]
  refine ⟨fun c hc => (r3 c hc).1, fun c hc => (r3 c hc).2, fun x hx k hk => ?_, fun c hc => ?_, fun x hx => ?_, fun _ => by simp only []; rw [g1]; exact hsv⟩
  · rcases (mem_ins vsr).1 hx with rfl | ⟨hx, hne⟩
    · simp only [] at hk ⊢
      rcases (hch k).1 hk with h | ⟨ha, hb⟩
      · obtain ⟨c, hc, h7⟩ := h3 k h
        exact ⟨c, r4 c hc, h7⟩
      · exact r6 k ha hb
    · simp only [] at hne
      obtain ⟨c, hc, h7⟩ := h2 x hx hne k hk
      exact ⟨c, r4 c hc, h7⟩
  · rcases r5 c hc with h | ⟨ha, hb, hv⟩
    · rcases h4 c h with ⟨hv, hk⟩ | ⟨u, hu, hne, hv, hk⟩
      · exact ⟨_, (mem_ins vsr).2 (Or.inl rfl), hv.symm, (hch _).2 (Or.inl hk)⟩
      · exact ⟨u, (mem_ins vsr).2 (Or.inr ⟨hu, hne⟩), hv, hk⟩
    · exact ⟨_, (mem_ins vsr).2 (Or.inl rfl), hv.symm, (hch _).2 (Or.inr ⟨ha, hb⟩)⟩
  · rcases (mem_ins vsr).1 hx with rfl | ⟨hx, hne⟩
    · simp only []
      rw [g4]
      refine List.pairwise_append.2 ⟨h5, ?_, fun a ha b hb => ?_⟩
      · refine List.Pairwise.map _ (fun a b hab => ?_) List.pairwise_lt_range
        omega
      · obtain ⟨i, _, rfl⟩ := List.mem_map.1 hb
        have := hold a ha
        omega
    · exact h6 x hx
theorem VIn.turn {S : Vst} {k k' : Ck} (h : VIn S) (csr : Rise Ck.id S.cs) (hk : k ∈ S.cs) (e1 : k'.id = k.id) (e2 : k'.vol = k.vol) (nd : (k'.me ++ k'.jo).Nodup) (mb : k'.me ≠ []) : VIn (S.turn k') := by
  unfold Vst.turn
  have hm : ∀ c, c ∈ ins Ck.id { k' with ep := k'.ep + 1 } S.cs ↔ c = { k' with ep := k'.ep + 1 } ∨ (c ∈ S.cs ∧ c.id ≠ k'.id) := fun c => mem_ins csr
  refine ⟨fun c hc => ?_, fun c hc => ?_, fun v hv j hj => ?_, fun c hc => ?_, h.vr, h.sne⟩
  · rcases (hm c).1 hc with rfl | ⟨hc, _⟩
    · exact nd
    · exact h.nd c hc
  · rcases (hm c).1 hc with rfl | ⟨hc, _⟩
    · exact mb
    · exact h.mb c hc
  · obtain ⟨c, hc, h1, h2⟩ := h.vc v hv j hj
    by_cases e : c.id = k'.id
    · have : c = k := csr.inj hc hk (e.trans e1)
      subst this
      exact ⟨_, (hm _).2 (Or.inl rfl), by simp only []; rw [e1, h1], by simp only []; rw [e2, h2]⟩
    · exact ⟨c, (hm c).2 (Or.inr ⟨hc, e⟩), h1, h2⟩
  · rcases (hm c).1 hc with rfl | ⟨hc, _⟩
    · obtain ⟨v, hv, h1, h2⟩ := h.cv k hk
      exact ⟨v, hv, by simp only []; rw [e2]; exact h1, by simp only []; rw [e1]; exact h2⟩
    · exact h.cv c hc
theorem VIn.act {S : Vst} {n : Nat} (h : VIn S) (ok : VOk S n) (q : Cmd) : VIn (S.act q).1 := by
  have hlt : ∀ c ∈ S.cs, c.id < S.nx := fun c hc => (ok.csa c hc).2.1
  unfold Vst.act
  split
  · unfold Vst.server
    split
    · refine ⟨h.nd, h.mb, h.vc, h.cv, h.vr, fun _ e => ?_⟩
      have : ((q.a, q.b) : Int × Int) ∈ ins Prod.fst (q.a, q.b) S.sv := (mem_ins ok.svr).2 (Or.inl rfl)
      simp only [] at e
      rw [e] at this
      cases this
    · exact h
  split
  · unfold Vst.create
    split
    · rename_i hq
      split
      · exact h
      · rename_i hnot
        split
        · exact h
        · rename_i hlen
          have hnone : fd Vo.id S.vs q.a = none := by simpa using hnot
          have hne := fd_none.1 hnone
          refine VIn.grow ok.svr ok.vsr ok.csr hlt (by omega) (fun e => by rw [e] at hlen; simp at hlen; omega) h.nd h.mb (fun u hu _ => h.vc u hu) (by simp) (fun c hc => Or.inr ?_) List.Pairwise.nil h.vr
          obtain ⟨v, hv, h1, h2⟩ := h.cv c hc
          exact ⟨v, hv, hne v hv, h1, h2⟩
    · exact h
  split
  · unfold Vst.remove
    split
    · exact h
    · rename_i v hv
      obtain ⟨hvm, hvi⟩ := fd_some hv
      refine ⟨fun c hc => h.nd c (mem_outs.1 hc).1, fun c hc => h.mb c (mem_outs.1 hc).1, fun u hu k hk => ?_, fun c hc => ?_, fun u hu => h.vr u (mem_out.1 hu).1, fun hne => h.sne (fun e => hne (by simp only [] at *; rw [e]; rfl))⟩
      · obtain ⟨hu1, hu2⟩ := mem_out.1 hu
        obtain ⟨c, hc, h1, h2⟩ := h.vc u hu1 k hk
        refine ⟨c, mem_outs.2 ⟨hc, fun hin => ?_⟩, h1, h2⟩
        obtain ⟨c', hc', h1', h2'⟩ := h.vc v hvm _ hin
        have : c' = c := ok.csr.inj hc' hc h1'
        subst this
        exact hu2 (by rw [← h2, h2', hvi])
      · obtain ⟨hc1, hc2⟩ := mem_outs.1 hc
        obtain ⟨u, hu, h1, h2⟩ := h.cv c hc1
        refine ⟨u, mem_out.2 ⟨hu, fun e => hc2 ?_⟩, h1, h2⟩
        have : u = v := ok.vsr.inj hu hvm (by rw [e, hvi])
        rw [← this]
        exact h2
  split
  · unfold Vst.resize
    split
    · split
      · exact h
      · rename_i v hv
        obtain ⟨hvm, hvi⟩ := fd_some hv
        have hvne : v.ch ≠ [] := fun e => by have := ok.vsa v hvm; rw [e] at this; simp at this; omega
        have hcp : 1 ≤ copiesOf S.cs v.ch := by
          unfold copiesOf
          cases hc : v.ch with
          | nil => exact absurd hc hvne
          | cons k t =>
            obtain ⟨c, hcm, h1, _⟩ := h.vc v hvm k (by rw [hc]; simp)
            simp only []
            rw [← h1, fd_mem ok.csr hcm]
            have := List.length_pos_iff.2 (h.mb c hcm)
            simp only []
            omega
        generalize ((q.b + 7) / 8).toNat = ka
        have hsplit := List.take_append_drop ka v.ch
        have hnd : ∀ k ∈ v.ch.take ka, k ∉ v.ch.drop ka := fun k hk hk2 => by
          have := h.vr v hvm
          rw [← hsplit] at this
          exact Int.lt_irrefl _ ((List.pairwise_append.1 this).2.2 k hk k hk2)
        refine VIn.grow ok.svr ok.vsr (outs_rise ok.csr) (fun c hc => hlt c (mem_outs.1 hc).1) hcp (h.sne (fun e => by rw [e] at hvm; cases hvm)) (fun c hc => h.nd c (mem_outs.1 hc).1) (fun c hc => h.mb c (mem_outs.1 hc).1)
          (fun u hu hne k hk => ?_) (fun k hk => ?_) (fun c hc => ?_) (List.Pairwise.sublist (List.take_sublist _ _) (h.vr v hvm)) h.vr
        · obtain ⟨c, hc, h1, h2⟩ := h.vc u hu k hk
          refine ⟨c, mem_outs.2 ⟨hc, fun hin => ?_⟩, h1, h2⟩
          obtain ⟨c', hc', h1', h2'⟩ := h.vc v hvm _ (List.mem_of_mem_drop hin)
          have : c' = c := ok.csr.inj hc' hc h1'
          subst this
          exact hne (by rw [← h2, h2'])
        · obtain ⟨c, hc, h1, h2⟩ := h.vc v hvm k (List.mem_of_mem_take hk)
          exact ⟨c, mem_outs.2 ⟨hc, by rw [h1]; exact hnd k hk⟩, h1, h2⟩
        · obtain ⟨hc1, hc2⟩ := mem_outs.1 hc
          obtain ⟨u, hu, h1, h2⟩ := h.cv c hc1
          by_cases e : u.id = v.id
          · have : u = v := ok.vsr.inj hu hvm e
            subst this
            refine Or.inl ⟨h1.symm, ?_⟩
            rw [← hsplit] at h2
            rcases List.mem_append.1 h2 with h2 | h2
            · exact h2
            · exact absurd h2 hc2
          · exact Or.inr ⟨u, hu, e, h1, h2⟩
    · exact h
  split
  · unfold Vst.policy
    split
    · split
      · exact h
      · rename_i v hv
        obtain ⟨hvm, hvi⟩ := fd_some hv
        have hm : ∀ u, u ∈ ins Vo.id { v with p := q.p, ver := v.ver + 1 } S.vs ↔ u = { v with p := q.p, ver := v.ver + 1 } ∨ (u ∈ S.vs ∧ u.id ≠ v.id) := fun u => mem_ins ok.vsr
        refine ⟨h.nd, h.mb, fun u hu k hk => ?_, fun c hc => ?_, fun u hu => ?_, fun _ => h.sne (fun e => by rw [e] at hvm; cases hvm)⟩
        · rcases (hm u).1 hu with rfl | ⟨hu, _⟩
          · exact h.vc v hvm k hk
          · exact h.vc u hu k hk
        · obtain ⟨u, hu, h1, h2⟩ := h.cv c hc
          by_cases e : u.id = v.id
          · have : u = v := ok.vsr.inj hu hvm e
            subst this
            exact ⟨_, (hm _).2 (Or.inl rfl), h1, h2⟩
          · exact ⟨u, (hm u).2 (Or.inr ⟨hu, e⟩), h1, h2⟩
        · rcases (hm u).1 hu with rfl | ⟨hu, _⟩
          · exact h.vr v hvm
          · exact h.vr u hu
    · exact h
  split
  · unfold Vst.drop
    split
    · exact h
    · rename_i k hk
      have hkm := (fd_some (at_ok hk).1).1
      split
      · exact h
      · rename_i hhas
        split
        · exact h
        · rename_i hone
          have hnd := List.nodup_append.1 (h.nd k hkm)
          refine h.turn ok.csr hkm rfl rfl ?_ ?_
          · refine List.nodup_append.2 ⟨hnd.1.filter _, hnd.2.1.filter _, fun a ha b hb => hnd.2.2 a (List.mem_filter.1 ha).1 b (List.mem_filter.1 hb).1⟩
          · intro e
            simp only [] at e
            unfold wout at e
            rw [List.filter_eq_nil_iff] at e
            have hall : ∀ x ∈ k.me, x = q.c := fun x hx => by simpa using e x hx
            apply hone
            cases hme : k.me with
            | nil => exact absurd hme (h.mb k hkm)
            | cons x t =>
              have hx := hall x (by rw [hme]; simp)
              cases ht : t with
              | nil => rw [hx]
              | cons y t' =>
                have hy := hall y (by rw [hme, ht]; simp)
                have hn := hnd.1
                rw [hme, ht, hx, hy] at hn
                simp at hn
  split
  · unfold Vst.join
    split
    · exact h
    · split
      · exact h
      · rename_i k hk
        have hkm := (fd_some (at_ok hk).1).1
        split
        · exact h
        · rename_i hhas
          split
          · exact h
          · refine h.turn ok.csr hkm rfl rfl ?_ (h.mb k hkm)
            unfold Ck.has at hhas
            simp only [Bool.or_eq_true, List.contains_iff_mem, not_or] at hhas
            simp only []
            rw [← List.append_assoc]
            refine List.nodup_append.2 ⟨h.nd k hkm, by simp, fun a ha b hb => ?_⟩
            rw [List.mem_singleton.1 hb]
            rintro rfl
            rcases List.mem_append.1 ha with ha | ha
            · exact hhas.1 ha
            · exact hhas.2 ha
  split
  · unfold Vst.promote
    split
    · exact h
    · rename_i k hk
      have hkm := (fd_some (at_ok hk).1).1
      split
      · exact h
      · rename_i hc
        have hc' : q.c ∈ k.jo := by simpa using hc
        have hnd := List.nodup_append.1 (h.nd k hkm)
        refine h.turn ok.csr hkm rfl rfl ?_ (by simp)
        simp only []
        have hnin : q.c ∉ k.me := fun hin => hnd.2.2 _ hin _ hc' rfl
        refine List.nodup_append.2 ⟨List.nodup_append.2 ⟨hnd.1, by simp, fun a ha b hb => ?_⟩, hnd.2.1.filter _, fun a ha b hb => ?_⟩
        · rw [List.mem_singleton.1 hb]
          rintro rfl
          exact hnin ha
        · have hb1 := List.mem_filter.1 hb
          rintro rfl
          rcases List.mem_append.1 ha with ha | ha
          · exact hnd.2.2 _ ha _ hb1.1 rfl
          · have := List.mem_singleton.1 ha
            simp [this] at hb1
  · exact h
theorem VIn.apply {S : Vst} {n : Nat} (h : VIn S) (ok : VOk S n) (q : Cmd) : VIn (S.apply q).1 := by
  unfold Vst.apply
  simp only []
  split
  · split
    · exact h.act ok q
    · exact h
  · exact h
end Go.Proofs.YtanfdnpnkdiiiaaGreat
