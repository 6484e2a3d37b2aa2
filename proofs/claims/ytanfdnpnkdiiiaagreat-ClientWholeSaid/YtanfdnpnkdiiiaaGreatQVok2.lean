/- One text of: Vok2. -/
import Derived.Test.YtanfdnpnkdiiiaaGreatQVC
namespace Go.Proofs.YtanfdnpnkdiiiaaGreat
open Go.RowKit Go.Proofs Go.Maps
set_option linter.unusedVariables false

theorem lack_le2 (bl : Int) (ch : List Int) (h : bl ≤ 512) : lack bl ch ≤ 64 := by unfold lack; omega
theorem fd_iff {α : Type} {key : α → Int} {L : List α} (h : Rise key L) {y : α} : y ∈ L ↔ fd key L (key y) = some y := ⟨fd_mem h, fun e => (fd_some e).1⟩
theorem VOk.co {S : Vst} {n : Nat} (h : VOk S n) : COk S.cs S.nx (1 + n) := ⟨h.csr, h.csa⟩
theorem VOk.more {S : Vst} {n m : Nat} (h : VOk S n) (hm : n ≤ m) : VOk S m :=
  ⟨h.svr, h.sva, h.vsr, h.csr, fun v hv => by obtain ⟨a1, a2, a3, a4, a5, a6, a7, a8⟩ := h.vsa v hv; exact ⟨a1, a2, a3, a4, a5, a6, by omega, a8⟩,
    fun c hc => by have := h.csa c hc; omega, h.nx1, by have := h.nx2; omega⟩
theorem lack_ch (bl : Int) (ch : List Int) (h : ch.length ≤ ((bl + 7) / 8).toNat) : ch.length + lack bl ch = ((bl + 7) / 8).toNat := by unfold lack; omega
theorem VOk.grow {S : Vst} {n : Nat} {v : Vo} {cp : Int} (hn : n ≤ 1000) (svr : Rise Prod.fst S.sv) (sva : ∀ x ∈ S.sv, 0 ≤ x.1 ∧ x.1 ≤ 15 ∧ 1 ≤ x.2 ∧ x.2 ≤ 64) (vsr : Rise Vo.id S.vs)
    (vsa : ∀ v ∈ S.vs, 0 ≤ v.id ∧ v.id ≤ 63 ∧ 1 ≤ v.bl ∧ v.bl ≤ 512 ∧ v.ch.length = ((v.bl + 7) / 8).toNat ∧ 1 ≤ v.ver ∧ v.ver ≤ 1 + n ∧ ∀ k ∈ v.ch, i64ok k)
    (hc : COk S.cs S.nx (1 + n)) (n1 : 1 ≤ S.nx) (n2 : S.nx ≤ 1 + 64 * n) (h1 : 0 ≤ v.id ∧ v.id ≤ 63) (h2 : 1 ≤ v.bl ∧ v.bl ≤ 512) (h3 : v.ch.length ≤ ((v.bl + 7) / 8).toNat)
    (h4 : 1 ≤ v.ver ∧ v.ver ≤ 1 + n) (h5 : ∀ k ∈ v.ch, i64ok k) (hcp : cp ≤ 4) : VOk (S.grow v cp) (n + 1) := by
  have hl := lack_le2 v.bl v.ch h2.2
  have hlc := lack_ch v.bl v.ch h3
  obtain ⟨g1, g2, g3, g4⟩ := growN_sv (lack v.bl v.ch) S v.id v.ch cp
  obtain ⟨r1, r2, r3, _, _, _⟩ := growN_all (P := fun c => 1 ≤ c.id ∧ 1 ≤ c.ep ∧ c.ep ≤ 1 + (n : Int) ∧ c.me.length + c.jo.length ≤ 4) (id := v.id) (cp := cp) (lack v.bl v.ch) v.ch hc.rise (fun c h => (hc.all c h).2.1)
    (fun c h => by have := hc.all c h; exact ⟨by omega, by omega, by omega, by omega⟩)
    (fun X _ hX _ => ⟨by simp only []; omega, by simp, by simp only []; omega, by
      have := chosen_le X.loads (min cp S.sv.length)
      simp only [List.length_nil]
      omega⟩)
  unfold Vst.grow
  simp only []
  rw [g2]
  refine ⟨by simp only []; rw [g1]; exact svr, by simp only []; rw [g1]; exact sva, vsr.ins _, r1, fun x hx => ?_, fun c hcc => ?_, by simp only []; rw [g3]; omega, by simp only []; rw [g3]; omega⟩
  · rcases (mem_ins vsr).1 hx with rfl | ⟨hx, _⟩
    · refine ⟨h1.1, h1.2, h2.1, h2.2, ?_, h4.1, by simp only []; omega, fun k hk => ?_⟩
      · simp only []
        rw [g4, List.length_append, List.length_map, List.length_range]
        exact hlc
      · simp only [] at hk
        rw [g4] at hk
        rcases List.mem_append.1 hk with hk | hk
        · exact h5 k hk
        · obtain ⟨i, hi, rfl⟩ := List.mem_map.1 hk
          have := List.mem_range.1 hi
          unfold i64ok
          omega
    · obtain ⟨a1, a2, a3, a4, a5, a6, a7, a8⟩ := vsa x hx
      exact ⟨a1, a2, a3, a4, a5, a6, by omega, a8⟩
  · have h8 := r2 c hcc
    have h9 := r3 c hcc
    refine ⟨h9.1, by simp only []; rw [g3]; exact h8, h9.2.1, by omega, h9.2.2.2⟩
theorem VOk.turn {S : Vst} {n : Nat} {k : Ck} (h : VOk S n) (h1 : 1 ≤ k.id ∧ k.id < S.nx) (h2 : 1 ≤ k.ep ∧ k.ep ≤ 1 + n) (h3 : k.me.length + k.jo.length ≤ 4) : VOk (S.turn k) (n + 1) := by
  have h' := h.more (Nat.le_succ n)
  unfold Vst.turn
  refine ⟨h'.svr, h'.sva, h'.vsr, h.csr.ins _, h'.vsa, fun c hc => ?_, h'.nx1, h'.nx2⟩
  rcases (mem_ins h.csr).1 hc with rfl | ⟨hc, _⟩
  · exact ⟨h1.1, h1.2, by simp only []; omega, by simp only []; omega, h3⟩
  · exact h'.csa c hc
theorem at_ok {S : Vst} {a b : Int} {k : Ck} (h : S.at_ a b = .ok k) : fd Ck.id S.cs a = some k ∧ k.ep = b := by
  unfold Vst.at_ at h
  split at h
  · cases h
  · split at h
    · injection h with h; subst h; exact ⟨by assumption, by assumption⟩
    · cases h
theorem wout_len (l : List Int) (s : Int) : (wout l s).length ≤ l.length := List.length_filter_le _ _
theorem wout_lt {l : List Int} {s : Int} (h : l.contains s = true) : (wout l s).length < l.length := by
  unfold wout
  rw [List.contains_iff_mem] at h
  induction l with
  | nil => cases h
  | cons x t ih =>
    rw [List.filter_cons]
    rcases List.mem_cons.1 h with rfl | h
    · have := List.length_filter_le (fun k => k != s) t
      simp
      omega
    · have := ih h
      split <;> simp <;> omega
theorem VOk.cp {S : Vst} {n : Nat} (h : VOk S n) (ch : List Int) : 0 ≤ copiesOf S.cs ch ∧ copiesOf S.cs ch ≤ 4 := by
  unfold copiesOf
  split
  · omega
  · split
    · rename_i c hc
      have := h.csa c (fd_some hc).1
      omega
    · omega
theorem VOk.act {S : Vst} {n : Nat} (h : VOk S n) (hn : n ≤ 1000) (q : Cmd) : VOk (S.act q).1 (n + 1) := by
  have h' := h.more (Nat.le_succ n)
  unfold Vst.act
  split
  · unfold Vst.server
    split
    · rename_i hq
      refine ⟨h.svr.ins _, fun x hx => ?_, h'.vsr, h'.csr, h'.vsa, h'.csa, h'.nx1, h'.nx2⟩
      rcases (mem_ins h.svr).1 hx with rfl | ⟨hx, _⟩
      · exact hq
      · exact h.sva x hx
    · exact h'
  split
  · unfold Vst.create
    split
    · rename_i hq
      split
      · exact h'
      · split
        · exact h'
        · exact VOk.grow hn h.svr h.sva h.vsr h.vsa h.co h.nx1 h.nx2 ⟨hq.1, hq.2.1⟩ ⟨hq.2.2.1, hq.2.2.2.1⟩ (by simp) ⟨by simp, by simp only []; omega⟩ (by simp) (by omega)
    · exact h'
  split
  · unfold Vst.remove
    split
    · exact h'
    · refine ⟨h'.svr, h'.sva, h.vsr.out _, outs_rise h.csr, fun v hv => h'.vsa v (mem_out.1 hv).1, fun c hc => h'.csa c (mem_outs.1 hc).1, h'.nx1, h'.nx2⟩
  split
  · unfold Vst.resize
    split
    · rename_i hq
      split
      · exact h'
      · rename_i v hv
        have hv1 := h.vsa v (fd_some hv).1
        refine VOk.grow hn h.svr h.sva h.vsr h.vsa (h.co.outs _) h.nx1 h.nx2 ⟨hv1.1, hv1.2.1⟩ hq ?_ ⟨hv1.2.2.2.2.2.1, hv1.2.2.2.2.2.2.1⟩ (fun k hk => hv1.2.2.2.2.2.2.2 k (List.mem_of_mem_take hk)) (h.cp _).2
        simp only []
        rw [List.length_take]
        omega
    · exact h'
  split
  · unfold Vst.policy
    split
    · split
      · exact h'
      · rename_i v hv
        have hv1 := h.vsa v (fd_some hv).1
        refine ⟨h'.svr, h'.sva, h.vsr.ins _, h'.csr, fun x hx => ?_, h'.csa, h'.nx1, h'.nx2⟩
        rcases (mem_ins h.vsr).1 hx with rfl | ⟨hx, _⟩
        · obtain ⟨a1, a2, a3, a4, a5, a6, a7, a8⟩ := hv1
          exact ⟨a1, a2, a3, a4, a5, by simp only []; omega, by simp only []; omega, a8⟩
        · exact h'.vsa x hx
    · exact h'
  split
  · unfold Vst.drop
    split
    · exact h'
    · rename_i k hk
      have hk1 := h.csa k (fd_some (at_ok hk).1).1
      split
      · exact h'
      · split
        · exact h'
        · refine h.turn ⟨hk1.1, hk1.2.1⟩ ⟨hk1.2.2.1, hk1.2.2.2.1⟩ ?_
          have := wout_len k.me q.c
          have := wout_len k.jo q.c
          simp only []
          omega
  split
  · unfold Vst.join
    split
    · exact h'
    · split
      · exact h'
      · rename_i k hk
        have hk1 := h.csa k (fd_some (at_ok hk).1).1
        split
        · exact h'
        · split
          · exact h'
          · refine h.turn ⟨hk1.1, hk1.2.1⟩ ⟨hk1.2.2.1, hk1.2.2.2.1⟩ ?_
            simp only [List.length_append, List.length_singleton]
            omega
  split
  · unfold Vst.promote
    split
    · exact h'
    · rename_i k hk
      have hk1 := h.csa k (fd_some (at_ok hk).1).1
      split
      · exact h'
      · rename_i hc
        have := wout_lt (l := k.jo) (s := q.c) (by simpa using hc)
        refine h.turn ⟨hk1.1, hk1.2.1⟩ ⟨hk1.2.2.1, hk1.2.2.2.1⟩ ?_
        simp only [List.length_append, List.length_singleton]
        omega
  · exact h'
theorem VOk.apply {S : Vst} {n : Nat} (h : VOk S n) (hn : n ≤ 1000) (q : Cmd) : VOk (S.apply q).1 (n + 1) := by
  have h' := h.more (Nat.le_succ n)
  unfold Vst.apply
  simp only []
  split
  · split
    · exact h.act hn q
    · exact h'
  · exact h'
theorem VOk.lens {S : Vst} {n : Nat} (h : VOk S n) (hn : n ≤ 1001) : S.sv.length ≤ 16 ∧ S.vs.length ≤ 64 ∧ S.cs.length ≤ 70000 ∧ S.nx ≤ 70000 := by
  have h1 := rise_len (a := 0) (b := 16) h.svr (fun x hx => by have := h.sva x hx; omega)
  have h2 := rise_len (a := 0) (b := 64) h.vsr (fun x hx => by have := h.vsa x hx; omega)
  have h3 := rise_len (a := 1) (b := S.nx) h.csr (fun x hx => by have := h.csa x hx; omega)
  have := h.nx2
  omega
end Go.Proofs.YtanfdnpnkdiiiaaGreat
