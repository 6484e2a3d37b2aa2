/- One text of: Loc. -/
import Derived.Test.YtanfdnpnkdiiiaaGreatQCl9
namespace Go.Proofs.YtanfdnpnkdiiiaaGreat
open Go.RowKit Go.Proofs Go.Maps
set_option linter.unusedVariables false
set_option linter.unusedSimpArgs false

/-- blocks of other types than the client's -/
def Alien (w : World) (G : List Nat) : Prop := ∀ g ∈ G, ∃ t cs, Blk w g t cs ∧ t ≠ 62 ∧ t ≠ 82 ∧ t ≠ 128 ∧ t ≠ 5 ∧ t ≠ 40
theorem Alien.map {w : World} {G : List Nat} (h : Alien w G) {m c : Nat} {f : Int → Option Value} (hm : GM w m c f) : m ∉ G := fun hx => by
  obtain ⟨t, cs, hb, _⟩ := h m hx
  obtain ⟨D, ⟨es, clock, h1, _⟩, _⟩ := hm
  unfold Blk at hb
  rw [h1] at hb
  cases hb
theorem Alien.ctab {w : World} {G : List Nat} (h : Alien w G) {m n : Nat} {f : Int → Cnt} (hm : Ctab w m n f) : m ∉ G := by
  obtain ⟨c, g, hg, _⟩ := hm
  exact h.map hg
theorem Alien.blk {w : World} {G : List Nat} (h : Alien w G) {b : Nat} {t : TypeId} {cs : List Value} (hb : Blk w b t cs) (ht : t = 62 ∨ t = 82 ∨ t = 128) : b ∉ G := fun hx => by
  obtain ⟨t', cs', hb', h1, h2, h3, _⟩ := h b hx
  have e := (hb.one hb').2
  rcases ht with rfl | rfl | rfl
  · exact h1 e.symm
  · exact h2 e.symm
  · exact h3 e.symm
theorem Alien.row {w : World} {G : List Nat} (h : Alien w G) {e : TypeId} {s n : Nat} {v : Value} {xs : List Value} (ho : w.ownsRow 0 e s v n xs) (he : e = 5 ∨ e = 40) : ∀ g, v.ownBlock = some g → g ∉ G := fun g hg hx => by
  obtain ⟨t', cs', hb', _, _, _, h4, h5⟩ := h g hx
  rcases ho.2 with ⟨rfl, _⟩ | ⟨g2, cap, cur, rfl, _, hgg, _⟩
  · cases hg
  · simp only [Value.ownBlock, Option.some.injEq] at hg
    subst hg
    unfold Blk at hb'
    rw [hgg] at hb'
    injection hb' with hb'
    injection hb' with q1 q2
    rcases he with rfl | rfl
    · exact h4 q2.symm
    · exact h5 q2.symm
theorem CM.local {w w' : World} {F G : List Nat} {c n : Nat} {S : Vw} {pr : Prim} {X : Cl} (h : CM w F c (some S) pr n X) (ha : X.ans = none) (ho : X.out = []) (hv : VF (G ++ F) w S.1 S.2) (hG : Alien w G) (hc : Chg G w w') :
    CM w' F c (some S) pr n X ∧ VF (G ++ F) w' S.1 S.2 := by
  obtain ⟨xp, mt, cur, ans, out, Ft, Fc, Fa, Fo, h⟩ := h
  have hv' : VF (G ++ F) w' S.1 S.2 := hv.chg hc (fun z hz => Or.inl (List.mem_append_left _ hz))
  have hcG : c ∉ G := hG.blk h.blk (Or.inl rfl)
  have hTt : ∀ z ∈ Ft, z ∉ G := by
    have ht := h.tr
    rcases ht with ⟨rfl, h1, _⟩ | ⟨tb, Fu, rfl, h1, h2, h3⟩
    · intro z hz; rw [List.mem_singleton.1 hz]; exact hG.map h1
    · intro z hz
      rcases List.mem_cons.1 hz with rfl | hz
      · exact hG.map h1
      · rcases h3 with ⟨rfl, _, h4⟩ | ⟨m1, m2, rfl, _, h4, h5, h6⟩
        · rw [List.mem_singleton.1 hz]; exact hG.blk h4 (Or.inr (Or.inr rfl))
        · simp only [List.mem_cons, List.not_mem_nil, or_false] at hz
          rcases hz with rfl | rfl | rfl
          · exact hG.blk h4 (Or.inr (Or.inr rfl))
          · exact hG.ctab h5
          · exact hG.ctab h6
  have hcu : CurM w pr Fc cur X.cur := h.cu
  have hTc : ∀ z ∈ Fc, z ∉ G := by
    cases hk : X.cur with
    | none => rw [hk] at hcu; obtain ⟨_, rfl⟩ := hcu; simp
    | some k =>
      rw [hk] at hcu
      obtain ⟨ma, Fb, rfl, ⟨cb, rv, B, cB, bl, _, rfl, hb, _, _, hr⟩, hask⟩ := hcu
      intro z hz
      rcases List.mem_cons.1 hz with rfl | hz
      · unfold Asked at hask
        split at hask
        · exact hG.map hask
        · exact hG.map hask
      · rcases List.mem_cons.1 hz with rfl | hz
        · exact hG.blk hb (Or.inr (Or.inl rfl))
        · exact hG.row hr (Or.inl rfl) z (by simpa using hz)
  have han := h.an
  rw [ha] at han
  have hou := h.ou
  rw [ho] at hou
  obtain ⟨P, hP, how, hFo, _⟩ := hou
  have hPn : P = [] := by simpa using hP
  subst hPn
  refine ⟨⟨xp, mt, cur, ans, out, Ft, Fc, Fa, Fo, ⟨h.blk.chg hc hcG, h.eF, h.nd, fun z hz => Nat.lt_of_lt_of_le (h.lt z hz) hc.size, ?_, h.tr.chg hc hTt, CurM.chg hcu hc hTc, ?_, ?_⟩⟩, hv'⟩
  · exact ⟨h.st.1, hv'.sub (fun z hz => List.mem_append_right _ hz)⟩
  · rw [ha]; exact han
  · rw [ho]
    exact ⟨[], rfl, own_chg how hc (hG.row how (Or.inr rfl)), hFo, by simp⟩
theorem CM.vf {w : World} {F : List Nat} {c n : Nat} {S : Vw} {pr : Prim} {X : Cl} (h : CM w F c (some S) pr n X) : VF F w S.1 S.2 := by
  obtain ⟨_, _, _, _, _, _, _, _, _, h⟩ := h
  exact h.st.2
theorem VF.step {w w' : World} {G F F' : List Nat} {b : Nat} {S : Vst} (h : VF (G ++ F) w b S) (hc : Chg F w w') (hF : ∀ z ∈ F', z ∈ F ∨ w.heap.size ≤ z) (hl : ∀ z ∈ F', z < w'.heap.size) (hG : ∀ g ∈ G, g < w'.heap.size) : VF (G ++ F') w' b S :=
  h.grow hc (fun z hz => Or.inl (List.mem_append_right _ hz)) (fun z hz => by
    rcases List.mem_append.1 hz with hz | hz
    · exact ⟨Or.inl (List.mem_append_left _ hz), hG z hz⟩
    · exact ⟨(hF z hz).imp (List.mem_append_right _) id, hl z hz⟩)
theorem notin_step {F F' : List Nat} {g s : Nat} (h : g ∉ F) (hg : g < s) (hF : ∀ z ∈ F', z ∈ F ∨ s ≤ z) : g ∉ F' := fun hx => by
  rcases hF g hx with h1 | h1
  · exact h h1
  · omega
end Go.Proofs.YtanfdnpnkdiiiaaGreat
