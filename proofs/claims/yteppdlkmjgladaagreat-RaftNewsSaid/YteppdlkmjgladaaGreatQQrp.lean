/- One text of: Qrp. -/
import Derived.Test.YteppdlkmjgladaaGreatQQA
namespace Go.Proofs.YteppdlkmjgladaaGreat
open Go.RowKit Go.Proofs Go.Maps
set_option linter.unusedVariables false
set_option linter.unusedSimpArgs false

def ebytes (t k : Nat) (b : List Nat) : List Nat := enc t ++ enc k ++ encT b
theorem ebytes_ok {t k : Nat} {b : List Nat} (ht : t < 2 ^ 60) (hk : k < 2 ^ 60) (hb : ∀ x ∈ b, x < 256) (hl : b.length ≤ 100000) : (ebytes t k b).length ≤ b.length + 27 ∧ ∀ x ∈ ebytes t k b, x < 256 := by
  have h1 := enc_len9 (n := t) (by omega)
  have h2 := enc_len9 (n := k) (by omega)
  have h3 := enc_len9 (n := b.length) (by omega)
  refine ⟨by unfold ebytes encT; simp only [List.length_append]; omega, fun x hx => ?_⟩
  unfold ebytes encT at hx
  simp only [List.mem_append] at hx
  rcases hx with (hx | hx) | (hx | hx)
  · exact enc_byte _ x hx
  · exact enc_byte _ x hx
  · exact enc_byte _ x hx
  · exact hb x hx
section
variable {w : World} {no : List Nat} {A B : Option Addr} {c d : Nat}
set_option maxHeartbeats 1000000 in
theorem entb_calls (t k : Nat) {b : List Nat} (hb : Rb w [] A c b) (ht : t < 2 ^ 60) (hk : k < 2 ^ 60) (hl : b.length ≤ 100000) :
    Calls Tryz.prog 87 #[.agg #[.int .i64 t, .int .i64 k, .slice A b.length c]] w fun e w' => ∃ A' c', e = .returned (.slice A' (ebytes t k b).length c') ∧ OwnB w w' A' c' (ebytes t k b) ∧ Below w.heap.size w w' := by
  have hlen := enc_len9 (n := t) (by omega)
  have hlen2 := enc_len9 (n := k) (by omega)
  have hlen3 := enc_len9 (n := b.length) (by omega)
  obtain ⟨R, hR⟩ : ∃ R, ebytes t k b = R := ⟨_, rfl⟩
  rw [hR]
  obtain ⟨w0, hw0⟩ : ∃ w0, w.alloc (.cells #[.int .i64 t, .int .i64 k, .slice A b.length c] 73) = w0 := ⟨_, rfl⟩
  obtain ⟨xb, hxb⟩ : ∃ xb, w.heap.size = xb := ⟨_, rfl⟩
  have hb0 : Below w.heap.size w w0 := hw0 ▸ belowL (Below.refl _ _) _
  have bX : Blk w0 xb 73 [.int .i64 t, .int .i64 k, .slice A b.length c] := by rw [← hw0, ← hxb]; exact Blk.new rfl
  obtain ⟨w1, hw1⟩ : ∃ w1, w0.alloc (.cells #[.slice none 0 0] 156) = w1 := ⟨_, rfl⟩
  obtain ⟨wb, hwb⟩ : ∃ wb, xb + 1 = wb := ⟨_, rfl⟩
  have hwb' : w0.heap.size = wb := by rw [← hw0, ← hwb, ← hxb]; simp
  have hwf : Wf w0 w1 wb [] := by rw [← hw1, ← hwb']; exact Wf.new (Below.refl _ _)
  have HW := hide (And.intro hw0 (And.intro hxb (And.intro hw1 hwb)))
  have HB0 := hide hb0
  have HX := hide bX
  have HN1 := hide (hwf.num t (by omega) (by simp))
  have y0 := HX.out.rule 0 _ rfl w1 hwf.be
  have HL := hide (And.intro hlen (And.intro hlen2 (And.intro hlen3 (And.intro (hb.below hb0) (And.intro hl (And.intro hR hk))))))
  clear hlen hlen2 hlen3 hb hl hR hw0 hxb hb0 bX hw1 hwb hwb' hwf ht hk
  go_enter Tryz.func87, Tryz.ntmps87
  go_upto_region 2 with fail
  (try rw [HW.out.1])
  (try rw [HW.out.2.1])
  (try rw [HW.out.2.2.1])
  (try rw [HW.out.2.2.2])
  go_wp2_with fail
  with_reducible refine HN1.out.mono ?_
  rintro e w2 ⟨rfl, hf2⟩
  rw [List.nil_append] at hf2
  have y1 := HX.out.rule 1 _ rfl w2 hf2.be
  have HN2 := hide (hf2.num k (by have := HL.out.2.2.2.2.2.2; omega) (by have := HL.out.1; omega))
  clear hf2 HN1 y0
  go_wp2_with fail
  with_reducible refine HN2.out.mono ?_
  rintro e w3 ⟨rfl, hf3⟩
  have y2 := HX.out.rule 2 _ rfl w3 hf3.be
  have HT := hide (hf3.text HL.out.2.2.2.1 (by rw [List.length_append]; have := HL.out; omega) (by have := HL.out.2.2.2.2.1; omega))
  clear hf3 HN2 y1
  go_wp2_with fail
  with_reducible refine HT.out.mono ?_
  rintro e w4 ⟨rfl, hf4⟩
  rw [show enc t ++ enc k ++ encT b = R from HL.out.2.2.2.2.2.1] at hf4
  have HBY := hide (hf4.bytes (by rw [← HL.out.2.2.2.2.2.1]; unfold ebytes encT; simp only [List.length_append]; have := HL.out; omega))
  clear hf4 HT y2
  go_wp2_with fail
  with_reducible refine HBY.out.mono ?_
  rintro e w5 ⟨A5, c5, rfl, ho5, hb5⟩
  have H5 := hide (And.intro (ho5.back HB0.out.size) (belowA hb5 HB0.out))
  clear ho5 hb5 HBY
  go_wp2
  go_ret
  exact ⟨A5, c5, rfl, H5.out⟩
def bbytes (t v : Int) : List Nat := enc t.toNat ++ enc (v + 1).toNat
theorem bbytes_ok {t v : Int} (ht : t < 2 ^ 60) (hv : v < 2 ^ 60) : (bbytes t v).length ≤ 18 ∧ ∀ x ∈ bbytes t v, x < 256 := by
  have h1 := enc_len9 (n := t.toNat) (by omega)
  have h2 := enc_len9 (n := (v + 1).toNat) (by omega)
  refine ⟨by unfold bbytes; rw [List.length_append]; omega, fun x hx => ?_⟩
  rcases List.mem_append.1 hx with hx | hx
  · exact enc_byte _ x hx
  · exact enc_byte _ x hx
set_option maxHeartbeats 1000000 in
theorem ballb_calls (t v : Int) (ht : 0 ≤ t ∧ t < 2 ^ 60) (hv : -1 ≤ v ∧ v < 2 ^ 60) :
    Calls Tryz.prog 105 #[.agg #[.int .i64 t, .int .i64 v]] w fun e w' => ∃ A' c', e = .returned (.slice A' (bbytes t v).length c') ∧ OwnB w w' A' c' (bbytes t v) ∧ Below w.heap.size w w' := by
  obtain ⟨n, rfl⟩ : ∃ n : Nat, t = n := ⟨t.toNat, by omega⟩
  obtain ⟨m, rfl⟩ : ∃ m : Nat, v = (m : Int) - 1 := ⟨(v + 1).toNat, by omega⟩
  have hlen := enc_len9 (n := n) (by omega)
  have hlen2 := enc_len9 (n := m) (by omega)
  obtain ⟨R, hR⟩ : ∃ R, bbytes n ((m : Int) - 1) = R := ⟨_, rfl⟩
  rw [hR]
  obtain ⟨v, hvm⟩ : ∃ v, (m : Int) - 1 = v := ⟨_, rfl⟩
  rw [hvm] at hR ⊢
  have q1 : IntKind.i64.wrap (v + 1) = (m : Int) := by rw [IntWalk.i64_in _ (by omega)]; omega
  have hRe : enc n ++ enc m = R := by rw [← hR, bbytes, Int.toNat_natCast, show v + 1 = (m : Int) by omega, Int.toNat_natCast]
  obtain ⟨w0, hw0⟩ : ∃ w0, w.alloc (.cells #[.int .i64 n, .int .i64 v] 90) = w0 := ⟨_, rfl⟩
  obtain ⟨xb, hxb⟩ : ∃ xb, w.heap.size = xb := ⟨_, rfl⟩
  have hb0 : Below w.heap.size w w0 := hw0 ▸ belowL (Below.refl _ _) _
  have bX : Blk w0 xb 90 [.int .i64 n, .int .i64 v] := by rw [← hw0, ← hxb]; exact Blk.new rfl
  obtain ⟨w1, hw1⟩ : ∃ w1, w0.alloc (.cells #[.slice none 0 0] 156) = w1 := ⟨_, rfl⟩
  obtain ⟨wb, hwb⟩ : ∃ wb, xb + 1 = wb := ⟨_, rfl⟩
  have hwb' : w0.heap.size = wb := by rw [← hw0, ← hwb, ← hxb]; simp
  have hwf : Wf w0 w1 wb [] := by rw [← hw1, ← hwb']; exact Wf.new (Below.refl _ _)
  have HW := hide (And.intro hw0 (And.intro hxb (And.intro hw1 hwb)))
  have HB0 := hide hb0
  have HX := hide bX
  have HN1 := hide (hwf.num n (by omega) (by simp))
  have y0 := HX.out.rule 0 _ rfl w1 hwf.be
  have HL := hide (And.intro hlen (And.intro hlen2 (And.intro hRe (show m < 2 ^ 63 by omega))))
  clear hlen hlen2 hR hRe hw0 hxb hb0 bX hw1 hwb hwb' hwf hvm ht hv
  go_enter Tryz.func105, Tryz.ntmps105
  go_upto_region 2 with fail
  (try rw [HW.out.1])
  (try rw [HW.out.2.1])
  (try rw [HW.out.2.2.1])
  (try rw [HW.out.2.2.2])
  go_wp2_with fail
  with_reducible refine HN1.out.mono ?_
  rintro e w2 ⟨rfl, hf2⟩
  rw [List.nil_append] at hf2
  have y1 := HX.out.rule 1 _ rfl w2 hf2.be
  have HN2 := hide (hf2.num m HL.out.2.2.2 (by have := HL.out.1; omega))
  clear hf2 HN1 y0
  go_wp2_with fail
  with_reducible refine HN2.out.mono ?_
  rintro e w4 ⟨rfl, hf4⟩
  rw [HL.out.2.2.1] at hf4
  have HBY := hide (hf4.bytes (by rw [← HL.out.2.2.1, List.length_append]; have := HL.out; omega))
  clear hf4 HN2 y1
  go_wp2_with fail
  with_reducible refine HBY.out.mono ?_
  rintro e w5 ⟨A5, c5, rfl, ho5, hb5⟩
  have H5 := hide (And.intro (ho5.back HB0.out.size) (belowA hb5 HB0.out))
  clear ho5 hb5 HBY
  go_wp2
  go_ret
  exact ⟨A5, c5, rfl, H5.out⟩
def sbytes (i t : Nat) (m : List Int) (b : List Nat) : List Nat := enc i ++ enc t ++ encT (qbytes m) ++ encT b
set_option maxHeartbeats 1000000 in
theorem snapb_calls (i t : Nat) {l : List Int} {b : List Nat} (hm : Sl w no A c l) (hml : l.length ≤ 7) (hmx : ∀ x ∈ l, 0 ≤ x ∧ x ≤ 15) (hb : Rb w [] B d b) (ht : t < 2 ^ 60) (hi : i < 2 ^ 60) (hl : b.length ≤ 100000) :
    Calls Tryz.prog 37 #[.agg #[.int .i64 i, .int .i64 t, .slice A l.length c, .slice B b.length d]] w fun e w' => ∃ A' c', e = .returned (.slice A' (sbytes i t l b).length c') ∧ OwnB w w' A' c' (sbytes i t l b) ∧ Below w.heap.size w w' := by
  have hlen := enc_len9 (n := t) (by omega)
  have hlen2 := enc_len9 (n := i) (by omega)
  have hlen3 := enc_len9 (n := b.length) (by omega)
  have hq := (qbytes_len hml hmx).1
  have hlen4 := enc_len9 (n := (qbytes l).length) (by omega)
  obtain ⟨R, hR⟩ : ∃ R, sbytes i t l b = R := ⟨_, rfl⟩
  rw [hR]
  obtain ⟨w0, hw0⟩ : ∃ w0, w.alloc (.cells #[.int .i64 i, .int .i64 t, .slice A l.length c, .slice B b.length d] 93) = w0 := ⟨_, rfl⟩
  obtain ⟨xb, hxb⟩ : ∃ xb, w.heap.size = xb := ⟨_, rfl⟩
  have hb0 : Below w.heap.size w w0 := hw0 ▸ belowL (Below.refl _ _) _
  have bX : Blk w0 xb 93 [.int .i64 i, .int .i64 t, .slice A l.length c, .slice B b.length d] := by rw [← hw0, ← hxb]; exact Blk.new rfl
  obtain ⟨w1, hw1⟩ : ∃ w1, w0.alloc (.cells #[.slice none 0 0] 156) = w1 := ⟨_, rfl⟩
  obtain ⟨wb, hwb⟩ : ∃ wb, xb + 1 = wb := ⟨_, rfl⟩
  have hwb' : w0.heap.size = wb := by rw [← hw0, ← hwb, ← hxb]; simp
  have hwf : Wf w0 w1 wb [] := by rw [← hw1, ← hwb']; exact Wf.new (Below.refl _ _)
  have HW := hide (And.intro hw0 (And.intro hxb (And.intro hw1 hwb)))
  have HB0 := hide hb0
  have HX := hide bX
  have HN1 := hide (hwf.num i (by omega) (by simp))
  have y0 := HX.out.rule 0 _ rfl w1 hwf.be
  have HL := hide (And.intro hlen (And.intro hlen2 (And.intro hlen3 (And.intro (hb.below hb0) (And.intro hl (And.intro hR (And.intro ht (And.intro hq hlen4))))))))
  have HM := hide (And.intro (hm.below hb0) (And.intro hml hmx))
  clear hlen hlen2 hlen3 hlen4 hq hb hl hR hw0 hxb hb0 bX hw1 hwb hwb' hwf ht hi hm hml hmx
  go_enter Tryz.func37, Tryz.ntmps37
  go_upto_region 2 with fail
  (try rw [HW.out.1])
  (try rw [HW.out.2.1])
  (try rw [HW.out.2.2.1])
  (try rw [HW.out.2.2.2])
  go_wp2_with fail
  with_reducible refine HN1.out.mono ?_
  rintro e w2 ⟨rfl, hf2⟩
  rw [List.nil_append] at hf2
  have y1 := HX.out.rule 1 _ rfl w2 hf2.be
  have HN2 := hide (hf2.num t (by have := HL.out.2.2.2.2.2.2.1; omega) (by have := HL.out.2.1; omega))
  clear hf2 HN1 y0
  go_wp2_with fail
  with_reducible refine HN2.out.mono ?_
  rintro e w3 ⟨rfl, hf3⟩
  have y2 := HX.out.rule 2 _ rfl w3 hf3.be
  have HQB := hide (qbytes_calls (HM.out.1.below hf3.be) HM.out.2.1 HM.out.2.2)
  have H3 := hide hf3
  clear hf3 HN2 y1
  go_wp2_with fail
  with_reducible refine HQB.out.mono ?_
  rintro e w4 ⟨A4, c4, rfl, ho4, hb4⟩
  have HT := hide (H3.out.textN hb4 ho4 (by rw [List.length_append]; have := HL.out; omega) (by have := HL.out; omega))
  clear ho4 hb4 HQB y2
  go_wp2_with fail
  with_reducible refine HT.out.mono ?_
  rintro e w5 ⟨rfl, hf5⟩
  have y3 := HX.out.rule 3 _ rfl w5 hf5.be
  have HT2 := hide (hf5.text HL.out.2.2.2.1 (by unfold encT; simp only [List.length_append]; have := HL.out; omega) (by have := HL.out.2.2.2.2.1; omega))
  clear hf5 HT H3
  go_wp2_with fail
  with_reducible refine HT2.out.mono ?_
  rintro e w6 ⟨rfl, hf6⟩
  rw [show enc i ++ enc t ++ encT (qbytes l) ++ encT b = R from HL.out.2.2.2.2.2.1] at hf6
  have HBY := hide (hf6.bytes (by rw [← HL.out.2.2.2.2.2.1]; unfold sbytes encT; simp only [List.length_append]; have := HL.out; omega))
  clear hf6 HT2 y3
  go_wp2_with fail
  with_reducible refine HBY.out.mono ?_
  rintro e w7 ⟨A5, c5, rfl, ho5, hb5⟩
  have H5 := hide (And.intro (ho5.back HB0.out.size) (belowA hb5 HB0.out))
  clear ho5 hb5 HBY
  go_wp2
  go_ret
  exact ⟨A5, c5, rfl, H5.out⟩
set_option maxHeartbeats 400000 in
theorem bstand_calls (t v me : Int) (ht : 0 ≤ t ∧ t < 2 ^ 60) : Calls Tryz.prog 106 #[.agg #[.int .i64 t, .int .i64 v], .int .i64 me] w fun e w' => e = .returned (.agg #[.int .i64 (t + 1), .int .i64 me]) ∧ Below w.heap.size w w' := by
  have q1 : IntKind.i64.wrap (t + 1) = t + 1 := IntWalk.i64_in _ (by omega)
  have r0 := Below.refl w.heap.size w
  clear ht
  go_enter Tryz.func106, Tryz.ntmps106
  go_wp2
  exact bodyPost_ret (v := .agg #[.int .i64 (t + 1), .int .i64 me]) (by simp [results, Tryz.results106, go_sem, *]) rfl ⟨rfl, belowL (belowL r0 _) _⟩
set_option maxHeartbeats 1000000 in
set_option maxRecDepth 100000 in
theorem rright_calls {l : List Int} (h : Sl w no A c l) : Calls Tryz.prog 11 #[.slice A l.length c] w fun e w' => e = .returned (.bool (decide (RightP l))) ∧ Below w.heap.size w w' := by
  have hln := h.ln
  have HS := hide h
  obtain ⟨n, hn⟩ : ∃ n, l.length = n := ⟨_, rfl⟩
  have HN := hide hn
  rw [hn] at hln ⊢
  have r0 := Below.refl w.heap.size w
  clear h hn
  by_cases h1 : n < 1
  · have u1 : (n : Int) < 1 := by omega
    have HR : Hid (decide (RightP l) = false) := hide (decide_eq_false (fun h => by have := h.2; rw [HN.out] at this; omega))
    go_enter Tryz.func11, Tryz.ntmps11
    go_wp2
    go_ret
    exact ⟨by rw [HR.out]; rfl, r0⟩
  · have u1 : ¬ (n : Int) < 1 := by omega
    by_cases h2 : 7 < n
    · have u2 : (7 : Int) < n := by omega
      have HR : Hid (decide (RightP l) = false) := hide (decide_eq_false (fun h => by have := h.2; rw [HN.out] at this; omega))
      go_enter Tryz.func11, Tryz.ntmps11
      go_wp2
      go_ret
      exact ⟨by rw [HR.out]; rfl, r0⟩
    · have u2 : ¬ (7 : Int) < n := by omega
      have HH := hide (And.intro h1 h2)
      clear h1 h2
      go_enter Tryz.func11, Tryz.ntmps11
      go_wp2
      go_loopw [3, 12, 13, 14, 15, 16, 17, 18, 19, 20, 21, 22, 23, 24, 25, 26, 27, 28, 29, 30, 31, 32, 33, 34, 35, 36, 37, 38, 39, 40, 41, 42, 43, 44, 45] (fun iv _ _ _ _ _ _ _ _ _ _ _ _ _ _ _ _ _ _ _ _ _ _ _ _ _ _ _ _ _ _ _ _ _ _ wr => ∃ k : Nat, k ≤ n ∧ iv = .int .i64 k ∧ Hid (Below w.heap.size w wr) ∧ Hid (∀ j, j < k → okAt l j)) (fun iv _ _ _ _ _ _ _ _ _ _ _ _ _ _ _ _ _ _ _ _ _ _ _ _ _ _ _ _ _ _ _ _ _ _ _ => n - (Go.RowKit.intOf iv).toNat)
      case atStart => exact ⟨0, Nat.zero_le _, rfl, hide r0, hide (fun j hj => by omega)⟩
      case round =>
        obtain ⟨k, hk, rfl, HB, HOK⟩ := hrel
        by_cases hlt : k < n
        · have i1 : (k : Int) < n := by omega
          have hkl : k < l.length := by rw [HN.out]; exact hlt
          have hs1 := HS.out.below HB.out
          obtain ⟨b, o, rfl, hc⟩ := hs1.get hkl
          obtain ⟨x, hx⟩ : ∃ x, l.getD k 0 = x := ⟨_, rfl⟩
          obtain ⟨y, hy⟩ : ∃ y, l.getD (k - 1) 0 = y := ⟨_, rfl⟩
          have hbl := (hs1.ap _ rfl).2.2
          have g1 : ∀ w', Below wr.heap.size wr w' → w'.cell? ⟨b, o + k, none⟩ = some (.int .i64 x) := fun w' hb => by rw [← hx]; exact (hb.cell (p := ⟨b, o + k, none⟩) hbl).trans (hc k hkl)
          have g2 : ∀ w', Below wr.heap.size wr w' → w'.cell? ⟨b, o + (k - 1), none⟩ = some (.int .i64 y) := fun w' hb => by rw [← hy]; exact (hb.cell (p := ⟨b, o + (k - 1), none⟩) hbl).trans (hc (k - 1) (by omega))
          have HX := hide (And.intro hx hy)
          have bad : ¬ okAt l k → decide (RightP l) = false := fun hb => decide_eq_false (fun hr => hb (hr.1 k (by rw [HN.out]; exact hlt)))
          have HBAD := hide bad
          have rr := Below.refl wr.heap.size wr
          clear hc hx hy bad hs1 hbl hkl
          obtain ⟨m, hm⟩ : ∃ m, k - 1 = m := ⟨_, rfl⟩
          rw [hm] at g2
          have hml : m < n := by omega
          have q1 : 0 < k → IntKind.i64.wrap ((k : Int) - 1) = (m : Int) := fun h => by rw [IntWalk.i64_in _ (by omega)]; omega
          clear hm
          have hcs : (x < 0) ∨ (¬ x < 0 ∧ 15 < x) ∨ (¬ x < 0 ∧ ¬ 15 < x ∧ ¬ (0 : Int) < k) ∨ (¬ x < 0 ∧ ¬ 15 < x ∧ (0 : Int) < k ∧ x ≤ y) ∨ (¬ x < 0 ∧ ¬ 15 < x ∧ (0 : Int) < k ∧ ¬ x ≤ y) := by omega
          have fin : Hid ((¬ (0 ≤ x ∧ x ≤ 15) ∨ (0 < k ∧ x ≤ y) → decide (RightP l) = false) ∧ (0 ≤ x ∧ x ≤ 15 ∧ (0 < k → y < x) → okAt l k)) := hide ⟨fun h => HBAD.out (fun ho => by
            unfold okAt at ho
            rw [HX.out.1, HX.out.2] at ho
            omega), fun h => by unfold okAt; rw [HX.out.1, HX.out.2]; exact ⟨⟨h.1, h.2.1⟩, h.2.2⟩⟩
          clear HBAD HX
          have hcd : (decide (x < 0) = true) ∨ (decide (x < 0) = false ∧ decide (15 < x) = true) ∨ (decide (x < 0) = false ∧ decide (15 < x) = false ∧ decide (0 < k) = false) ∨ (decide (x < 0) = false ∧ decide (15 < x) = false ∧ decide (0 < k) = true ∧ decide (x ≤ y) = true) ∨ (decide (x < 0) = false ∧ decide (15 < x) = false ∧ decide (0 < k) = true ∧ decide (x ≤ y) = false) := by
            simp only [decide_eq_true_eq, decide_eq_false_iff_not]
            omega
          clear hcs
          rcases hcd with c1 | ⟨c1, c2⟩ | ⟨c1, c2, c3⟩ | ⟨c1, c2, c3, c4⟩ | ⟨c1, c2, c3, c4⟩
          all_goals
            (try (have q1 := q1 (of_decide_eq_true c3)))
            go_upto_region 6 with fail
            refine region_lexg (fun w' => Below wr.heap.size wr w') [] 0 [(2, 0), (2, 1), (2, 2), (0, 3), (2, 4), (2, 5), (2, 6), (2, 7), (2, 8), (0, 9), (2, 10), (2, 11), (2, 12), (2, 13), (2, 14), (2, 15), (2, 16), (2, 17), (2, 18), (0, 19), (2, 20), (2, 21), (2, 22), (2, 23), (0, 24), (2, 25), (2, 26), (2, 27)] #[true, true, true, true, true, true, true, true, true, true, true, true, true, true, true, true, true, true, true, true, true, true, true, true, true, true, true, true] (by kernel_rfl) (by kernel_rfl) (by decide) (by kernel_rfl) (by kernel_rfl) (fun _ _ _ _ _ h => h) (by (exact rr.drew)) (fun hS0 => ?_)
            simp only [List.map_cons, List.map_nil, List.getElem?_toArray, List.getElem?_cons_succ, List.getElem?_cons_zero]
            (apply lexg_pure (by rfl); (focus (intro w; go_simp; (try with_reducible rfl); done)); simp only [Act.put, List.setIfInBounds_toArray, List.set_cons_zero, List.set_cons_succ])
            (apply lexg_pure (by rfl); (focus (intro w; go_simp; (try with_reducible rfl); done)); simp only [Act.put, List.setIfInBounds_toArray, List.set_cons_zero, List.set_cons_succ])
            (apply lexg_pure (by rfl); (focus (intro w; go_simp; (try with_reducible rfl); done)); simp only [Act.put, List.setIfInBounds_toArray, List.set_cons_zero, List.set_cons_succ])
            (apply lexg_take (by rfl); (focus (intro w hw; (try dsimp only at hw); go_simp; (try with_reducible rfl); done)); simp only [Act.put, List.setIfInBounds_toArray, List.set_cons_zero, List.set_cons_succ])
            (apply lexg_pure (by rfl); (focus (intro w; go_simp; (try with_reducible rfl); done)); simp only [Act.put, List.setIfInBounds_toArray, List.set_cons_zero, List.set_cons_succ])
            (apply lexg_pure (by rfl); (focus (intro w; go_simp; (try with_reducible rfl); done)); simp only [Act.put, List.setIfInBounds_toArray, List.set_cons_zero, List.set_cons_succ])
            first | (apply lexg_pure (by rfl); (focus (intro w; go_simp; (try with_reducible rfl); done)); simp only [Act.put, List.setIfInBounds_toArray, List.set_cons_zero, List.set_cons_succ]) | (refine lexg_skipP (by rfl) ?_; simp only [Act.put, List.setIfInBounds_toArray, List.set_cons_zero, List.set_cons_succ])
            first | (apply lexg_pure (by rfl); (focus (intro w; go_simp; (try with_reducible rfl); done)); simp only [Act.put, List.setIfInBounds_toArray, List.set_cons_zero, List.set_cons_succ]) | (refine lexg_skipP (by rfl) ?_; simp only [Act.put, List.setIfInBounds_toArray, List.set_cons_zero, List.set_cons_succ])
            first | (apply lexg_pure (by rfl); (focus (intro w; go_simp; (try with_reducible rfl); done)); simp only [Act.put, List.setIfInBounds_toArray, List.set_cons_zero, List.set_cons_succ]) | (refine lexg_skipP (by rfl) ?_; simp only [Act.put, List.setIfInBounds_toArray, List.set_cons_zero, List.set_cons_succ])
            first | (apply lexg_take (by rfl); (focus (intro w hw; (try dsimp only at hw); go_simp; (try with_reducible rfl); done)); simp only [Act.put, List.setIfInBounds_toArray, List.set_cons_zero, List.set_cons_succ]) | (refine lexg_skip (by rfl) ?_; simp only [Act.put, List.setIfInBounds_toArray, List.set_cons_zero, List.set_cons_succ])
            first | (apply lexg_pure (by rfl); (focus (intro w; go_simp; (try with_reducible rfl); done)); simp only [Act.put, List.setIfInBounds_toArray, List.set_cons_zero, List.set_cons_succ]) | (refine lexg_skipP (by rfl) ?_; simp only [Act.put, List.setIfInBounds_toArray, List.set_cons_zero, List.set_cons_succ])
            (apply lexg_pure (by rfl); (focus (intro w; go_simp; (try with_reducible rfl); done)); simp only [Act.put, List.setIfInBounds_toArray, List.set_cons_zero, List.set_cons_succ])
            (apply lexg_pure (by rfl); (focus (intro w; go_simp; (try with_reducible rfl); done)); simp only [Act.put, List.setIfInBounds_toArray, List.set_cons_zero, List.set_cons_succ])
            first | (apply lexg_pure (by rfl); (focus (intro w; go_simp; (try with_reducible rfl); done)); simp only [Act.put, List.setIfInBounds_toArray, List.set_cons_zero, List.set_cons_succ]) | (refine lexg_skipP (by rfl) ?_; simp only [Act.put, List.setIfInBounds_toArray, List.set_cons_zero, List.set_cons_succ])
            first | (apply lexg_pure (by rfl); (focus (intro w; go_simp; (try with_reducible rfl); done)); simp only [Act.put, List.setIfInBounds_toArray, List.set_cons_zero, List.set_cons_succ]) | (refine lexg_skipP (by rfl) ?_; simp only [Act.put, List.setIfInBounds_toArray, List.set_cons_zero, List.set_cons_succ])
            first | (apply lexg_pure (by rfl); (focus (intro w; go_simp; (try with_reducible rfl); done)); simp only [Act.put, List.setIfInBounds_toArray, List.set_cons_zero, List.set_cons_succ]) | (refine lexg_skipP (by rfl) ?_; simp only [Act.put, List.setIfInBounds_toArray, List.set_cons_zero, List.set_cons_succ])
            first | (apply lexg_pure (by rfl); (focus (intro w; go_simp; (try with_reducible rfl); done)); simp only [Act.put, List.setIfInBounds_toArray, List.set_cons_zero, List.set_cons_succ]) | (refine lexg_skipP (by rfl) ?_; simp only [Act.put, List.setIfInBounds_toArray, List.set_cons_zero, List.set_cons_succ])
            first | (apply lexg_pure (by rfl); (focus (intro w; go_simp; (try with_reducible rfl); done)); simp only [Act.put, List.setIfInBounds_toArray, List.set_cons_zero, List.set_cons_succ]) | (refine lexg_skipP (by rfl) ?_; simp only [Act.put, List.setIfInBounds_toArray, List.set_cons_zero, List.set_cons_succ])
            first | (apply lexg_pure (by rfl); (focus (intro w; go_simp; (try with_reducible rfl); done)); simp only [Act.put, List.setIfInBounds_toArray, List.set_cons_zero, List.set_cons_succ]) | (refine lexg_skipP (by rfl) ?_; simp only [Act.put, List.setIfInBounds_toArray, List.set_cons_zero, List.set_cons_succ])
            first | (apply lexg_take (by rfl); (focus (intro w hw; (try dsimp only at hw); go_simp; (try with_reducible rfl); done)); simp only [Act.put, List.setIfInBounds_toArray, List.set_cons_zero, List.set_cons_succ]) | (refine lexg_skip (by rfl) ?_; simp only [Act.put, List.setIfInBounds_toArray, List.set_cons_zero, List.set_cons_succ])
            first | (apply lexg_pure (by rfl); (focus (intro w; go_simp; (try with_reducible rfl); done)); simp only [Act.put, List.setIfInBounds_toArray, List.set_cons_zero, List.set_cons_succ]) | (refine lexg_skipP (by rfl) ?_; simp only [Act.put, List.setIfInBounds_toArray, List.set_cons_zero, List.set_cons_succ])
            first | (apply lexg_pure (by rfl); (focus (intro w; go_simp; (try with_reducible rfl); done)); simp only [Act.put, List.setIfInBounds_toArray, List.set_cons_zero, List.set_cons_succ]) | (refine lexg_skipP (by rfl) ?_; simp only [Act.put, List.setIfInBounds_toArray, List.set_cons_zero, List.set_cons_succ])
            first | (apply lexg_pure (by rfl); (focus (intro w; go_simp; (try with_reducible rfl); done)); simp only [Act.put, List.setIfInBounds_toArray, List.set_cons_zero, List.set_cons_succ]) | (refine lexg_skipP (by rfl) ?_; simp only [Act.put, List.setIfInBounds_toArray, List.set_cons_zero, List.set_cons_succ])
            first | (apply lexg_pure (by rfl); (focus (intro w; go_simp; (try with_reducible rfl); done)); simp only [Act.put, List.setIfInBounds_toArray, List.set_cons_zero, List.set_cons_succ]) | (refine lexg_skipP (by rfl) ?_; simp only [Act.put, List.setIfInBounds_toArray, List.set_cons_zero, List.set_cons_succ])
            first | (apply lexg_take (by rfl); (focus (intro w hw; (try dsimp only at hw); go_simp; (try with_reducible rfl); done)); simp only [Act.put, List.setIfInBounds_toArray, List.set_cons_zero, List.set_cons_succ]) | (refine lexg_skip (by rfl) ?_; simp only [Act.put, List.setIfInBounds_toArray, List.set_cons_zero, List.set_cons_succ])
            first | (apply lexg_pure (by rfl); (focus (intro w; go_simp; (try with_reducible rfl); done)); simp only [Act.put, List.setIfInBounds_toArray, List.set_cons_zero, List.set_cons_succ]) | (refine lexg_skipP (by rfl) ?_; simp only [Act.put, List.setIfInBounds_toArray, List.set_cons_zero, List.set_cons_succ])
            first | (apply lexg_pure (by rfl); (focus (intro w; go_simp; (try with_reducible rfl); done)); simp only [Act.put, List.setIfInBounds_toArray, List.set_cons_zero, List.set_cons_succ]) | (refine lexg_skipP (by rfl) ?_; simp only [Act.put, List.setIfInBounds_toArray, List.set_cons_zero, List.set_cons_succ])
            (apply lexg_pure (by rfl); (focus (intro w; go_simp; (try with_reducible rfl); done)); simp only [Act.put, List.setIfInBounds_toArray, List.set_cons_zero, List.set_cons_succ])
            refine lexg_nil (fun _ => wpAnyG_done (by kernel_rfl) ?_ _)
          · have HE := hide (fin.out.1 (Or.inl (fun h => by have := of_decide_eq_true c1; omega)))
            go_wp2
            go_ret
            exact ⟨by rw [HE.out]; rfl, belowA rr.drew HB.out⟩
          · have HE := hide (fin.out.1 (Or.inl (fun h => by have := of_decide_eq_true c2; omega)))
            go_wp2
            go_ret
            exact ⟨by rw [HE.out]; rfl, belowA rr.drew HB.out⟩
          · have HE := hide (fin.out.2 ⟨by have := of_decide_eq_false c1; omega, by have := of_decide_eq_false c2; omega, fun h => absurd h (of_decide_eq_false c3)⟩)
            go_wp2
            go_roundw
            case rel => exact ⟨k + 1, by omega, by go_num, hide (belowA rr.drew HB.out), hide (fun j hj => (Nat.lt_or_ge j k).elim (HOK.out j) (fun h => (show k = j by omega) ▸ HE.out))⟩
            case measure => simp [Go.RowKit.intOf]; omega
          · have HE := hide (fin.out.1 (Or.inr ⟨of_decide_eq_true c3, of_decide_eq_true c4⟩))
            go_wp2
            go_ret
            exact ⟨by rw [HE.out]; rfl, belowA rr.drew HB.out⟩
          · have HE := hide (fin.out.2 ⟨by have := of_decide_eq_false c1; omega, by have := of_decide_eq_false c2; omega, fun h => by have := of_decide_eq_false c4; omega⟩)
            go_wp2
            go_roundw
            case rel => exact ⟨k + 1, by omega, by go_num, hide (belowA rr.drew HB.out), hide (fun j hj => (Nat.lt_or_ge j k).elim (HOK.out j) (fun h => (show k = j by omega) ▸ HE.out))⟩
            case measure => simp [Go.RowKit.intOf]; omega
        · have i1 : ¬ (k : Int) < n := by omega
          obtain rfl : k = n := by omega
          have HR : Hid (decide (RightP l) = true) := hide (decide_eq_true ⟨fun j hj => HOK.out j (by rw [← HN.out]; exact hj), by rw [HN.out]; have := HH.out; omega⟩)
          go_wp2
          go_ret
          exact ⟨by rw [HR.out]; rfl, HB.out⟩
end
end Go.Proofs.YteppdlkmjgladaaGreat
