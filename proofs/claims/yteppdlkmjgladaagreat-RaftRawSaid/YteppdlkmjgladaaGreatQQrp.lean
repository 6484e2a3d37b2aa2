/- One text of: Qrp. -/
import Derived.Test.YteppdlkmjgladaaGreatQQA
namespace Go.Proofs.YteppdlkmjgladaaGreat
open Go.RowKit Go.Proofs Go.Maps
set_option linter.unusedVariables false
set_option linter.unusedSimpArgs false

def ebytes (t k : Nat) (b : List Nat) : List Nat := enc t ++ enc k ++ encT b
theorem ebytes_ok {t k : Nat} {b : List Nat} (ht : t < 2 ^ 60) (hk : k < 2 ^ 60) (hb : ∀ x ∈ b, x < 256) (hl : b.length ≤ 100000) : (ebytes t k b).length ≤ b.length + 27 ∧ ∀ x ∈ ebytes t k b, x < 256 := by
 have h1 := enc_len9 (n := t) (by omega)
 have h2 := enc_len9 (n := k) (by omega)
 have h3 := enc_len9 (n := b.length) (by omega)
 refine ⟨by unfold ebytes encT; simp only [List.length_append]; omega, fun x hx => ?_⟩
 unfold ebytes encT at hx
 simp only [List.mem_append] at hx
 rcases hx with (hx | hx) | (hx | hx)
 ·exact enc_byte _ x hx
 ·exact enc_byte _ x hx
 ·exact enc_byte _ x hx
 ·exact hb x hx
section
variable {w : World} {no : List Nat} {A B : Option Addr} {c d : Nat}
set_option maxHeartbeats 1000000 in
theorem entb_calls (t k : Nat) {b : List Nat} (hb : Rb w [] A c b) (ht : t < 2 ^ 60) (hk : k < 2 ^ 60) (hl : b.length ≤ 100000) :
  Calls Tryz.prog 87 #[.agg #[.int .i64 t, .int .i64 k, .slice A b.length c]] w fun e w' => ∃ A' c', e = .returned (.slice A' (ebytes t k b).length c') ∧ OwnB w w' A' c' (ebytes t k b) ∧ Below w.heap.size w w' := by
 have hlen := enc_len9 (n := t) (by omega)
 have hlen2 := enc_len9 (n := k) (by omega)
 have hlen3 := enc_len9 (n := b.length) (by omega)
 obtain ⟨R, hR⟩ : ∃ R, ebytes t k b = R := ⟨_, rfl⟩
 rw [hR]
 obtain ⟨w0, hw0⟩ : ∃ w0, w.alloc (.cells #[.int .i64 t, .int .i64 k, .slice A b.length c] 73) = w0 := ⟨_, rfl⟩
 obtain ⟨xb, hxb⟩ : ∃ xb, w.heap.size = xb := ⟨_, rfl⟩
 have hb0 : Below w.heap.size w w0 := hw0 ▸ belowL (Below.refl _ _) _
 have bX : Blk w0 xb 73 [.int .i64 t, .int .i64 k, .slice A b.length c] := by rw [← hw0, ← hxb]; exact Blk.new rfl
 obtain ⟨w1, hw1⟩ : ∃ w1, w0.alloc (.cells #[.slice none 0 0] 156) = w1 := ⟨_, rfl⟩
 obtain ⟨wb, hwb⟩ : ∃ wb, xb + 1 = wb := ⟨_, rfl⟩
 have hwb' : w0.heap.size = wb := by rw [← hw0, ← hwb, ← hxb]; simp
 have hwf : Wf w0 w1 wb [] := by rw [← hw1, ← hwb']; exact Wf.new (Below.refl _ _)
 have HW := hide (And.intro hw0 (And.intro hxb (And.intro hw1 hwb)))
 have HB0 := hide hb0
 have HX := hide bX
 have HN1 := hide (hwf.num t (by omega) (by simp))
 have y0 := HX.out.rule 0 _ rfl w1 hwf.be
 have HL := hide (And.intro hlen (And.intro hlen2 (And.intro hlen3 (And.intro (hb.below hb0) (And.intro hl (And.intro hR hk))))))
 clear hlen hlen2 hlen3 hb hl hR hw0 hxb hb0 bX hw1 hwb hwb' hwf ht hk
 go_enter Tryz.func87, Tryz.ntmps87
 go_upto_region 2 with fail
 (try rw [HW.out.1])
 (try rw [HW.out.2.1])
 (try rw [HW.out.2.2.1])
 (try rw [HW.out.2.2.2])
 go_wp2_with fail
 with_reducible refine HN1.out.mono ?_
 rintro e w2 ⟨rfl, hf2⟩
 rw [List.nil_append] at hf2
 have y1 := HX.out.rule 1 _ rfl w2 hf2.be
 have HN2 := hide (hf2.num k (by have := HL.out.2.2.2.2.2.2; omega) (by have := HL.out.1; omega))
 clear hf2 HN1 y0
 go_wp2_with fail
 with_reducible refine HN2.out.mono ?_
 rintro e w3 ⟨rfl, hf3⟩
 have y2 := HX.out.rule 2 _ rfl w3 hf3.be
 have HT := hide (hf3.text HL.out.2.2.2.1 (by rw [List.length_append]; have := HL.out; omega) (by have := HL.out.2.2.2.2.1; omega))
 clear hf3 HN2 y1
 go_wp2_with fail
 with_reducible refine HT.out.mono ?_
 rintro e w4 ⟨rfl, hf4⟩
 rw [show enc t ++ enc k ++ encT b = R from HL.out.2.2.2.2.2.1] at hf4
 have HBY := hide (hf4.bytes (by rw [← HL.out.2.2.2.2.2.1]; unfold ebytes encT; simp only [List.length_append]; have := HL.out; omega))
 clear hf4 HT y2
 go_wp2_with fail
 with_reducible refine HBY.out.mono ?_
 rintro e w5 ⟨A5, c5, rfl, ho5, hb5⟩
 have H5 := hide (And.intro (ho5.back HB0.out.size) (belowA hb5 HB0.out))
 clear ho5 hb5 HBY
 go_wp2
 go_ret
 exact ⟨A5, c5, rfl, H5.out⟩
def bbytes (t v : Int) : List Nat := enc t.toNat ++ enc (v + 1).toNat
theorem bbytes_ok {t v : Int} (ht : t < 2 ^ 60) (hv : v < 2 ^ 60) : (bbytes t v).length ≤ 18 ∧ ∀ x ∈ bbytes t v, x < 256 := by
 have h1 := enc_len9 (n := t.toNat) (by omega)
 have h2 := enc_len9 (n := (v + 1).toNat) (by omega)
 refine ⟨by unfold bbytes; rw [List.length_append]; omega, fun x hx => ?_⟩
 rcases List.mem_append.1 hx with hx | hx
 ·exact enc_byte _ x hx
 ·exact enc_byte _ x hx
set_option maxHeartbeats 1000000 in
theorem ballb_calls (t v : Int) (ht : 0 ≤ t ∧ t < 2 ^ 60) (hv : -1 ≤ v ∧ v < 2 ^ 60) :
  Calls Tryz.prog 105 #[.agg #[.int .i64 t, .int .i64 v]] w fun e w' => ∃ A' c', e = .returned (.slice A' (bbytes t v).length c') ∧ OwnB w w' A' c' (bbytes t v) ∧ Below w.heap.size w w' := by
 obtain ⟨n, rfl⟩ : ∃ n : Nat, t = n := ⟨t.toNat, by omega⟩
 obtain ⟨m, rfl⟩ : ∃ m : Nat, v = (m : Int) - 1 := ⟨(v + 1).toNat, by omega⟩
 have hlen := enc_len9 (n := n) (by omega)
 have hlen2 := enc_len9 (n := m) (by omega)
 obtain ⟨R, hR⟩ : ∃ R, bbytes n ((m : Int) - 1) = R := ⟨_, rfl⟩
 rw [hR]
 obtain ⟨v, hvm⟩ : ∃ v, (m : Int) - 1 = v := ⟨_, rfl⟩
 rw [hvm] at hR ⊢
 have q1 : IntKind.i64.wrap (v + 1) = (m : Int) := by rw [IntWalk.i64_in _ (by omega)]; omega
 have hRe : enc n ++ enc m = R := by rw [← hR, bbytes, Int.toNat_natCast, show v + 1 = (m : Int) by omega, Int.toNat_natCast]
 obtain ⟨w0, hw0⟩ : ∃ w0, w.alloc (.cells #[.int .i64 n, .int .i64 v] 90) = w0 := ⟨_, rfl⟩
 obtain ⟨xb, hxb⟩ : ∃ xb, w.heap.size = xb := ⟨_, rfl⟩
 have hb0 : Below w.heap.size w w0 := hw0 ▸ belowL (Below.refl _ _) _
 have bX : Blk w0 xb 90 [.int .i64 n, .int .i64 v] := by rw [← hw0, ← hxb]; exact Blk.new rfl
 obtain ⟨w1, hw1⟩ : ∃ w1, w0.alloc (.cells #[.slice none 0 0] 156) = w1 := ⟨_, rfl⟩
 obtain ⟨wb, hwb⟩ : ∃ wb, xb + 1 = wb := ⟨_, rfl⟩
 have hwb' : w0.heap.size = wb := by rw [← hw0, ← hwb, ← hxb]; simp
 have hwf : Wf w0 w1 wb [] := by rw [← hw1, ← hwb']; exact Wf.new (Below.refl _ _)
 have HW := hide (And.intro hw0 (And.intro hxb (And.intro hw1 hwb)))
 have HB0 := hide hb0
 have HX := hide bX
 have HN1 := hide (hwf.num n (by omega) (by simp))
 have y0 := HX.out.rule 0 _ rfl w1 hwf.be
 have HL := hide (And.intro hlen (And.intro hlen2 (And.intro hRe (show m < 2 ^ 63 by omega))))
 clear hlen hlen2 hR hRe hw0 hxb hb0 bX hw1 hwb hwb' hwf hvm ht hv
 go_enter Tryz.func105, Tryz.ntmps105
 go_upto_region 2 with fail
 (try rw [HW.out.1])
 (try rw [HW.out.2.1])
 (try rw [HW.out.2.2.1])
 (try rw [HW.out.2.2.2])
 go_wp2_with fail
 with_reducible refine HN1.out.mono ?_
 rintro e w2 ⟨rfl, hf2⟩
 rw [List.nil_append] at hf2
 have y1 := HX.out.rule 1 _ rfl w2 hf2.be
 have HN2 := hide (hf2.num m HL.out.2.2.2 (by have := HL.out.1; omega))
 clear hf2 HN1 y0
 go_wp2_with fail
 with_reducible refine HN2.out.mono ?_
 rintro e w4 ⟨rfl, hf4⟩
 rw [HL.out.2.2.1] at hf4
 have HBY := hide (hf4.bytes (by rw [← HL.out.2.2.1, List.length_append]; have := HL.out; omega))
 clear hf4 HN2 y1
 go_wp2_with fail
 with_reducible refine HBY.out.mono ?_
 rintro e w5 ⟨A5, c5, rfl, ho5, hb5⟩
 have H5 := hide (And.intro (ho5.back HB0.out.size) (belowA hb5 HB0.out))
 clear ho5 hb5 HBY
 go_wp2
 go_ret
 exact ⟨A5, c5, rfl, H5.out⟩
def sbytes (i t : Nat) (m : List Int) (b : List Nat) : List Nat := enc i ++ enc t ++ encT (qbytes m) ++ encT b
set_option maxHeartbeats 1000000 in
theorem snapb_calls (i t : Nat) {l : List Int} {b : List Nat} (hm : Sl w no A c l) (hml : l.length ≤ 7) (hmx : ∀ x ∈ l, 0 ≤ x ∧ x ≤ 15) (hb : b = [] ∨ Rb w [] B d b) (ht : t < 2 ^ 60) (hi : i < 2 ^ 60) (hl : b.length ≤ 100000) :
  Calls Tryz.prog 37 #[.agg #[.int .i64 i, .int .i64 t, .slice A l.length c, .slice B b.length d]] w fun e w' => ∃ A' c', e = .returned (.slice A' (sbytes i t l b).length c') ∧ OwnB w w' A' c' (sbytes i t l b) ∧ Below w.heap.size w w' := by
 have hlen := enc_len9 (n := t) (by omega)
 have hlen2 := enc_len9 (n := i) (by omega)
 have hlen3 := enc_len9 (n := b.length) (by omega)
 have hq := (qbytes_len hml hmx).1
 have hlen4 := enc_len9 (n := (qbytes l).length) (by omega)
 obtain ⟨R, hR⟩ : ∃ R, sbytes i t l b = R := ⟨_, rfl⟩
 rw [hR]
 obtain ⟨w0, hw0⟩ : ∃ w0, w.alloc (.cells #[.int .i64 i, .int .i64 t, .slice A l.length c, .slice B b.length d] 93) = w0 := ⟨_, rfl⟩
 obtain ⟨xb, hxb⟩ : ∃ xb, w.heap.size = xb := ⟨_, rfl⟩
 have hb0 : Below w.heap.size w w0 := hw0 ▸ belowL (Below.refl _ _) _
 have bX : Blk w0 xb 93 [.int .i64 i, .int .i64 t, .slice A l.length c, .slice B b.length d] := by rw [← hw0, ← hxb]; exact Blk.new rfl
 obtain ⟨w1, hw1⟩ : ∃ w1, w0.alloc (.cells #[.slice none 0 0] 156) = w1 := ⟨_, rfl⟩
 obtain ⟨wb, hwb⟩ : ∃ wb, xb + 1 = wb := ⟨_, rfl⟩
 have hwb' : w0.heap.size = wb := by rw [← hw0, ← hwb, ← hxb]; simp
 have hwf : Wf w0 w1 wb [] := by rw [← hw1, ← hwb']; exact Wf.new (Below.refl _ _)
 have HW := hide (And.intro hw0 (And.intro hxb (And.intro hw1 hwb)))
 have HB0 := hide hb0
 have HX := hide bX
 have HN1 := hide (hwf.num i (by omega) (by simp))
 have y0 := HX.out.rule 0 _ rfl w1 hwf.be
 have HL := hide (And.intro hlen (And.intro hlen2 (And.intro hlen3 (And.intro (hb.imp id (fun h => h.below hb0)) (And.intro hl (And.intro hR (And.intro ht (And.intro hq hlen4))))))))
 have HM := hide (And.intro (hm.below hb0) (And.intro hml hmx))
 clear hlen hlen2 hlen3 hlen4 hq hb hl hR hw0 hxb hb0 bX hw1 hwb hwb' hwf ht hi hm hml hmx
 go_enter Tryz.func37, Tryz.ntmps37
 go_upto_region 2 with fail
 (try rw [HW.out.1])
 (try rw [HW.out.2.1])
 (try rw [HW.out.2.2.1])
 (try rw [HW.out.2.2.2])
 go_wp2_with fail
 with_reducible refine HN1.out.mono ?_
 rintro e w2 ⟨rfl, hf2⟩
 rw [List.nil_append] at hf2
 have y1 := HX.out.rule 1 _ rfl w2 hf2.be
 have HN2 := hide (hf2.num t (by have := HL.out.2.2.2.2.2.2.1; omega) (by have := HL.out.2.1; omega))
 clear hf2 HN1 y0
 go_wp2_with fail
 with_reducible refine HN2.out.mono ?_
 rintro e w3 ⟨rfl, hf3⟩
 have y2 := HX.out.rule 2 _ rfl w3 hf3.be
 have HQB := hide (qbytes_calls (HM.out.1.below hf3.be) HM.out.2.1 HM.out.2.2)
 have H3 := hide hf3
 clear hf3 HN2 y1
 go_wp2_with fail
 with_reducible refine HQB.out.mono ?_
 rintro e w4 ⟨A4, c4, rfl, ho4, hb4⟩
 have HT := hide (H3.out.textN hb4 ho4 (by rw [List.length_append]; have := HL.out; omega) (by have := HL.out; omega))
 clear ho4 hb4 HQB y2
 go_wp2_with fail
 with_reducible refine HT.out.mono ?_
 rintro e w5 ⟨rfl, hf5⟩
 have y3 := HX.out.rule 3 _ rfl w5 hf5.be
 have HT2 := hide (hf5.textZ HL.out.2.2.2.1 (by unfold encT; simp only [List.length_append]; have := HL.out; omega) (by have := HL.out.2.2.2.2.1; omega))
 clear hf5 HT H3
 go_wp2_with fail
 with_reducible refine HT2.out.mono ?_
 rintro e w6 ⟨rfl, hf6⟩
 rw [show enc i ++ enc t ++ encT (qbytes l) ++ encT b = R from HL.out.2.2.2.2.2.1] at hf6
 have HBY := hide (hf6.bytes (by rw [← HL.out.2.2.2.2.2.1]; unfold sbytes encT; simp only [List.length_append]; have := HL.out; omega))
 clear hf6 HT2 y3
 go_wp2_with fail
 with_reducible refine HBY.out.mono ?_
 rintro e w7 ⟨A5, c5, rfl, ho5, hb5⟩
 have H5 := hide (And.intro (ho5.back HB0.out.size) (belowA hb5 HB0.out))
 clear ho5 hb5 HBY
 go_wp2
 go_ret
 exact ⟨A5, c5, rfl, H5.out⟩
set_option maxHeartbeats 400000 in
theorem bstand_calls (t v me : Int) (ht : 0 ≤ t ∧ t < 2 ^ 60) : Calls Tryz.prog 106 #[.agg #[.int .i64 t, .int .i64 v], .int .i64 me] w fun e w' => e = .returned (.agg #[.int .i64 (t + 1), .int .i64 me]) ∧ Below w.heap.size w w' := by
 have q1 : IntKind.i64.wrap (t + 1) = t + 1 := IntWalk.i64_in _ (by omega)
 have r0 := Below.refl w.heap.size w
 clear ht
 go_enter Tryz.func106, Tryz.ntmps106
 go_wp2
 exact bodyPost_ret (v := .agg #[.int .i64 (t + 1), .int .i64 me]) (by simp [results, Tryz.results106, go_sem, *]) rfl ⟨rfl, belowL (belowL r0 _) _⟩
end
end Go.Proofs.YteppdlkmjgladaaGreat
