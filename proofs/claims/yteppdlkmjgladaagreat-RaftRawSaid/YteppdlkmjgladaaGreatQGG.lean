/- One text of: Gs Gt. -/
import Derived.Test.YteppdlkmjgladaaGreatQGF
namespace Go.Proofs.YteppdlkmjgladaaGreat
open Go.RowKit Go.Proofs Go.Maps
set_option linter.unusedVariables false
set_option linter.unusedSimpArgs false
theorem zA39 {α : Type} (l : List α) (i : Nat) (a : α) : l.toArray.setIfInBounds i a = (l.set i a).toArray := by simp
theorem zB39 {α : Type} (x a : α) (l : List α) : (x :: l).set 0 a = a :: l := rfl
theorem zC39 {α : Type} (x a : α) (l : List α) (n : Nat) : (x :: l).set (n + 1) a = x :: l.set n a := rfl

def Gd.rep (G : Gd) (L : List Con) (V : Vlt) (d : Bool) : Gd := { G with dead := d, m := { G.m with V := V, L := L } }
def GR (w w' : World) (nb : Nat) (q : Gl) (G : Gd) (n g : Nat) : Prop := ∃ q' V' d' L', GP w' nb q' (G.rep L' V' d') ∧ ConG L' ∧ L'.length ≤ n ∧ VltOk V' g ∧ GS w w' nb q q'
section
variable {W w w' w1 w2 : World} {nb u j g p : Nat} {q q1 q' : Gl} {G G1 : Gd} {b o : Nat} {base term : Int} {L : List Con} {F : List Nat}
theorem lg_matchG (h : LG w p base term L F) (h0 : 0 ≤ base) (h1 : base ≤ 1099511627776) {i t : Int} (hi : base ≤ i ∧ i ≤ 1099511627776) {A2 : Option Addr} {n2 c2 : Nat} {Y : List Con} (hn : L.length + Y.length ≤ 1000000) (hL : ConG L) (hY : ConG Y) (hy : Ents w A2 n2 c2 Y) (hsep : ∀ g, A2.map Addr.block = some g → g ∉ F) :
  Calls Tryz.prog 128 #[.pointer (some ⟨p, 0, none⟩), .int .i64 i, .int .i64 t, .slice A2 n2 c2] w fun e w' => ∃ f r L' F', e = .returned (.tuple #[.int .i64 f, .bool r]) ∧ LG w' p base term L' F' ∧ Chg F w w' ∧ Grew w F F' ∧ ConG L' ∧ L'.length ≤ L.length + Y.length ∧ (r = true → base + 1 ≤ f ∧ f ≤ base + L.length + 1) := by
 obtain ⟨A, cap, es, hl, rfl, rfl⟩ := id h
 by_cases ht : termL base term es i = (t, true)
 ·have hq : ∃ q : Nat, i = base + q ∧ q ≤ es.length := by
   by_cases hb : i = base
   ·exact ⟨0, by omega, by omega⟩
   ·cases hh : hasL base es.length i with
    |true => have := hasL_iff.1 hh; exact ⟨(i - base).toNat, by omega, by omega⟩
    |false => rw [termL_out hb hh] at ht; cases ht
  obtain ⟨q, rfl, hq⟩ := hq
  rw [termC_eq] at ht
  refine (lg_match q t A2 n2 c2 Y h h0 (by omega) (by rw [cons_length]; exact hq) hn ht hy hY.few hsep (i := base + q) rfl).mono ?_
  rintro e w' ⟨F', rfl, h2, h3, h4⟩
  have ha := agree_le ((cons es).drop q) Y
  refine ⟨_, true, _, F', rfl, h2, h3, h4, ?_, ?_, fun _ => ?_⟩
  ·intro c hc
   unfold matchC at hc
   split at hc
   ·exact hL c hc
   ·rcases List.mem_append.1 hc with hc | hc
    ·exact hL c (List.mem_of_mem_take hc)
    ·exact hY c (List.mem_of_mem_drop hc)
  ·unfold matchC
   split
   ·omega
   ·rw [List.length_append, List.length_take, List.length_drop]
    have := cons_length es
    omega
  ·unfold firstC
   rw [List.length_drop] at ha
   have := cons_length es
   split <;> omega
 ·refine (match_no p A cap base term es i t A2 n2 c2 w hl h0 (by omega) (by omega) (by omega) ?_).mono ?_
  ·rcases hz : termL base term es i with ⟨a, z⟩
   rw [hz] at ht
   simp only [Prod.mk.injEq, not_and] at ht ⊢
   cases z
   ·exact Or.inl rfl
   ·exact Or.inr (fun e => ht e rfl)
  ·rintro e w' ⟨rfl, n, rfl⟩
   exact ⟨0, false, _, _, rfl, h.drewN n, Chg.of_below (below_drewN (Below.refl _ _) n), fun x hx => Or.inl hx, hL, by omega, fun h => by cases h⟩
theorem GI.reps (h : GI u G) {L : List Con} {V : Vlt} {d : Bool} (hL : ConG L) (hn : L.length ≤ 20 * (u + 1)) : GI (u + 1) (G.rep L V d) := by
 have e := h.up (Nat.le_succ u)
 exact ⟨e.id, e.bt, e.bv, e.com, e.told, e.quiet, e.beats, ⟨e.m.si, e.m.st, e.m.li, e.m.lt, e.m.sm, e.m.sb, hL, hn, e.m.votes, e.m.next, e.m.mat, e.m.on⟩⟩
set_option maxHeartbeats 4000000 in
set_option maxRecDepth 100000 in
theorem greplace_calls (h : GP w nb q G) (hi : MI u G.m) (hu : u ≤ 890) (hV : VltOk G.m.V g) (hg : g + 40000 < 2 ^ 60) (prev t : Int) (hp : G.m.li ≤ prev ∧ prev ≤ 549755813888) {A2 : Option Addr} {n2 c2 : Nat} {Y : List Con} (hy : Ents w A2 n2 c2 Y) (hY : ConG Y) (hn : Y.length ≤ 20) (hsep : ∀ a, A2.map Addr.block = some a → a ∉ gt nb q) :
  Calls Tryz.prog 101 #[.pointer (some ⟨nb, 0, none⟩), .int .i64 prev, .int .i64 t, .slice A2 n2 c2] w fun e w' => RB e ∧ GR w w' nb q G (G.m.L.length + Y.length) (g + 40000) := by
 obtain ⟨B, hB⟩ : ∃ B, G.m.li = B := ⟨_, rfl⟩
 have hBb : 0 ≤ B ∧ B ≤ 549755813888 := by rw [← hB, hi.li]; exact hi.si
 have hLn := hi.n
 have hla := lg_last h.log (by omega) (by omega) (by omega)
 rw [hB] at hla
 obtain ⟨la, hlae⟩ : ∃ la : Int, B + (G.m.L.length : Int) = la := ⟨_, rfl⟩
 obtain ⟨lt, hlte⟩ : ∃ lt : Int, (G.m.L.getLast?.map (·.1)).getD G.m.lt = lt := ⟨_, rfl⟩
 rw [hlae, hlte] at hla
 have HLA := hide hla
 have y9 : w.cell? ⟨nb, 9, none⟩ = some (.pointer (some ⟨q.lb, 0, none⟩)) := h.blk.cell 9
 have H := hide (And.intro h (And.intro hi (And.intro hV (And.intro hg (And.intro hp (And.intro hy (And.intro hY (And.intro hn (And.intro hsep (And.intro hB (And.intro hBb (And.intro hLn hlae))))))))))))
 clear h hi hV hg hp hy hY hn hsep hB hBb hLn hla hlae hlte
 go_enter Tryz.func101, Tryz.ntmps101
 go_wp2_with fail
 with_reducible refine HLA.out.mono ?_
 rintro e w1 ⟨rfl, q1, rfl⟩
 have hb1 := below_drewN (Below.refl w.heap.size w) q1
 obtain ⟨w1, hw1⟩ : ∃ w1, w.drewN q1 = w1 := ⟨_, rfl⟩
 rw [hw1] at hb1 ⊢
 obtain ⟨h, hi, hV, hg, hp, hy, hY, hn, hsep, hB, hBb, hLn, hlae⟩ := H.out
 have h1 := h.below hb1
 have y9' : w1.cell? ⟨nb, 9, none⟩ = some (.pointer (some ⟨q.lb, 0, none⟩)) := h1.blk.cell 9
 have hy1 : Ents w1 A2 n2 c2 Y := by
  obtain ⟨⟨ys, k1, k2, k3, k4⟩, k5⟩ := hy
  exact ⟨⟨ys, k1, k2, (k3.below hb1).more hb1.size, fun y hy => (k4 y hy).below hb1⟩, k5⟩
 have HMA := lg_matchG (i := prev) (t := t) h1.log (by omega) (by omega) (by omega) (by omega) hi.L hY hy1 (fun a ha hx => hsep a ha (gt_mem.2 (by simp [hx])))
 rw [hB] at HMA
 have HMA := hide HMA
 have H1 := hide (And.intro h1 hb1)
 clear h hi hV hg hp hy hY hn hsep hB hBb hLn hlae h1 hb1 hy1 hw1 y9 HLA
 go_wp2_with fail
 with_reducible refine HMA.out.mono ?_
 rintro e w2 ⟨f, r, L', F', rfl, hl2, hc2, hf2, hC2, hn2, hr2⟩
 obtain ⟨h, hi, hV, hg, hp, hy, hY, hn, hsep, hB, hBb, hLn, hlae⟩ := H.out
 rw [← hB] at hl2
 obtain ⟨h2, s2⟩ := H1.out.1.logI hl2 hc2 (fun x hx => hf2 x hx)
 obtain ⟨q2, hq2⟩ : ∃ q2, ({ q with Fl := F' } : Gl) = q2 := ⟨_, rfl⟩
 obtain ⟨G2, hG2⟩ : ∃ G2, ({ G with m := { G.m with L := L' } } : Gd) = G2 := ⟨_, rfl⟩
 rw [hq2, hG2] at h2
 rw [hq2] at s2
 have he2 : G2.m.li = B ∧ G2.m.L = L' ∧ G2.m.V = G.m.V ∧ (∀ V d, G2.vlt V d = G.rep L' V d) ∧ G2.m.lt = G.m.lt := by rw [← hG2]; exact ⟨hB, rfl, rfl, fun V d => rfl, rfl⟩
 have s02 : GS w w2 nb q q2 := (GS.stay H1.out.2).trans s2
 have hR0 : Hid (∀ w', Below w2.heap.size w2 w' → GR w w' nb q G (G.m.L.length + Y.length) (g + 40000)) := hide (fun w' hb => ⟨q2, G.m.V, G2.dead, L', by rw [← he2.2.2.2.1, ← he2.2.2.1]; exact h2.below hb, hC2, hn2, hV.up (by omega), s02.trans (GS.stay hb)⟩)
 have H2 := hide (And.intro h2 (And.intro he2 (And.intro s02 (And.intro hC2 (And.intro hn2 hr2)))))
 clear h hi hV hg hp hy hY hn hsep hB hBb hLn hlae hl2 hc2 hf2 hC2 hn2 hr2 h2 s2 hq2 hG2 he2 s02 y9' HMA
 cases r with
 |false =>
  go_wp2
  go_ret
  exact ⟨⟨_, rfl⟩, hR0.out _ (Below.refl _ _)⟩
 |true =>
  obtain ⟨h2, he2, s02, hC2, hn2, hr2⟩ := H2.out
  obtain ⟨h, hi, hV, hg, hp, hy, hY, hn, hsep, hB, hBb, hLn, hlae⟩ := H.out
  have hfb := hr2 rfl
  obtain ⟨m, hm⟩ : ∃ m, L'.length = m := ⟨_, rfl⟩
  have hla := lg_last h2.log (by rw [he2.1]; omega) (by rw [he2.1]; omega) (by rw [he2.2.1]; omega)
  rw [he2.1, he2.2.1, hm] at hla
  obtain ⟨lb, hlbe⟩ : ∃ lb : Int, B + (m : Int) = lb := ⟨_, rfl⟩
  obtain ⟨lt2, hlte⟩ : ∃ lt2 : Int, (L'.getLast?.map (·.1)).getD G2.m.lt = lt2 := ⟨_, rfl⟩
  rw [hlbe, hlte] at hla
  have HLA := hide hla
  have y9 : w2.cell? ⟨nb, 9, none⟩ = some (.pointer (some ⟨q2.lb, 0, none⟩)) := h2.blk.cell 9
  have HFB := hide (And.intro hfb (And.intro hm hlbe))
  clear h hi hV hg hp hy hY hn hsep hB hBb hLn hlae h2 he2 s02 hC2 hn2 hr2 hfb hla hlbe hlte hm
  go_wp2_with fail
  with_reducible refine HLA.out.mono ?_
  rintro e w3 ⟨rfl, q3, rfl⟩
  have hb3 := below_drewN (Below.refl w2.heap.size w2) q3
  obtain ⟨w3, hw3⟩ : ∃ w3, w2.drewN q3 = w3 := ⟨_, rfl⟩
  rw [hw3] at hb3 ⊢
  have HB3 := hide hb3
  clear hb3 hw3 y9 HLA
  by_cases hfl : lb < f
  ·have u1 : decide (lb < f) = true := decide_eq_true hfl
   clear hfl
   go_wp2
   go_ret
   exact ⟨⟨_, rfl⟩, hR0.out _ HB3.out⟩
  ·have u1 : decide (lb < f) = false := decide_eq_false hfl
   have HFL := hide hfl
   clear hfl
   have hst : Hid (∃ q3 V3 d3, GP w3 nb q3 (G.rep L' V3 d3) ∧ VltOk V3 (g + 0) ∧ GS w w3 nb q q3) := hide ⟨q2, G.m.V, G2.dead, by rw [← H2.out.2.1.2.2.2.1, ← H2.out.2.1.2.2.1]; exact H2.out.1.below HB3.out, H.out.2.2.1, H2.out.2.2.1.trans (GS.stay HB3.out)⟩
   go_wp2
   go_loopw [15, 52, 53, 54, 55, 56, 57, 58, 59, 60] (fun iv _ _ _ _ _ _ _ _ _ wr => ∃ (k : Nat) (i : Int), iv = .int .i64 i ∧ Hid (i = la - k ∧ f - 1 ≤ i) ∧ Hid (∃ q3 V3 d3, GP wr nb q3 (G.rep L' V3 d3) ∧ VltOk V3 (g + k) ∧ GS w wr nb q q3)) (fun iv _ _ _ _ _ _ _ _ _ _ => (Go.RowKit.intOf iv - f + 1).toNat)
   case atStart => exact ⟨0, la, rfl, hide ⟨by omega, by have := HFB.out; have := H.out.2.2.2.2.2.2.2.2.2.2.2.2; omega⟩, hst⟩
   case round =>
    obtain ⟨k, i, rfl, hik, hS⟩ := hrel
    by_cases hfi : f ≤ i
    ·have i1 : decide (f ≤ i) = true := decide_eq_true hfi
     obtain ⟨q3, V3, d3, h3, hok3, hs3⟩ := hS.out
     obtain ⟨i2, hi2⟩ : ∃ i2, i - 1 = i2 := ⟨_, rfl⟩
     have hib : 1 ≤ i ∧ i ≤ la ∧ la ≤ 549756000000 ∧ k ≤ 17800 := by
      obtain ⟨_, _, _, _, _, _, _, _, _, _, hBb, hLn, hlae⟩ := H.out
      have := hik.out; have := HFB.out
      omega
     have c1 : IntKind.i64.wrap (i - 1) = i2 := by rw [IntWalk.i64_in _ (by omega)]; exact hi2
     have c2 : IntKind.i64.wrap (1000 + i) = 1000 + i := IntWalk.i64_in _ (by omega)
     have HDR := hide (gdrop_calls h3 hok3 (by have := H.out.2.2.2.1; omega) (1000 + i) (by unfold i64ok; omega))
     have HI := hide (And.intro hi2 (And.intro hfi (And.intro hib hs3)))
     clear h3 hok3 hs3 hi2 hfi hib hS
     go_wp2_with fail
     with_reducible refine HDR.out.mono ?_
     rintro e w4 ⟨q4, V4, d4, rfl, h4, hok4, hs4, _⟩
     have H4 : Hid (∃ q3 V3 d3, GP w4 nb q3 (G.rep L' V3 d3) ∧ VltOk V3 (g + (k + 1)) ∧ GS w w4 nb q q3) := hide ⟨q4, V4, d4, h4, hok4, HI.out.2.2.2.trans hs4⟩
     clear h4 hok4 hs4 HDR
     go_wp2
     go_roundw
     case rel => exact ⟨k + 1, i2, rfl, hide (by have := HI.out; have := hik.out; omega), H4⟩
     case measure => have := HI.out; simp [Go.RowKit.intOf]; omega
    ·have i1 : decide (f ≤ i) = false := decide_eq_false hfi
     have hkb : k ≤ 17900 := by
      obtain ⟨_, _, _, _, _, _, _, _, _, _, hBb, hLn, hlae⟩ := H.out
      have := hik.out; have := HFB.out
      omega
     have HST : Hid (∃ q3 V3 d3, GP wr nb q3 (G.rep L' V3 d3) ∧ VltOk V3 (g + 18000 + 0) ∧ GS w wr nb q q3) := hide (by
      obtain ⟨q3, V3, d3, h3, hok3, hs3⟩ := hS.out
      exact ⟨q3, V3, d3, h3, hok3.up (by omega), hs3⟩)
     clear hfi hkb hS hik
     go_wp2
     go_loopw [16, 17, 18, 62, 63, 64, 65, 66, 67, 68, 69, 70, 71, 72, 73, 74, 75, 76, 77, 78, 79, 80, 81] (fun jv _ _ _ _ _ _ _ _ _ _ _ _ _ _ _ _ _ _ _ _ _ _ wr => ∃ (k : Nat) (j : Int), jv = .int .i64 j ∧ Hid (j = f + k ∧ j ≤ lb + 1) ∧ Hid (∃ q3 V3 d3, GP wr nb q3 (G.rep L' V3 d3) ∧ VltOk V3 (g + 18000 + k) ∧ GS w wr nb q q3)) (fun jv _ _ _ _ _ _ _ _ _ _ _ _ _ _ _ _ _ _ _ _ _ _ _ => (lb - Go.RowKit.intOf jv + 1).toNat)
     case atStart => exact ⟨0, f, rfl, hide ⟨by omega, by have := HFL.out; omega⟩, HST⟩
     case round =>
      obtain ⟨k, j, rfl, hjk, hS⟩ := hrel
      by_cases hjl : j ≤ lb
      ·have i2 : decide (j ≤ lb) = true := decide_eq_true hjl
       obtain ⟨q3, V3, d3, h3, hok3, hs3⟩ := hS.out
       obtain ⟨j2, hj2⟩ : ∃ j2, j + 1 = j2 := ⟨_, rfl⟩
       have hjb : 1 ≤ j ∧ j ≤ 549756000000 ∧ k ≤ 18000 := by
        obtain ⟨_, _, _, _, _, _, _, hn, _, _, hBb, hLn, hlae⟩ := H.out
        have := hjk.out; have := HFB.out; have := H2.out.2.2.2.2.1
        omega
       have hx : ∃ x : Nat, x < L'.length ∧ j = B + x + 1 := ⟨(j - B - 1).toNat, by have := hjk.out; have := HFB.out; omega, by have := hjk.out; have := HFB.out; omega⟩
       obtain ⟨x, hxl, hxj⟩ := hx
       have c1 : IntKind.i64.wrap (j + 1) = j2 := by rw [IntWalk.i64_in _ (by omega)]; exact hj2
       have c2 : IntKind.i64.wrap (1000 + j) = 1000 + j := IntWalk.i64_in _ (by omega)
       have y9 : wr.cell? ⟨nb, 9, none⟩ = some (.pointer (some ⟨q3.lb, 0, none⟩)) := h3.blk.cell 9
       have hBi := H.out.2.2.2.2.2.2.2.2.2.1
       have hBb := H.out.2.2.2.2.2.2.2.2.2.2.1
       have HG := hide (lg_get (i := j) x h3.log hxl H2.out.2.2.2.1.few (by show 0 ≤ G.m.li; omega) (by show G.m.li ≤ _; omega) (by show L'.length ≤ _; have := HFB.out; have := H2.out.2.2.2.2.1; have := H.out.2.2.2.2.2.2.2.1; have := H.out.2.2.2.2.2.2.2.2.2.2.2.1; omega) (by show j = G.m.li + x + 1; rw [hBi]; exact hxj))
       have HI := hide (And.intro hj2 (And.intro hjb (And.intro h3 (And.intro hok3 (And.intro hs3 hjl)))))
       clear h3 hok3 hs3 hj2 hjb hjl hS hxj hBi hBb
       go_wp2_with fail
       with_reducible refine HG.out.mono ?_
       rintro e w5 ⟨z, rfl, hzc, hzo, hb5⟩
       obtain ⟨xt, xk, xb, hxe, ht5, hk5, hx3, hx4⟩ := H2.out.2.2.2.1 L'[x] (List.getElem_mem _)
       replace hzc : z.con = L'[x] := hzc
       rw [hxe] at hzc
       obtain ⟨zt, zk, zA, zc, zb⟩ := z
       simp only [Ent.con, Prod.mk.injEq] at hzc
       obtain ⟨rfl, rfl, rfl⟩ := hzc
       simp only [bi_len]
       obtain ⟨wA, hwA⟩ : ∃ wA, w5.alloc (.cells #[.int .i64 xt, .int .i64 xk, .slice zA xb.length zc] 73) = wA := ⟨_, rfl⟩
       have hbA : Below w5.heap.size w5 wA := hwA ▸ belowL (Below.refl _ _) _
       have HEB := hide (entb_calls (w := wA) xt xk (hzo.rb.below hbA) (by omega) (by omega) (by omega))
       have heb := ebytes_ok (t := xt) (k := xk) (by omega) (by omega) hx4 (by omega)
       have HWA := hide hwA
       have H5 := hide (And.intro (belowA hbA hb5) (And.intro heb hx3))
       clear hzo hb5 hwA hbA hxe ht5 hk5 hx3 hx4 heb y9 HG hxl
       go_wp2_with fail
       (try rw [HWA.out])
       with_reducible refine HEB.out.mono ?_
       rintro e w6 ⟨A6, c6, rfl, ho6, hb6⟩
       obtain ⟨EB, hEB⟩ : ∃ EB, ebytes xt xk xb = EB := ⟨_, rfl⟩
       have H5' := H5.out
       rw [hEB] at ho6 H5' ⊢
       have h6 := HI.out.2.2.1.below (belowA hb6 H5'.1)
       have HPU := hide (gput_calls h6 HI.out.2.2.2.1 (by have := H.out.2.2.2.1; have := HI.out.2.1; omega) (1000 + j) ho6.bt H5'.2.1.2 (by have := H5'.2.1.1; have := H5'.2.2; omega))
       have HS6 := hide (HI.out.2.2.2.2.1.trans (GS.stay (belowA hb6 H5'.1)))
       clear ho6 hb6 h6 hEB H5' HEB
       go_wp2_with fail
       with_reducible refine HPU.out.mono ?_
       rintro e w7 ⟨q7, V7, d7, rfl, h7, hok7, hs7, _⟩
       have H7 : Hid (∃ q3 V3 d3, GP w7 nb q3 (G.rep L' V3 d3) ∧ VltOk V3 (g + 18000 + (k + 1)) ∧ GS w w7 nb q q3) := hide ⟨q7, V7, d7, h7, hok7, HS6.out.trans hs7⟩
       clear h7 hok7 hs7 HPU
       go_wp2
       go_roundw
       case rel => exact ⟨k + 1, j2, rfl, hide (by have := HI.out; have := hjk.out; have := HI.out.2.2.2.2.2; omega), H7⟩
       case measure => have := HI.out; simp [Go.RowKit.intOf]; omega
      ·have i2 : decide (j ≤ lb) = false := decide_eq_false hjl
       have hkb : k ≤ 18100 := by
        obtain ⟨_, _, _, _, _, _, _, hn, _, _, hBb, hLn, hlae⟩ := H.out
        have := hjk.out; have := HFB.out; have := H2.out.2.2.2.2.1
        omega
       have HF : Hid (GR w wr nb q G (G.m.L.length + Y.length) (g + 40000)) := hide (by
        obtain ⟨q3, V3, d3, h3, hok3, hs3⟩ := hS.out
        exact ⟨q3, V3, d3, L', h3, H2.out.2.2.2.1, H2.out.2.2.2.2.1, hok3.up (by omega), hs3⟩)
       clear hjl hkb hS hjk
       go_wp2
       go_ret
       exact ⟨⟨_, rfl⟩, HF.out⟩
end
end Go.Proofs.YteppdlkmjgladaaGreat

namespace Go.Proofs.YteppdlkmjgladaaGreat
open Go.RowKit Go.Proofs Go.Maps
set_option linter.unusedVariables false
set_option linter.unusedSimpArgs false

structure TB (W : World) (A : Option Addr) (bs : List Nat) : Prop where
 rd : Reads W W.heap.size 1 A bs.length (bys bs)
 by_ : ∀ x ∈ bs, x < 256
 le : bs.length ≤ 140737488355328
def LB (W : World) (A : Option Addr) (n : Nat) : Prop := 0 < n → ∃ b o, A = some ⟨b, o, none⟩ ∧ ∀ j, j < n → ∃ A' c' bs, (∀ w', Below W.heap.size W w' → w'.cell? ⟨b, o + j, none⟩ = some (.slice A' bs.length c')) ∧ TB W A' bs
structure OE (w0 w : World) (A : Option Addr) (c : Nat) (ys : List Ent) : Prop where
 own : w.ownsRow 0 73 3 (.slice A ys.length c) ys.length (entCells ys)
 ok : ∀ y ∈ ys, EntOk w y
 con : ConG (cons ys)
 ge : ∀ g, A.map Addr.block = some g → w0.heap.size ≤ g
section
variable {W w w' w0 w1 w2 : World} {nb u j g p : Nat} {q q1 q' : Gl} {G G1 : Gd} {b o : Nat} {N : List Int}
theorem TB.at_ {A : Option Addr} {bs : List Nat} (h : TB W A bs) (hb : Below W.heap.size W w) : Reads w w.heap.size 1 A bs.length (bys bs) := (h.rd.below hb).more hb.size
theorem wpList_appendE {ops : Array Oper} {rest : List Oper} {o : Oper} {a : Act} {Q : Exit → Act → World → Prop} (hgd : o.guard = none) (s x : Operand)
  (ho : o.op = .call { callee := .builtin .append, args := #[s, x], argTypes := #[158, 158] }) {A : Option Addr} {c : Nat} {ys : List Ent} (yt yk : Int) (yA : Option Addr) (yc : Nat) (yb : List Nat)
  (hO : OE w0 w2 A c ys) (hw : w0.heap.size ≤ w2.heap.size) (hl : ys.length ≤ 1000) (hs : a.eval s = .slice A ys.length c) (hx : a.eval x = .slice (some ⟨w2.heap.size, 0, none⟩) 1 1) (hy : EntOk w2 ⟨yt, yk, yA, yc, bi yb⟩) (hc : ConG (cons [(⟨yt, yk, yA, yc, bi yb⟩ : Ent)]))
  (h : ∀ A3 c3 w', OE w0 w' A3 c3 (ys ++ [⟨yt, yk, yA, yc, bi yb⟩]) → Chg (A.map Addr.block).toList w2 w' → wpList Tryz.prog ops Q rest (a.put o.dst (.slice A3 (ys.length + 1) c3)) w') : wpList Tryz.prog ops Q (o :: rest) a (w2.alloc (.cells #[.int .i64 yt, .int .i64 yk, .slice yA yb.length yc] 73)) := by
 obtain ⟨y, hye⟩ : ∃ y : Ent, (⟨yt, yk, yA, yc, bi yb⟩ : Ent) = y := ⟨_, rfl⟩
 have e1 : (.int .i64 yt : Value) = .int .i64 y.t ∧ (.int .i64 yk : Value) = .int .i64 y.k ∧ (.slice yA yb.length yc : Value) = .slice y.A y.b.length y.c := by rw [← hye, bi_len]; exact ⟨rfl, rfl, rfl⟩
 rw [hye] at hy hc h
 rw [e1.1, e1.2.1, e1.2.2]
 obtain ⟨iS, hiS, hzS, hz1S, hz2S⟩ := info_parts Tryz.infoEnt
 have hwA : Below w2.heap.size w2 (w2.alloc (.cells #[.int .i64 y.t, .int .i64 y.k, .slice y.A y.b.length y.c] 73)) := belowL (Below.refl _ _) _
 have x2' := own_chg hO.own (Chg.of_below (L := []) hwA) (fun _ _ hx => by cases hx)
 have bN : Blk (w2.alloc (.cells #[.int .i64 y.t, .int .i64 y.k, .slice y.A y.b.length y.c] 73)) w2.heap.size 73 [.int .i64 y.t, .int .i64 y.k, .slice y.A y.b.length y.c] := Blk.new rfl
 refine wpList_append_rd hgd s x 158 ho 73 iS _ 3 40 Tryz.underlying158 hiS hzS hz1S hz2S rfl (by decide) (.slice A ys.length c) ys.length (entCells ys) hs x2' (some ⟨w2.heap.size, 0, none⟩) 1 1 (w2.heap.size + 1) [.int .i64 y.t, .int .i64 y.k, .slice y.A y.b.length y.c] hx ⟨rfl, fun _ => ⟨w2.heap.size, 0, rfl, by omega, fun j u hu => by rw [Nat.zero_add, bN.cell j]; exact hu⟩⟩ (by intro u hu; (simp only [List.mem_cons, List.not_mem_nil, or_false] at hu; rcases hu with rfl | rfl | rfl <;> rfl)) (by unfold maxLen; omega) (by omega) ?_
 intro v3 w3 ho3 hc3 hg3
 obtain ⟨A3, c3, rfl, _⟩ := own_view ho3
 rw [owS] at hc3
 have hcc : Chg (A.map Addr.block).toList w2 w3 := (Chg.of_below hwA).trans hc3 (fun z hz => Or.inl hz)
 have hnb : ∀ x ∈ (A.map Addr.block).toList, ¬ ByteBlk w2 x := fun x hx => by
  obtain ⟨cs, hb⟩ := own_blk hO.own (g := x) (by simpa using hx)
  exact Blk.notByte hb (by decide)
 refine h A3 c3 w3 ⟨by rw [List.length_append, List.length_singleton, ← entCells_snoc]; exact ho3, fun z hz => ?_, ?_, fun g hg => ?_⟩ hcc
 ·rcases List.mem_append.1 hz with hz | hz
  ·exact (hO.ok z hz).chg hcc hnb
  ·rw [List.mem_singleton.1 hz]; exact hy.chg hcc hnb
 ·intro z hz
  unfold cons at hz
  rw [List.map_append] at hz
  rcases List.mem_append.1 hz with hz | hz
  ·exact hO.con z hz
  ·exact hc z hz
 ·rcases hg3 g (by rw [owS]; exact hg) with h | h
  ·rw [owS] at h
   exact hO.ge g h
  ·rw [h]; exact Nat.le_trans hw hwA.size
theorem OE.below {A : Option Addr} {c : Nat} {ys : List Ent} (h : OE w0 w A c ys) (hb : Below w.heap.size w w') : OE w0 w' A c ys := ⟨own_chg h.own (Chg.of_below (L := []) hb) (fun _ _ hx => by cases hx), fun y hy => (h.ok y hy).below hb, h.con, h.ge⟩
theorem OE.ents {A : Option Addr} {c : Nat} {ys : List Ent} (h : OE w0 w A c ys) : Ents w A ys.length c (cons ys) := by
 obtain ⟨A2, c2, e2, h1, _, _, _, hr⟩ := own_view h.own
 cases e2
 exact ⟨⟨ys, rfl, rfl, hr _ (fun g hg => own_lt h.own hg), h.ok⟩, h1⟩
set_option maxHeartbeats 8000000 in
set_option maxRecDepth 100000 in
theorem gappends_calls (h : GP w nb q G) (hA : GA W w nb q) (hi : GI u G) (hu : u ≤ 870) (hV : VltOk G.m.V g) (hg : g + 50000 < 2 ^ 60) (fr : Int) (hfr : 0 ≤ fr ∧ fr ≤ 15) (k n0 n1 n2 n3 : Int) (hn1 : 0 ≤ n1 ∧ n1 ≤ 549755813888) (hn3 : 0 ≤ n3 ∧ n3 ≤ 549755813888) (hn : NU W b o [n0, n1, n2, n3]) (c1 : Nat) (A2 A3 : Option Addr) (m2 m3 c2 c3 : Nat) (hm3 : m3 ≤ 10) (hL : LB W A3 m3) :
  Calls Tryz.prog 53 #[.pointer (some ⟨nb, 0, none⟩), .int .i64 fr, .agg #[.int .i64 k, .slice (some ⟨b, o, none⟩) 4 c1, .slice A2 m2 c2, .slice A3 m3 c3]] w fun e w' => e = .returned (.tuple #[]) ∧ GW w w' nb q G (u + 3) (g + 40000) := by
 obtain ⟨w0, hw0⟩ : ∃ w0, w.alloc (.cells #[.int .i64 k, .slice (some ⟨b, o, none⟩) 4 c1, .slice A2 m2 c2, .slice A3 m3 c3] 52) = w0 := ⟨_, rfl⟩
 obtain ⟨xb, hxb⟩ : ∃ xb, w.heap.size = xb := ⟨_, rfl⟩
 have hb0 : Below w.heap.size w w0 := hw0 ▸ belowL (Below.refl _ _) _
 have bX : Blk w0 xb 52 [.int .i64 k, .slice (some ⟨b, o, none⟩) 4 c1, .slice A2 m2 c2, .slice A3 m3 c3] := by rw [← hw0, ← hxb]; exact Blk.new rfl
 have h0 := h.below hb0
 have r0 := Below.refl w0.heap.size w0
 have x1 := bX.rule 1 _ rfl
 have y3 := h0.blk.rule 3 _ rfl
 have hA0 := hA.low hb0
 have p0 : ∀ w', Below w0.heap.size w0 w' → w'.cell? ⟨b, o, none⟩ = some (.int .i64 n0) := fun w' hb => hn.at_ hA0.be hb 0 rfl
 have HW := hide (And.intro hw0 hxb)
 have hxq : ∀ x, x ∈ gt nb q → x ≠ xb := fun x hx e => by have := h.lt x (List.mem_append_left _ hx); omega
 have H := hide (And.intro h0 (And.intro hb0 (And.intro hi (And.intro hV (And.intro hg (And.intro hfr (And.intro hn1 (And.intro hn3 (And.intro hn (And.intro hA0 (And.intro bX (And.intro hxq hL))))))))))))
 clear h h0 hA hi hV hg hfr hn1 hn3 hn hb0 bX hA0 hw0 hxb hxq hL
 by_cases hlt : n0 < G.bt
 ·have u1 : decide (n0 < G.bt) = true := decide_eq_true hlt
  clear hlt
  have HAN := hide (ganswer_calls (H.out.1.below r0.drew) (by have := H.out.2.2.1.m.on; omega) fr false 0)
  go_enter Tryz.func53, Tryz.ntmps53
  go_upto_region 1 with fail
  (try rw [HW.out.1])
  (try rw [HW.out.2])
  refine lxR (fun w' => Below w0.heap.size w0 w') [] 0 [(2, 0), (0, 1), (2, 2), (0, 3), (2, 4), (2, 5), (2, 6), (2, 7), (0, 8), (2, 9)] #[true, true, true, true, true, true, true, true, true, true] (by kernel_rfl) (by kernel_rfl) (by decide) (by kernel_rfl) (by kernel_rfl) (fun _ _ _ _ _ h => h) (by (exact r0.drew)) (fun hS0 => ?_)
  simp only [List.map_cons, List.map_nil, List.getElem?_toArray, List.getElem?_cons_succ, List.getElem?_cons_zero]
  (apply lxP (by rfl); (focus (intro w; go_simp; (try with_reducible rfl); done)); simp only [Act.put, zA39, zB39, zC39]); (apply lxT (by rfl); (focus (intro w hw; (try dsimp only at hw); go_simp; (try with_reducible rfl); done)); simp only [Act.put, zA39, zB39, zC39]); (apply lxP (by rfl); (focus (intro w; go_simp; (try with_reducible rfl); done)); simp only [Act.put, zA39, zB39, zC39]); (apply lxT (by rfl); (focus (intro w hw; (try dsimp only at hw); go_simp; (try with_reducible rfl); done)); simp only [Act.put, zA39, zB39, zC39]); (iterate 4 ((apply lxP (by rfl); (focus (intro w; go_simp; (try with_reducible rfl); done)); simp only [Act.put, zA39, zB39, zC39]))); (apply lxT (by rfl); (focus (intro w hw; (try dsimp only at hw); go_simp; (try with_reducible rfl); done)); simp only [Act.put, zA39, zB39, zC39]); (apply lxP (by rfl); (focus (intro w; go_simp; (try with_reducible rfl); done)); simp only [Act.put, zA39, zB39, zC39])
  refine lxN (fun _ => wqD (by kernel_rfl) ?_ _)
  clear x1 y3 p0 hS0
  go_wp2_with fail
  with_reducible refine HAN.out.mono ?_
  rintro e wz ⟨rfl, qz, nz, hz, hsz, hnz⟩
  have HF : Hid (GW w wz nb q G (u + 3) (g + 40000)) := hide ⟨qz, _, hz, (H.out.2.2.1.nxt H.out.2.2.1.m.next (n := nz) (by omega)).up (by omega), H.out.2.2.2.1.up (by omega), rfl, Int.le_refl _, Int.le_refl _, ((GS.stay (nb := nb) (q := q) H.out.2.1).trans (GS.stay r0.drew)).trans hsz⟩
  clear hz hsz hnz HAN
  go_wp2
  refine bodyPost_ret (results_none rfl _ _ _) rfl ?_
  exact ⟨rfl, HF.out⟩
 ·have u1 : decide (n0 < G.bt) = false := decide_eq_false hlt
  clear hlt
  have HHE := hide (gheard_calls (H.out.1.below r0.drew) fr)
  go_enter Tryz.func53, Tryz.ntmps53
  go_upto_region 1 with fail
  (try rw [HW.out.1])
  (try rw [HW.out.2])
  refine lxR (fun w' => Below w0.heap.size w0 w') [] 0 [(2, 0), (0, 1), (2, 2), (0, 3), (2, 4), (2, 5), (2, 6), (2, 7), (0, 8), (2, 9)] #[true, true, true, true, true, true, true, true, true, true] (by kernel_rfl) (by kernel_rfl) (by decide) (by kernel_rfl) (by kernel_rfl) (fun _ _ _ _ _ h => h) (by (exact r0.drew)) (fun hS0 => ?_)
  simp only [List.map_cons, List.map_nil, List.getElem?_toArray, List.getElem?_cons_succ, List.getElem?_cons_zero]
  (apply lxP (by rfl); (focus (intro w; go_simp; (try with_reducible rfl); done)); simp only [Act.put, zA39, zB39, zC39]); (apply lxT (by rfl); (focus (intro w hw; (try dsimp only at hw); go_simp; (try with_reducible rfl); done)); simp only [Act.put, zA39, zB39, zC39]); (apply lxP (by rfl); (focus (intro w; go_simp; (try with_reducible rfl); done)); simp only [Act.put, zA39, zB39, zC39]); (apply lxT (by rfl); (focus (intro w hw; (try dsimp only at hw); go_simp; (try with_reducible rfl); done)); simp only [Act.put, zA39, zB39, zC39]); (iterate 4 ((apply lxP (by rfl); (focus (intro w; go_simp; (try with_reducible rfl); done)); simp only [Act.put, zA39, zB39, zC39]))); (apply lxT (by rfl); (focus (intro w hw; (try dsimp only at hw); go_simp; (try with_reducible rfl); done)); simp only [Act.put, zA39, zB39, zC39]); (apply lxP (by rfl); (focus (intro w; go_simp; (try with_reducible rfl); done)); simp only [Act.put, zA39, zB39, zC39])
  refine lxN (fun _ => wqD (by kernel_rfl) ?_ _)
  clear x1 y3 p0 hS0
  go_wp2_with fail
  with_reducible refine HHE.out.mono ?_
  rintro e w2 ⟨rfl, h2, hs2⟩
  obtain ⟨_, hb0, hi, hV, hg, hfr, hn1, hn3, hn, hA0, bX, hxq, hL⟩ := H.out
  have hi2 : GI u { G with quiet := 0, leader := fr, role := 0 } := ⟨hi.id, hi.bt, hi.bv, hi.com, hi.told, ⟨Int.le_refl _, Int.natCast_nonneg u⟩, hi.beats, hi.m⟩
  obtain ⟨G2, hG2⟩ : ∃ G2, ({ G with quiet := 0, leader := fr, role := 0 } : Gd) = G2 := ⟨_, rfl⟩
  have he2 : G2.id = G.id ∧ G2.bt = G.bt ∧ G2.commit = G.commit ∧ G2.m = G.m := by rw [← hG2]; exact ⟨rfl, rfl, rfl, rfl⟩
  rw [hG2] at h2 hi2
  have hs02 : GS w w2 nb q q := ((GS.stay hb0).trans (GS.stay r0.drew)).trans hs2
  have hA2 : GA W w2 nb q := (hA0.low r0.drew).step hs2
  have bX2 := (bX.below r0.drew).chg hs2.c (fun hx => hxq xb hx rfl)
  have hV2 : VltOk G2.m.V g := by rw [he2.2.2.2]; exact hV
  have H2 := hide (And.intro h2 (And.intro hi2 (And.intro he2 (And.intro hs02 (And.intro hA2 (And.intro bX2 hV2))))))
  clear h2 hi2 he2 hs2 hs02 hA2 bX2 hG2 hb0 hi hV hg hfr hn1 hn3 hn hA0 bX hxq hL hV2 r0 HHE HW
  have x3 : w2.cell? ⟨xb, 3, none⟩ = some (.slice A3 m3 c3) := H2.out.2.2.2.2.2.1.cell 3
  go_wp2
  clear x3
  go_loopw [6, 8, 9, 10, 33, 34, 35, 36, 37, 38, 39, 40, 41, 42, 43, 44, 45, 46, 47, 48] (fun ov _ _ _ iv _ _ _ _ _ _ _ _ _ _ _ _ _ _ _ wr => ∃ (k : Nat) (A : Option Addr) (c : Nat) (ys : List Ent), k ≤ m3 ∧ iv = .int .i64 k ∧ ov = .slice A ys.length c ∧ Hid (ys.length = k) ∧ Hid (OE w2 wr A c ys ∧ Below w2.heap.size w2 wr)) (fun _ _ _ _ iv _ _ _ _ _ _ _ _ _ _ _ _ _ _ _ _ => m3 - (Go.RowKit.intOf iv).toNat)
  case atStart => exact ⟨0, none, 0, [], Nat.zero_le _, rfl, rfl, hide rfl, hide ⟨⟨ownsRow_nil _ _ _, fun y hy => (by cases hy), fun y hy => (by cases hy), fun g hg => (by cases hg)⟩, Below.refl _ _⟩⟩
  case round =>
   obtain ⟨k1, A, c, ys, hk1, rfl, rfl, hys, hO⟩ := hrel
   by_cases hlt : k1 < m3
   ·have i1 : (k1 : Int) < m3 := by omega
    have hbe : Below W.heap.size W wr := H2.out.2.2.2.2.1.be.trans (hO.out.2.mono H2.out.2.2.2.2.1.be.size)
    obtain ⟨b3, o3, rfl, hc3⟩ := H.out.2.2.2.2.2.2.2.2.2.2.2.2 (by omega)
    obtain ⟨A', c', bs, hce, htb⟩ := hc3 k1 hlt
    have z0 := hce wr hbe
    have HRE := hide (entrd_calls (w := wr) A' c' bs (htb.at_ hbe) htb.le htb.by_)
    clear hc3 hce htb hbe
    go_wp2_with fail
    with_reducible refine HRE.out.mono ?_
    rintro e w4 ⟨⟨t, kk, A4, c4, xs, ok, rfl, ho4, ht4, hk4, hx4, hy4⟩, hb4⟩
    have HX := hide (And.intro ho4 (And.intro ht4 (And.intro hk4 (And.intro hx4 (And.intro hy4 hb4)))))
    clear ho4 ht4 hk4 hx4 hy4 hb4 z0 HRE
    cases ok with
    |false =>
     have HF : Hid (∀ w', Below w4.heap.size w4 w' → GW w w' nb q G (u + 3) (g + 40000)) := hide (fun w' hb => ⟨q, G2, H2.out.1.below (belowA hb (belowA HX.out.2.2.2.2.2 hO.out.2)), H2.out.2.1.up (by omega), H2.out.2.2.2.2.2.2.up (by omega), H2.out.2.2.1.1, by rw [H2.out.2.2.1.2.1]; exact Int.le_refl _, by rw [H2.out.2.2.1.2.2.1]; exact Int.le_refl _, H2.out.2.2.2.1.trans (GS.stay (belowA hb (belowA HX.out.2.2.2.2.2 hO.out.2)))⟩)
     clear hys hO
     go_wp2
     refine bodyPost_ret (results_none rfl _ _ _) rfl ?_
     exact ⟨rfl, HF.out _ (belowL (Below.refl _ _) _)⟩
    |true =>
     obtain ⟨wA, hwA⟩ : ∃ wA, w4.alloc (.cells #[.int .i64 t, .int .i64 kk, .slice A4 xs.length c4] 73) = wA := ⟨_, rfl⟩
     obtain ⟨xE, hxE⟩ : ∃ xE, w4.heap.size = xE := ⟨_, rfl⟩
     have hb24 := belowA HX.out.2.2.2.2.2 hO.out.2
     have hbA : Below w4.heap.size w4 wA := hwA ▸ belowL (Below.refl _ _) _
     have bE : Blk wA xE 73 [.int .i64 t, .int .i64 kk, .slice A4 xs.length c4] := by rw [← hwA, ← hxE]; exact Blk.new rfl
     have e0 : wA.cell? ⟨xE, 0, none⟩ = some (.int .i64 t) := bE.cell 0
     have e1 : wA.cell? ⟨xE, 1, none⟩ = some (.int .i64 kk) := bE.cell 1
     have e2 : wA.cell? ⟨xE, 2, none⟩ = some (.slice A4 xs.length c4) := bE.cell 2
     have hOE : OE w2 wA A c ys := (hO.out.1.below HX.out.2.2.2.2.2).below hbA
     have hEN : EntOk wA ⟨t, kk, A4, c4, bi xs⟩ := by
      obtain ⟨A2, c2, e2, _, hcm, _⟩ := own_view HX.out.1.1
      cases e2
      exact (HX.out.1.bt.ent HX.out.2.2.2.2.1 hcm t kk).below hbA
     have hCO : ConG (cons [(⟨t, kk, A4, c4, bi xs⟩ : Ent)]) := fun z hz => by
      rw [show cons [(⟨t, kk, A4, c4, bi xs⟩ : Ent)] = [((t : Int), (kk : Int), bi xs)] from rfl] at hz
      exact ⟨t, kk, xs, List.mem_singleton.1 hz, by have := HX.out.2.1; omega, by have := HX.out.2.2.1; omega, by have := HX.out.2.2.2.1; omega, HX.out.2.2.2.2.1⟩
     have HOE := hide (And.intro hOE (And.intro (Nat.le_trans hb24.size hbA.size) (And.intro (show ys.length ≤ 1000 by have := hys.out; omega) (And.intro hEN hCO))))
     have HB4 := hide (belowA hbA hb24)
     have HWA := hide (And.intro hwA hxE)
     clear hb24 hbA bE hOE hEN hCO HX hO hwA hxE
     go_upto_region 10 with fail
     rw [HWA.out.1, HWA.out.2]
     go_wp2_with (at_builtin; refine wpList_appendE (w0 := w2) rfl _ _ rfl t kk A4 c4 xs HOE.out.1 HOE.out.2.1 HOE.out.2.2.1 rfl rfl HOE.out.2.2.2.1 HOE.out.2.2.2.2 ?_)
     intro A5 c5 w5 hO5 hc5
     have H5 : Hid (OE w2 w5 A5 c5 (ys ++ [⟨t, kk, A4, c4, bi xs⟩]) ∧ Below w2.heap.size w2 w5) := hide ⟨hO5, Chg.onto HB4.out HB4.out.size hc5 (fun x hx => HOE.out.1.ge x (by simpa using hx))⟩
     clear hO5 hc5 HOE
     go_wp2
     go_roundw
     case rel => exact ⟨k1 + 1, A5, c5, ys ++ [⟨t, kk, A4, c4, bi xs⟩], by omega, by go_num, by first | rfl | simp, hide (by simp [hys.out]), H5⟩
     case measure => simp [Go.RowKit.intOf]; omega
   ·have i1 : ¬ (k1 : Int) < m3 := by omega
    obtain ⟨h2, hi2, he2, hs02, hA2, bX2, hV2⟩ := H2.out
    obtain ⟨_, hb0, hi, hV, hg, hfr, hn1, hn3, hn, hA0, bX, hxq, hL⟩ := H.out
    have hr := h2.below hO.out.2
    have hAr := hA2.low hO.out.2
    have hsr := hs02.trans (GS.stay hO.out.2)
    have bXr := bX2.below hO.out.2
    have x1 : wr.cell? ⟨xb, 1, none⟩ = some (.slice (some ⟨b, o, none⟩) 4 c1) := bXr.cell 1
    have p1 := hn.one hAr.be 1 rfl
    have p2 := hn.one hAr.be 2 rfl
    have y5 : wr.cell? ⟨nb, 5, none⟩ = some (.int .i64 G2.m.si) := hr.blk.cell 5
    have hkm : k1 = m3 := by omega
    have hyl : ys.length = m3 := by rw [hys.out, hkm]
    have HR := hide (And.intro hr (And.intro hAr (And.intro hsr (And.intro bXr (And.intro hO.out.1 hyl)))))
    clear h2 hi2 he2 hs02 hA2 bX2 hV2 hb0 hi hV hg hfr hn1 hn3 hn hA0 bX hxq hL hr hAr hsr bXr hys hO hlt hkm
    by_cases hps : n1 < G2.m.si
    ·have u2 : decide (n1 < G2.m.si) = true := decide_eq_true hps
     have HAN := hide (ganswer_calls HR.out.1 (by have := H2.out.2.1.m.on; omega) fr true G2.m.si)
     clear hps hyl
     go_wp2_with fail
     with_reducible refine HAN.out.mono ?_
     rintro e wz ⟨rfl, qz, nz, hz, hsz, hnz⟩
     have HF : Hid (GW w wz nb q G (u + 3) (g + 40000)) := hide ⟨qz, _, hz, (H2.out.2.1.nxt H2.out.2.1.m.next (n := nz) (by omega)).up (by omega), H2.out.2.2.2.2.2.2.up (by omega), H2.out.2.2.1.1, by rw [← H2.out.2.2.1.2.1]; exact Int.le_refl _, by rw [← H2.out.2.2.1.2.2.1]; exact Int.le_refl _, HR.out.2.2.1.trans hsz⟩
     clear hz hsz hnz HAN
     go_wp2
     refine bodyPost_ret (results_none rfl _ _ _) rfl ?_
     exact ⟨rfl, HF.out⟩
    ·have u2 : decide (n1 < G2.m.si) = false := decide_eq_false hps
     have HRP0 := greplace_calls HR.out.1 H2.out.2.1.m (by omega) H2.out.2.2.2.2.2.2 (by have := H.out.2.2.2.2.1; omega) n1 n2 (by rw [H2.out.2.1.m.li]; have := H.out.2.2.2.2.2.2.1; omega) HR.out.2.2.2.2.1.ents HR.out.2.2.2.2.1.con (by rw [cons_length]; omega) (fun a ha hx => by have h1 := HR.out.2.2.2.2.1.ge a ha; have h2 := H2.out.1.lt a (List.mem_append_left _ hx); omega)
     have HRP := hide HRP0
     clear hps HRP0 hyl
     go_wp2_with fail
     with_reducible refine HRP.out.mono ?_
     rintro e w4 ⟨⟨r, rfl⟩, q4, V4, d4, L4, h4, hC4, hn4, hok4, hs4⟩
     have hyl := HR.out.2.2.2.2.2
     have hi4 : GI (u + 1) (G2.rep L4 V4 d4) := H2.out.2.1.reps hC4 (by rw [cons_length] at hn4; have := H2.out.2.1.m.n; omega)
     obtain ⟨G4, hG4⟩ : ∃ G4, G2.rep L4 V4 d4 = G4 := ⟨_, rfl⟩
     have he2 := H2.out.2.2.1
     have he4 : G4.id = G.id ∧ G.bt ≤ G4.bt ∧ G.commit ≤ G4.commit ∧ VltOk G4.m.V (g + 40000) ∧ G4.dead = d4 := by rw [← hG4]; exact ⟨he2.1, by show G.bt ≤ G2.bt; rw [he2.2.1]; exact Int.le_refl _, by show G.commit ≤ G2.commit; rw [he2.2.2.1]; exact Int.le_refl _, hok4, rfl⟩
     rw [hG4] at h4 hi4
     have hb4 := (HR.out.2.1.step hs4)
     have bX4 := HR.out.2.2.2.1.chg hs4.c (fun hx => H.out.2.2.2.2.2.2.2.2.2.2.2.1 xb hx rfl)
     have H4 := hide (And.intro h4 (And.intro hi4 (And.intro he4 (And.intro hb4 (And.intro bX4 (HR.out.2.2.1.trans hs4))))))
     clear hyl hi4 hG4 he2 he4 hb4 bX4 h4 hC4 hn4 hok4 hs4 x1 p1 p2 y5 HRP
     cases r with
     |false =>
      obtain ⟨h4, hi4, he4, hb4, bX4, hs4⟩ := H4.out
      have hla := lg_last h4.log (by rw [hi4.m.li]; exact hi4.m.si.1) (by rw [hi4.m.li]; have := hi4.m.si.2; omega) (by have := hi4.m.n; omega)
      obtain ⟨la, hlae⟩ : ∃ la : Int, G4.m.li + (G4.m.L.length : Int) = la := ⟨_, rfl⟩
      obtain ⟨lt, hlte⟩ : ∃ lt : Int, (G4.m.L.getLast?.map (·.1)).getD G4.m.lt = lt := ⟨_, rfl⟩
      rw [hlae, hlte] at hla
      have HLA := hide hla
      have y9 : w4.cell? ⟨nb, 9, none⟩ = some (.pointer (some ⟨q4.lb, 0, none⟩)) := h4.blk.cell 9
      have c1 : IntKind.i64.wrap (n1 - 1) = n1 - 1 := IntWalk.i64_in _ (by have := H.out.2.2.2.2.2.2.1; omega)
      clear h4 hi4 he4 hb4 bX4 hs4 hla hlae hlte
      go_wp2_with fail
      with_reducible refine HLA.out.mono ?_
      rintro e w5 ⟨rfl, q5, rfl⟩
      have hb5 := below_drewN (Below.refl w4.heap.size w4) q5
      obtain ⟨w5, hw5⟩ : ∃ w5, w4.drewN q5 = w5 := ⟨_, rfl⟩
      rw [hw5] at hb5 ⊢
      have HAN := hide (ganswer_calls (H4.out.1.below hb5) (by have := H4.out.2.1.m.on; omega) fr false (min la (n1 - 1)))
      have HB5 := hide hb5
      clear hb5 hw5 y9 HLA
      go_wp2_with fail
      with_reducible refine HAN.out.mono ?_
      rintro e wz ⟨rfl, qz, nz, hz, hsz, hnz⟩
      have HF : Hid (GW w wz nb q G (u + 3) (g + 40000)) := hide ⟨qz, _, hz, (H4.out.2.1.nxt H4.out.2.1.m.next (n := nz) (by omega)).up (by omega), H4.out.2.2.1.2.2.2.1, H4.out.2.2.1.1, H4.out.2.2.1.2.1, H4.out.2.2.1.2.2.1, (H4.out.2.2.2.2.2.trans (GS.stay HB5.out)).trans hsz⟩
      clear hz hsz hnz HAN
      go_wp2
      refine bodyPost_ret (results_none rfl _ _ _) rfl ?_
      exact ⟨rfl, HF.out⟩
     |true =>
      cases d4 with
      |true =>
       have y2 : w4.cell? ⟨nb, 2, none⟩ = some (.bool true) := by have := H4.out.1.blk.cell 2; simp only [Gd.cells, List.getElem?_cons_succ, List.getElem?_cons_zero, H4.out.2.2.1.2.2.2.2] at this; exact this
       go_wp2
       refine bodyPost_ret (results_none rfl _ _ _) rfl ?_
       exact ⟨rfl, q4, G4, H4.out.1, H4.out.2.1.up (by omega), H4.out.2.2.1.2.2.2.1, H4.out.2.2.1.1, H4.out.2.2.1.2.1, H4.out.2.2.1.2.2.1, H4.out.2.2.2.2.2⟩
      |false =>
       have y2 : w4.cell? ⟨nb, 2, none⟩ = some (.bool false) := by have := H4.out.1.blk.cell 2; simp only [Gd.cells, List.getElem?_cons_succ, List.getElem?_cons_zero, H4.out.2.2.1.2.2.2.2] at this; exact this
       have r4 := Below.refl w4.heap.size w4
       have y10 := H4.out.1.blk.rule 10 _ rfl
       have x1 := H4.out.2.2.2.2.1.rule 1 _ rfl
       have hbe := H4.out.2.2.2.1.be
       have hnn := H.out.2.2.2.2.2.2.2.2.1
       have p3 : ∀ w', Below w4.heap.size w4 w' → w'.cell? ⟨b, o + 3, none⟩ = some (.int .i64 n3) := fun w' hb => hnn.at_ hbe hb 3 rfl
       obtain ⟨ms, hms⟩ : ∃ ms : Int, n1 + (ys.length : Int) = ms := ⟨_, rfl⟩
       have hmb : 0 ≤ ms ∧ ms ≤ 549755814888 := by have := HR.out.2.2.2.2.2; have := H.out.2.2.2.2.2.2.1; omega
       have c1 : IntKind.i64.wrap (n1 + (ys.length : Int)) = ms := by rw [IntWalk.i64_in _ (by omega)]; exact hms
       have h4d := H4.out.1.below r4.drew
       have q10 := h4d.blk.cell 10
       have f10 := h4d.blk.frozen 10
       simp only [Gd.cells, List.getElem?_cons_succ, List.getElem?_cons_zero] at q10
       have HMS := hide (And.intro hmb hms)
       clear hms hbe hnn h4d
       go_upto_region 19 with fail
       clear y2
       refine lxR (fun w' => Below w4.heap.size w4 w') [17] 0 [(2, 0), (2, 1), (2, 2), (2, 3), (0, 4), (2, 5), (0, 6), (2, 7), (0, 8), (2, 9), (2, 10), (2, 11), (2, 12), (2, 13), (2, 14), (2, 15), (2, 16), (3, 17)] #[true, true, true, true, true, true, true, true, true, true, true, true, true, true, true, true, true, true] (by kernel_rfl) (by kernel_rfl) (by decide) (by kernel_rfl) (by kernel_rfl) (fun _ _ _ _ _ h => h) (by (exact r4.drew)) (fun hS0 => ?_)
       simp only [List.map_cons, List.map_nil, List.getElem?_toArray, List.getElem?_cons_succ, List.getElem?_cons_zero]
       (iterate 4 ((apply lxP (by rfl); (focus (intro w; go_simp; (try with_reducible rfl); done)); simp only [Act.put, zA39, zB39, zC39]))); (apply lxT (by rfl); (focus (intro w hw; (try dsimp only at hw); go_simp; (try with_reducible rfl); done)); simp only [Act.put, zA39, zB39, zC39]); (apply lxP (by rfl); (focus (intro w; go_simp; (try with_reducible rfl); done)); simp only [Act.put, zA39, zB39, zC39]); (apply lxT (by rfl); (focus (intro w hw; (try dsimp only at hw); go_simp; (try with_reducible rfl); done)); simp only [Act.put, zA39, zB39, zC39]); (apply lxP (by rfl); (focus (intro w; go_simp; (try with_reducible rfl); done)); simp only [Act.put, zA39, zB39, zC39]); (apply lxT (by rfl); (focus (intro w hw; (try dsimp only at hw); go_simp; (try with_reducible rfl); done)); simp only [Act.put, zA39, zB39, zC39]); (iterate 8 ((apply lxP (by rfl); (focus (intro w; go_simp; (try with_reducible rfl); done)); simp only [Act.put, zA39, zB39, zC39]))); (refine lxF (by rfl) ?_; go_simp)
       refine lxN (fun _ => wqD (by kernel_rfl) ?_ _)
       obtain ⟨cm, hcm⟩ : ∃ cm, max G4.commit (min n3 ms) = cm := ⟨_, rfl⟩
       have hcb : G4.commit ≤ cm ∧ cm ≤ 2199023255552 := by have := H4.out.2.1.com; have := H.out.2.2.2.2.2.2.2.1; omega
       rw [hcm]
       obtain ⟨h5, s5⟩ := H4.out.1.set1 10 (.int .i64 cm) { G4 with commit := cm } rfl rfl
       have hi5 : GI (u + 1) { G4 with commit := cm } := H4.out.2.1.coms (r := G4.role) hcb.1 hcb.2
       obtain ⟨w5, hw5⟩ : ∃ w5, (w4.setCell ⟨nb, 10, none⟩ (.int .i64 cm)).drew = w5 := ⟨_, rfl⟩
       have hbd : Below (w4.setCell ⟨nb, 10, none⟩ (.int .i64 cm)).heap.size (w4.setCell ⟨nb, 10, none⟩ (.int .i64 cm)) w5 := hw5 ▸ (Below.refl _ _).drew
       have h5' := h5.below hbd
       have s5' := s5.trans (GS.stay hbd)
       rw [hw5]
       have HAN := hide (ganswer_calls h5' (by have := H4.out.2.1.m.on; show G4.m.on ≤ _; omega) fr true ms)
       have H5 := hide (And.intro hi5 (And.intro hcb (H4.out.2.2.2.2.2.trans s5')))
       clear h5 s5 hi5 hw5 hbd h5' s5' hcm hcb hS0 q10 f10 y10 x1 p3 r4
       go_wp2_with fail
       with_reducible refine HAN.out.mono ?_
       rintro e wz ⟨rfl, qz, nz, hz, hsz, hnz⟩
       have HF : Hid (GW w wz nb q G (u + 3) (g + 40000)) := hide ⟨qz, _, hz, (H5.out.1.nxt H5.out.1.m.next (n := nz) (by have : nz ≤ G4.m.on + 1 := hnz; show nz ≤ G4.m.on + 100; omega)).up (by omega), H4.out.2.2.1.2.2.2.1, H4.out.2.2.1.1, H4.out.2.2.1.2.1, Int.le_trans H4.out.2.2.1.2.2.1 H5.out.2.1.1, H5.out.2.2.trans hsz⟩
       clear hz hsz hnz HAN
       go_wp2
       go_end0
       exact ⟨rfl, HF.out⟩
end
end Go.Proofs.YteppdlkmjgladaaGreat
