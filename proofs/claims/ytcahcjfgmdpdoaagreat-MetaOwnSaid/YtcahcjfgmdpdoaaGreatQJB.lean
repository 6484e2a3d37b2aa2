/- One text of: Jsc Jsw Jop. -/
import Derived.Test.YtcahcjfgmdpdoaaGreatQJA
set_option maxHeartbeats 2000000
set_option maxRecDepth 100000
namespace Go.Proofs.YtcahcjfgmdpdoaaGreat
open Go.RowKit Go.Proofs
set_option linter.unusedVariables false
set_option linter.unusedSimpArgs false

structure Tx where
 A : Option Addr
 c : Nat
 b : List Nat
def Tx.cells (x : Tx) : List Value := [.slice x.A x.b.length x.c]
def txCells (l : List Tx) : List Value := l.flatMap Tx.cells
def OwnT (w w' : World) (A : Option Addr) (c : Nat) (L : List (List Nat)) : Prop :=
 ∃ X : List Tx, X.map Tx.b = L ∧ w'.ownsRow 0 42 1 (.slice A L.length c) L.length (txCells X) ∧ (∀ g, A.map Addr.block = some g → w.heap.size ≤ g) ∧ ∀ x ∈ X, OwnB w w' x.A x.c x.b
theorem OwnT.nil (w w' : World) : OwnT w w' none 0 [] := ⟨[], rfl, ownsRow_nil _ _ _, fun g hg => (by cases hg), by simp⟩
theorem OwnT.back {w w0 w' : World} {A : Option Addr} {c : Nat} {L : List (List Nat)} (h : OwnT w0 w' A c L) (hs : w.heap.size ≤ w0.heap.size) : OwnT w w' A c L := by
 obtain ⟨X, h1, h2, h3, h4⟩ := h
 exact ⟨X, h1, h2, fun g hg => Nat.le_trans hs (h3 g hg), fun x hx => (h4 x hx).back hs⟩
theorem OwnT.below {w w1 w2 : World} {A : Option Addr} {c : Nat} {L : List (List Nat)} (h : OwnT w w1 A c L) (hb : Below w1.heap.size w1 w2) : OwnT w w2 A c L := by
 obtain ⟨X, h1, h2, h3, h4⟩ := h
 exact ⟨X, h1, own_chg h2 (Chg.of_below (L := []) hb) (by simp), h3, fun x hx => (h4 x hx).below hb⟩
theorem own_own {w : World} {e t : TypeId} {s s' n n' c c' g : Nat} {A A' : Option Addr} {xs xs' : List Value} (h : w.ownsRow 0 e s (.slice A n c) n xs) (h' : w.ownsRow 0 t s' (.slice A' n' c') n' xs') (hg : A.map Addr.block = some g) (hg' : A'.map Addr.block = some g) : t = e := by
 rcases h'.2 with ⟨h6, _⟩ | ⟨g2, cap, cur, e2, _, hgg, _⟩
 ·cases h6
  cases hg'
 ·cases e2
  cases hg'
  exact own_typed (g := g2) h hg (show Blk w g2 t cur.toList from hgg)
theorem Tryz.infoS : (Tryz.prog.info? 42).map (fun i => (i.zero, i.size, i.bytes)) = some (some (.slice none 0 0), 1, 24) := by kernel_rfl
theorem OwnT.push {w w2 w3 : World} {A : Option Addr} {c2 : Nat} {L : List (List Nat)} {X : List Tx} {A2 : Option Addr} {t : List Nat} {v : Value}
  (h1 : X.map Tx.b = L) (h3 : ∀ g, A.map Addr.block = some g → w.heap.size ≤ g) (h4 : ∀ x ∈ X, OwnB w w2 x.A x.c x.b) (ht : OwnB w w2 A2 c2 t) (hs : w.heap.size ≤ w2.heap.size)
  (ho : w3.ownsRow 0 42 1 v (L.length + 1) (txCells X ++ [.slice A2 t.length c2])) (hc : Chg (A.map Addr.block).toList w2 w3) (hA : ∀ g, A.map Addr.block = some g → ∀ x ∈ Tx.mk A2 c2 t :: X, x.A.map Addr.block ≠ some g) (hg : ∀ g, v.ownBlock = some g → A.map Addr.block = some g ∨ w2.heap.size ≤ g) :
  ∃ A3 c3, v = .slice A3 (L.length + 1) c3 ∧ OwnT w w3 A3 c3 (L ++ [t]) := by
 obtain ⟨A3, c3, rfl, _, _, _, _, _⟩ := own_view ho
 refine ⟨A3, c3, rfl, X ++ [⟨A2, c2, t⟩], by simp [h1], ?_, fun g hg' => ?_, fun x hx => ?_⟩
 ·rw [show txCells (X ++ [⟨A2, c2, t⟩]) = txCells X ++ [.slice A2 t.length c2] by simp [txCells, Tx.cells]]
  simpa using ho
 ·rcases hg g (by rw [owS]; exact hg') with h | h
  ·exact h3 g h
  ·exact Nat.le_trans hs h
 ·have hk : ∀ x, x ∈ Tx.mk A2 c2 t :: X → OwnB w w2 x.A x.c x.b → OwnB w w3 x.A x.c x.b := fun x hx h => ⟨own_chg h.1 hc (fun g hg hgx => by
   rw [owS] at hg
   exact hA g (by simpa using hgx) x hx hg), h.2⟩
  rcases List.mem_append.1 hx with hx | hx
  ·exact hk x (List.mem_cons_of_mem _ hx) (h4 x hx)
  ·obtain rfl : x = ⟨A2, c2, t⟩ := by simpa using hx
   exact hk _ (List.mem_cons_self ..) ht
theorem jscanF_none {B : List Nat} {gen f used : Nat} {out : List (List Nat)} (h : jread (B.drop (used * 64)) gen out.length = none) : jscanF B gen (f + 1) out used = (out, used) := by
 unfold jscanF; rw [h]
theorem jscanF_some {B : List Nat} {gen f used s : Nat} {out : List (List Nat)} {t : List Nat} (h : jread (B.drop (used * 64)) gen out.length = some (t, s)) : jscanF B gen (f + 1) out used = jscanF B gen f (out ++ [t]) (used + s) := by
 conv => lhs; unfold jscanF
 rw [h]
theorem jread_size {b t : List Nat} {gen n s : Nat} (h : jread b gen n = some (t, s)) : 1 ≤ s ∧ s * 64 ≤ b.length := by
 unfold jread at h
 split at h
 ·cases h
 ·simp only [] at h
  split at h
  ·cases h
  ·rename_i h2
   split at h
   ·cases h
   ·split at h
    ·cases h
    ·split at h
     ·cases h
      refine ⟨by unfold jsize; omega, by omega⟩
     ·cases h
theorem undB : Tryz.prog.underlying 42 = some (.slice (Tryz.prog.elem 42)) := by kernel_rfl
theorem sizeB (w : World) : (sizeOf (Tryz.prog.elem 42)).run Tryz.prog w = .ok 1 w := by kernel_rfl
theorem sliceB_from {A : Option Addr} {n c m : Nat} (hm : m ≤ n) (w : World) : (Instr.slice 42 (.slice A n c) (some (.int .i64 (m : Int))) none none).run Tryz.prog w = .ok (.slice (if c = m then A else A.map (·.add (m * 1))) (n - m) (c - m)) w := by
 rw [run_slice_l w _ A n c undB .i64 _ (by omega) (by omega), sizeB w]; simp only [Result.andThen, sliced, Int.toNat_natCast]
section
variable {w w' : World} {d : Nat} {F G : List Nat} {D : Dev}
theorem jscan_calls (h : DevM w d F D) (fr many gen : Nat) (hf : fr ≤ 100000) (hm : many ≤ 100000) (hg : gen < 2 ^ 63) : Calls Tryz.prog 77 #[.pointer (some ⟨d, 0, none⟩), .int .i64 fr, .int .i64 many, .int .i64 gen] w fun e w' => ∃ A c, e = .returned (.tuple #[.slice A (jscan D fr many gen).2.1.length c, .int .i64 (jscan D fr many gen).2.2, .int .i64 (jscan D fr many gen).1]) ∧ OwnT w w' A c (jscan D fr many gen).2.1 ∧ Below w.heap.size w w' := by
 have HIP := hide (ispart_calls h fr many hf hm); obtain ⟨R, hR⟩ : ∃ R, jscan D fr many gen = R := ⟨_, rfl⟩; rw [hR]; unfold jscan at hR; have H := hide h
 have hnil : ∀ w' : World, OwnT w w' none 0 [] := fun w' => ⟨[], rfl, ownsRow_nil _ _ _, fun g hg => (by cases hg), by simp⟩
 have HNIL := hide hnil; clear h hnil
 by_cases hp : fr + many ≤ D.l.length
 ·have hd : decide (fr + many ≤ D.l.length) = true := by simpa using hp
  by_cases hgn : gen ≤ 1099511627776
  ·have hdz2 : decide ((0 : Int) ≤ gen ∧ (gen : Int) ≤ 1099511627776) = true := by simp; omega
   rw [if_neg (by omega)] at hR; have HD := hd3 hd hdz2 hp; have HBY := jbytes_calls H.out fr many hp; obtain ⟨⟨e0, B⟩, hB⟩ : ∃ x, D.bytes fr many = x := ⟨_, rfl⟩; rw [hB] at HBY; simp only [hB] at hR; have HBY := hide HBY
   have HBB : Hid (e0 = 0 → B = secs D fr many) := hide (fun e => by
    subst e; unfold Dev.bytes at hB
    split at hB
    ·cases hB
    ·cases hB; rfl)
   clear hd hdz2 hB hp
   go_enter Tryz.func77, Tryz.ntmps77
   go_wp2
   go_step3
   go_wp2_with fail; refine HIP.out.mono ?_; rintro e w' ⟨rfl, rfl⟩; rw [HD.out.1]; go_wp2_with fail
   refine (isnum_calls _ _).mono ?_
   rintro e w' ⟨rfl, rfl⟩; rw [HD.out.2.1]; go_wp2_with fail; refine HBY.out.mono ?_; rintro e w1 ⟨A1, c1, rfl, ho1, hb1⟩
   by_cases he : e0 = 0
   ·rw [if_neg (by simpa using he)] at hR
    subst he; have HB := hd2 ho1 hb1; clear ho1 hb1; go_wp2
    go_step3
    go_wp2; have hBe := HBB.out trivial
    have hBl : B.length = many * 64 := by rw [hBe]; exact secs_len H.out.ok many HD.out.2.2
    have hBb : ∀ x ∈ B, x < 256 := by rw [hBe]; exact secs_byte H.out.ok
    have HBB2 := hd2 hBl hBb; clear hBe hBl hBb HBB
    go_loopw [13, 14, 15, 16, 17, 38, 39, 40, 41, 42, 43, 44, 45, 46, 47, 48, 49, 50, 51, 52, 53, 54, 55, 56, 57, 58, 59] (fun ov uv _ _ _ _ _ _ _ _ _ _ _ _ _ _ _ _ _ _ _ _ _ _ _ _ _ wr => ∃ (u f : Nat) (L : List (List Nat)) (A : Option Addr) (c : Nat), u ≤ many ∧ uv = .int .i64 u ∧ ov = .slice A L.length c ∧ Hid (many + 1 ≤ f + u ∧ L.length ≤ u ∧ R = (0, jscanF B gen f L u)) ∧ OwnT w1 wr A c L ∧ Below w1.heap.size w1 wr) (fun ov uv _ _ _ _ _ _ _ _ _ _ _ _ _ _ _ _ _ _ _ _ _ _ _ _ _ _ => many - (Go.RowKit.intOf uv).toNat)
    case atStart => exact ⟨0, many + 1, [], none, 0, Nat.zero_le _, rfl, rfl, hide ⟨by omega, Nat.zero_le _, hR.symm⟩, OwnT.nil _ _, Below.refl _ _⟩
    case round =>
     obtain ⟨u, f, L, A, c, hu, rfl, rfl, hf, hown, hb⟩ := hrel; obtain ⟨m, hm⟩ : ∃ m, u * 64 = m := ⟨_, rfl⟩
     have c2 : IntKind.i64.wrap ((u : Int) * 64) = (m : Int) := by rw [IntWalk.i64_in _ (by omega)]; omega
     have hmB : m ≤ B.length := by have := HBB2.out.1; omega
     have hsl := fun w => sliceB_from (A := A1) (c := c1) hmB w
     have hrb2 : Rb wr [] A1 c1 B := (HB.out.1.rb (no := []) (by simp)).below hb; have hrc := hrb2.cut hmB; obtain ⟨A', hA'⟩ : ∃ A', (if c1 = m then A1 else A1.map (·.add (m * 1))) = A' := ⟨_, rfl⟩; rw [hA'] at hrc; simp only [hA'] at hsl; obtain ⟨n1, hn1⟩ : ∃ n1, B.length - m = n1 := ⟨_, rfl⟩; obtain ⟨c', hc'⟩ : ∃ c', c1 - m = c' := ⟨_, rfl⟩; rw [hc'] at hrc; simp only [hn1, hc'] at hsl
     have hdl : (B.drop m).length = n1 := by rw [List.length_drop, hn1]
     have HRD := jread_calls wr hrc (fun x hx => HBB2.out.2 x (List.mem_of_mem_drop hx)) (by rw [hdl]; have := HBB2.out.1; have := H.out.n; have := HD.out.2.2; omega) gen L.length (by omega) (by have := hf.out; omega); rw [hdl] at HRD; obtain ⟨J, hJ⟩ : ∃ J, jread (B.drop m) gen L.length = J := ⟨_, rfl⟩; rw [hJ] at HRD; have HRD := hide HRD; have HF := hd7 hf.out hown hb hm hJ hdl hn1; clear hf hown hb hm hJ hdl hA' hn1 hc' hrb2 hrc; go_wp2_with fail; refine HRD.out.mono ?_; rintro e w2 ⟨A2, c2', m2, s2, ok, rfl, hb2, hjr⟩
     cases J with
     |none =>
      have hjn : ok = false := hjr; subst hjn
      have hRe : R = (0, L, u) := by
       have h9 := HF.out.1; obtain ⟨f', hf'⟩ : ∃ f', f = f' + 1 := ⟨f - 1, by omega⟩; rw [h9.2.2, hf', jscanF_none (by rw [HF.out.2.2.2.1]; exact HF.out.2.2.2.2.1)]
      have HRE := hide hRe; have H2 := hide hb2; clear hb2 hRe hjr; go_wp2; rw [Exit.noGoto_ret]
      go_ret3
      rw [HRE.out]
      exact ⟨A, c, rfl, (HF.out.2.1.below H2.out).back HB.out.2.size, belowA H2.out (belowA HF.out.2.2.1 HB.out.2)⟩
     |some ts =>
      obtain ⟨t, s⟩ := ts; obtain ⟨rfl, rfl, rfl, hot⟩ : ok = true ∧ s2 = (s : Int) ∧ m2 = t.length ∧ OwnB wr w2 A2 c2' t := hjr; obtain ⟨X, x1, x2, x3, x4⟩ := HF.out.2.1.below hb2; have hsz := jread_size HF.out.2.2.2.2.1; rw [HF.out.2.2.2.2.2.1] at hsz; have hot1 : OwnB w1 w2 A2 c2' t := hot.back HF.out.2.2.1.size; have hb12 : Below w1.heap.size w1 w2 := belowA hb2 HF.out.2.2.1; obtain ⟨iS, hiS, hzS, hz1S, hz2S⟩ := info_parts Tryz.infoS
      have hus : u + s ≤ many := by have := HF.out.2.2.2.1; have := HBB2.out.1; have := HF.out.2.2.2.2.2.2; omega
      have hLL : L.length ≤ 100000 := by have := HF.out.1; omega
      have x2' := own_chg x2 ((Chg.refl [] w2).alloc (.cells #[.slice A2 t.length c2'] 42)) (by simp); have bN : Blk (w2.alloc (.cells #[.slice A2 t.length c2'] 42)) w2.heap.size 42 [.slice A2 t.length c2'] := Blk.new rfl; have HX := hd7 x1 x3 x4 hot1 hb12 hus hsz; clear hot hot1 hb12 hb2 x1 x3 x4 x2 hsz
      go_wp2_with (at_builtin; refine wpList_append_rd rfl _ _ 98 rfl 42 iS _ 1 24 Tryz.underlying98 hiS hzS hz1S hz2S rfl (by decide) (.slice A L.length c) L.length (txCells X) rfl x2' (some ⟨w2.heap.size, 0, none⟩) 1 1 (w2.heap.size + 1) [.slice A2 t.length c2'] rfl ⟨rfl, fun _ => ⟨w2.heap.size, 0, rfl, by omega, fun j u hu => by rw [Nat.zero_add, bN.cell j]; exact hu⟩⟩ (by intro u hu; simp at hu; subst hu; rfl) (by unfold maxLen; omega) (by omega) ?_)
      intro v3 w3 ho3 hc3 hg3
      rw [owS] at hc3; have hwA : Below w2.heap.size w2 (w2.alloc (.cells #[.slice A2 t.length c2'] 42)) := belowL (Below.refl _ _) _
      obtain ⟨A3, c3, rfl, hO3⟩ := OwnT.push (w := w1) (w2 := w2.alloc (.cells #[.slice A2 t.length c2'] 42)) HX.out.1 HX.out.2.1 (fun x hx => (HX.out.2.2.1 x hx).below hwA) (HX.out.2.2.2.1.below hwA) (Nat.le_trans HX.out.2.2.2.2.1.size hwA.size) ho3 hc3 (fun g hg x hx hgx => by
       have h9 : OwnB w1 (w2.alloc (.cells #[.slice A2 t.length c2'] 42)) x.A x.c x.b := by
        rcases List.mem_cons.1 hx with rfl | hx
        ·exact HX.out.2.2.2.1.below hwA
        ·exact (HX.out.2.2.1 x hx).below hwA
       exact absurd (own_own x2' h9.1 hg hgx) (by decide)) (fun g hg => by
        rcases hg3 g hg with h | h
        ·exact Or.inl (by rw [← owS A L.length c]; exact h)
        ·exact Or.inr (by rw [h]; simp))
      have hb13 : Below w1.heap.size w1 w3 := Chg.onto (belowA hwA HX.out.2.2.2.2.1) (belowA hwA HX.out.2.2.2.2.1).size hc3 (fun z hz => HX.out.2.1 z (by simpa using hz)); have H3 := hd2 hO3 hb13
      have cu : IntKind.i64.wrap ((u : Int) + s) = ((u + s : Nat) : Int) := by rw [IntWalk.i64_in _ (by omega)]; omega
      clear ho3 hc3 hg3 hO3 hb13 bN x2' hwA; go_wp2
      go_roundw
      case rel =>
       obtain ⟨f', hf'⟩ : ∃ f', f = f' + 1 := ⟨f - 1, by have := HF.out.1; omega⟩
       refine ⟨u + s, f', L ++ [t], A3, c3, HX.out.2.2.2.2.2.1, by first | rfl | simp, by simp, hide ⟨by have := HF.out.1; have := HX.out.2.2.2.2.2.2.1; omega, by have := HF.out.1; have := HX.out.2.2.2.2.2.2.1; simp; omega, ?_⟩, H3.out.1, H3.out.2⟩
       rw [HF.out.1.2.2, hf', jscanF_some (by rw [HF.out.2.2.2.1]; exact HF.out.2.2.2.2.1)]
      case measure =>
       have := HX.out.2.2.2.2.2.2.1
       simp [Go.RowKit.intOf]
       omega
   ·rw [if_pos (by simpa using he)] at hR
    subst hR
    have i1 : ((e0 : Int) != 0) = true := by simp; omega
    have HB := hide hb1; clear ho1 hb1 he; go_wp2; rw [Exit.noGoto_ret]
    go_ret3
    exact ⟨none, 0, rfl, HNIL.out _, HB.out⟩
  ·have hdz2 : decide ((0 : Int) ≤ gen ∧ (gen : Int) ≤ 1099511627776) = false := by simp; omega
   rw [if_pos (Or.inr (by omega))] at hR; subst hR; have HD := hd2 hd hdz2; clear hd hdz2 hp hgn
   go_enter Tryz.func77, Tryz.ntmps77
   go_wp2
   go_step3
   go_wp2_with fail; refine HIP.out.mono ?_; rintro e w' ⟨rfl, rfl⟩; rw [HD.out.1]; go_wp2_with fail
   refine (isnum_calls _ _).mono ?_
   rintro e w' ⟨rfl, rfl⟩; rw [HD.out.2]; go_wp2; rw [Exit.noGoto_ret]
   go_ret3
   exact ⟨none, 0, rfl, HNIL.out _, Below.refl _ _⟩
 ·have hd : decide (fr + many ≤ D.l.length) = false := by simpa using hp
  rw [if_pos (Or.inl (by omega))] at hR; subst hR; clear hp
  go_enter Tryz.func77, Tryz.ntmps77
  go_wp2
  go_step3
  go_wp2_with fail; refine HIP.out.mono ?_; rintro e w' ⟨rfl, rfl⟩; rw [hd]; clear hd; go_wp2; rw [Exit.noGoto_ret]
  go_ret3
  exact ⟨none, 0, rfl, HNIL.out _, Below.refl _ _⟩
end

theorem flatJ_at : ∀ (l : List (List Nat)) (h : ∀ s ∈ l, s.length = 64) (k : Nat) (hk : k < l.length), (l.flatten.drop (k * 64)).take 64 = l[k]
 |[], _, k, hk => by simp at hk
 |s :: t, h, 0, _ => by
  have hs := h s (by simp); simp only [List.flatten_cons, Nat.zero_mul, List.drop_zero, List.getElem_cons_zero]; rw [List.take_append_of_le_length (by omega), List.take_of_length_le (by omega)]
 |s :: t, h, k + 1, hk => by
  have hs := h s (by simp); simp only [List.flatten_cons, List.getElem_cons_succ]; rw [List.drop_append, List.drop_of_length_le (by omega), List.nil_append, show (k + 1) * 64 - s.length = k * 64 by omega]
  exact flatJ_at t (fun x hx => h x (by simp [hx])) k (by simpa using hk)
theorem Dev.write_len (D : Dev) (i : Int) (b : List Nat) : (D.write i b).2.l.length = D.l.length ∧ (D.write i b).2.waits.length ≤ D.waits.length + 1 := by
 have h := D.burn_l; unfold Dev.write; simp only []
 split
 ·rw [h.1, h.2]; omega
 ·split
  ·rw [h.1, h.2]; omega
  ·simp
theorem Rb.sub {w : World} {no no' : List Nat} {A : Option Addr} {c : Nat} {L : List Nat} (h : Rb w no A c L) (hs : ∀ x ∈ no', x ∈ no) : Rb w no' A c L :=
 ⟨h.le, h.rd, fun a ha => ⟨(h.ap a ha).1, fun hx => (h.ap a ha).2.1 (hs _ hx), (h.ap a ha).2.2⟩⟩
theorem sliceB_mid {A : Option Addr} {n c m k : Nat} (hk : m ≤ k) (hc : k ≤ c) (w : World) : (Instr.slice 42 (.slice A n c) (some (.int .i64 (m : Int))) (some (.int .i64 (k : Int))) none).run Tryz.prog w = .ok (.slice (if c = m then A else A.map (·.add (m * 1))) (k - m) (c - m)) w := by
 rw [run_slice_lh w _ A n c undB .i64 .i64 _ _ (by omega) (by omega) (by omega), sizeB w]; simp only [Result.andThen, sliced, Int.toNat_natCast]
theorem DevT.step {w w1 w2 : World} {d : Nat} {F F1 : List Nat} {D : Dev} (hc : Chg F w w1) (hF : ∀ x ∈ F1, x ∈ F ∨ w.heap.size ≤ x) (h : DevT w1 w2 d F1 D) : DevT w w2 d F D := by
 obtain ⟨F2, h1, h2, h3⟩ := h
 exact ⟨F2, h1, hc.trans h2 hF, fun x hx => (h3 x hx).elim (hF x) (fun h => Or.inr (Nat.le_trans hc.size h))⟩
section
variable {w w' : World} {d : Nat} {F G : List Nat} {D : Dev}
theorem jsweep_calls (h : DevM w d F D) (fr many : Nat) (hr : fr + many ≤ D.l.length) (hw : D.waits.length ≤ 50000) : Calls Tryz.prog 127 #[.pointer (some ⟨d, 0, none⟩), .int .i64 fr, .int .i64 many] w fun e w' => e = .returned (.int .i64 (jsweep D fr many).1) ∧ DevT w w' d F (jsweep D fr many).2 := by
 have HBY := jbytes_calls h fr many hr; obtain ⟨R, hR⟩ : ∃ R, jsweep D fr many = R := ⟨_, rfl⟩; rw [hR]; unfold jsweep at hR; have hn := h.n; have H := hide h; clear h
 by_cases ho : D.off = true ∧ 0 < many
 ·rw [if_pos ho] at hR
  subst hR
  have hB : D.bytes fr many = (17, []) := by unfold Dev.bytes; rw [if_pos ho]
  rw [hB] at HBY; have HBY := hide HBY; clear ho hB
  go_enter Tryz.func127, Tryz.ntmps127
  go_wp2_with fail; refine HBY.out.mono ?_; rintro e w1 ⟨A1, c1, rfl, _, hb1⟩; have HB := hide (H.out.stay hb1); clear hb1; go_wp2; go_ret
  exact ⟨rfl, HB.out⟩
 ·rw [if_neg ho] at hR
  have hB : D.bytes fr many = (0, secs D fr many) := by unfold Dev.bytes; rw [if_neg ho]; rfl
  rw [hB] at HBY; obtain ⟨SL, hSL⟩ : ∃ SL, (D.l.drop fr).take many = SL := ⟨_, rfl⟩
  have hSLl : SL.length = many := by rw [← hSL, List.length_take, List.length_drop]; omega
  have hSL64 : ∀ s ∈ SL, s.length = 64 ∧ ∀ c ∈ s, c < 256 := fun s hs => H.out.ok.l s (by rw [← hSL] at hs; exact List.mem_of_mem_drop (List.mem_of_mem_take hs))
  obtain ⟨B, hBB⟩ : ∃ B, secs D fr many = B := ⟨_, rfl⟩
  have hBS : B = SL.flatten := by rw [← hBB, ← hSL]; rfl
  have hBl : B.length = many * 64 := by rw [← hBB]; exact secs_len H.out.ok many hr
  rw [hBB] at HBY; rw [hSL] at hR; have HBY := hide HBY; have HS := hd4 hSLl hSL64 hBS hBl; clear ho hB hSL hSLl hSL64 hBB hBS hBl; have mk : ∀ w : World, (Instr.makeSlice 42 (.int .i64 64) (.int .i64 64)).run Tryz.prog w = .ok (.slice (some ⟨w.heap.size, 0, none⟩) 64 64) (w.alloc (.cells (bys zero64).toArray 5)) := run_makeB 64 (by omega)
  go_enter Tryz.func127, Tryz.ntmps127
  go_wp2_with fail; refine HBY.out.mono ?_; rintro e w1 ⟨A1, c1, rfl, ho1, hb1⟩; obtain ⟨w2, hw2⟩ : ∃ w2, w1.alloc (.cells (bys zero64).toArray 5) = w2 := ⟨_, rfl⟩; obtain ⟨zb, hzb⟩ : ∃ zb, w1.heap.size = zb := ⟨_, rfl⟩
  have hb12 : Below w1.heap.size w1 w2 := hw2 ▸ belowL (Below.refl _ _) _
  have hZ2 : Blk w2 zb 5 (bys zero64) := by rw [← hw2, ← hzb]; exact Blk.new rfl
  have hb2 := belowA hb12 hb1; have hF := H.out.lt; have hRZ : Rb w2 F (some ⟨zb, 0, none⟩) 64 zero64 := hZ2.rb (by simp) (fun hx => by have := hF _ hx; have := hb1.size; omega); have hRB : Rb w2 F A1 c1 B := (ho1.rb (no := F) hF).below hb12; have H2 := hd4 hRZ hRB hb2 (H.out.below hb2); have HW2 := hd2 hw2 hzb; clear ho1 hb1 hw2 hzb hb12 hZ2 hb2 hF hRZ hRB HBY
  go_upto_region 5 with fail
  (try rw [HW2.out.1])
  (try rw [HW2.out.2])
  clear mk; go_wp2
  go_loopw [6, 10, 11, 12, 25, 26, 27, 28, 29, 30, 31, 32, 33, 34, 35, 36, 37, 38, 39, 40, 41, 42, 43, 44, 45, 46] (fun _ av _ _ iv _ _ _ _ _ _ _ _ _ _ _ _ _ _ _ _ _ _ _ _ _ wr => ∃ (k : Nat) (F1 : List Nat) (Dk : Dev) (any : Bool), k ≤ many ∧ iv = .int .i64 k ∧ av = .bool any ∧ Hid (wipeF SL D fr false = wipeF (SL.drop k) Dk (fr + k) any) ∧ DevM wr d F1 Dk ∧ Chg F w2 wr ∧ (∀ x ∈ F1, x ∈ F ∨ w2.heap.size ≤ x) ∧ Hid (Dk.l.length = D.l.length ∧ Dk.waits.length ≤ D.waits.length + k)) (fun _ av _ _ iv _ _ _ _ _ _ _ _ _ _ _ _ _ _ _ _ _ _ _ _ _ _ => many - (Go.RowKit.intOf iv).toNat)
  case atStart => exact ⟨0, F, D, false, Nat.zero_le _, rfl, rfl, hide rfl, H2.out.2.2.2, Chg.refl _ _, fun x hx => Or.inl hx, hide ⟨rfl, Nat.le_refl _⟩⟩
  case round =>
   obtain ⟨k, F1, Dk, any, hk, rfl, rfl, hwp, hd, hc, hF1, hDk⟩ := hrel; have HC := hd2 hc hF1; have HDM := hide hd
   by_cases hlt : k < many
   ·have i1 : (k : Int) < many := by omega
    obtain ⟨m, hm⟩ : ∃ m, k * 64 = m := ⟨_, rfl⟩; obtain ⟨k1, hk1⟩ : ∃ m, k + 1 = m := ⟨_, rfl⟩; obtain ⟨m2, hm2⟩ : ∃ m, k1 * 64 = m := ⟨_, rfl⟩; obtain ⟨ai, hai⟩ : ∃ m, fr + k = m := ⟨_, rfl⟩
    have q1 : IntKind.i64.wrap ((k : Int) * 64) = (m : Int) := by rw [IntWalk.i64_in _ (by omega)]; omega
    have q2 : IntKind.i64.wrap ((k : Int) + 1) = (k1 : Int) := by rw [IntWalk.i64_in _ (by omega)]; omega
    have q3 : IntKind.i64.wrap ((k1 : Int) * 64) = (m2 : Int) := by rw [IntWalk.i64_in _ (by omega)]; omega
    have q4 : IntKind.i64.wrap ((fr : Int) + k) = (ai : Int) := by rw [IntWalk.i64_in _ (by omega)]; omega
    have hrb := H2.out.2.1.chg hc (fun x hx => Or.inl hx)
    have hm2B : m2 ≤ B.length := by rw [HS.out.2.2.2]; omega
    have hsl := fun w => sliceB_mid (A := A1) (n := B.length) (c := c1) (show m ≤ m2 by omega) (Nat.le_trans hm2B hrb.le) w
    have hrc := hrb.cut (k := m) (by omega); obtain ⟨A', hA'⟩ : ∃ A', (if c1 = m then A1 else A1.map (·.add (m * 1))) = A' := ⟨_, rfl⟩; rw [hA'] at hrc; simp only [hA', show m2 - m = 64 by omega] at hsl; obtain ⟨c', hc'⟩ : ∃ c', c1 - m = c' := ⟨_, rfl⟩; rw [hc'] at hrc; simp only [hc'] at hsl
    have hkS : k < SL.length := by rw [HS.out.1]; exact hlt
    obtain ⟨s, hs⟩ : ∃ s, SL[k] = s := ⟨_, rfl⟩
    have hsl64 : s.length = 64 := by rw [← hs]; exact (HS.out.2.1 _ (List.getElem_mem _)).1
    have hrd := hrc.rd.take (k := 64) (by rw [List.length_drop]; omega); rw [bys_take, HS.out.2.2.1, ← hm, flatJ_at SL (fun x hx => (HS.out.2.1 x hx).1) k hkS, hs] at hrd; have hrz := H2.out.1.chg hc (fun x hx => Or.inl hx); have HEQ := equalBytes_calls s zero64 A' (some ⟨zb, 0, none⟩) c' 64 wr (by rw [hsl64]; exact hrd) hrz.rd (by omega) (by simp); rw [hsl64, show zero64.length = 64 by simp] at HEQ; have HEQ := hide HEQ
    have hdr : SL.drop k = s :: SL.drop (k + 1) := by rw [List.drop_eq_getElem_cons hkS, hs]
    rw [hdr] at hwp; have HW := hd3 hwp.out hk1 hai; clear hrb hrc hrd hrz hA' hc' hs hdr hwp hc hF1 hsl64 hm hk1 hm2 hai hm2B hkS hd; go_wp2_with fail; refine HEQ.out.mono ?_; rintro e w3 ⟨rfl, q, rfl⟩
    by_cases hs0 : s = zero64
    ·have hdz1 : decide (s = zero64) = true := by simpa using hs0
     rw [hdz1]; have HW2' := hide (show wipeF SL D fr false = wipeF (SL.drop (k + 1)) Dk (fr + (k + 1)) any from HW.out.1.trans (by rw [wipeF, if_pos hs0, Nat.add_assoc])); have HD3 := hide (HDM.out.below (below_drewN (Below.refl _ _) q)); clear hdz1 hs0; go_wp2
     go_roundw
     case rel => exact ⟨k1, F1, Dk, any, by have := HW.out.2.1; omega, rfl, rfl, by rw [← HW.out.2.1]; exact HW2', HD3.out, HC.out.1.drewN q, HC.out.2, hide (by have := hDk.out; have := HW.out.2.1; omega)⟩
     case measure => have := HW.out.2.1; simp [Go.RowKit.intOf]; omega
    ·have hdz1 : decide (s = zero64) = false := by simpa using hs0
     rw [hdz1]; have HD3 := HDM.out.below (below_drewN (Below.refl _ _) q); have hc3 := HC.out.1.drewN q
     have hrz : Rb (wr.drewN q) F1 (some ⟨zb, 0, none⟩) 64 zero64 := by
      have h1 : Rb w2 (F ++ F1) (some ⟨zb, 0, none⟩) 64 zero64 := H2.out.1.plus (fun x hx => (List.mem_append.1 hx).elim Or.inl (HC.out.2 x))
      exact (h1.chg hc3 (fun x hx => Or.inl (List.mem_append_left _ hx))).sub (fun x hx => List.mem_append_right _ hx)
     have HWR := dwrite_calls HD3 (ai : Int) hrz (fun x hx => by rw [(List.mem_replicate.1 hx).2]; omega) (by have := hDk.out; omega); rw [show zero64.length = 64 by simp] at HWR; have hwl := Dk.write_len (ai : Int) zero64; obtain ⟨⟨e1, D1⟩, hq⟩ : ∃ x, Dk.write (ai : Int) zero64 = x := ⟨_, rfl⟩; rw [hq] at HWR hwl
     have hwp2 : wipeF SL D fr false = if e1 ≠ 0 then (e1, true, D1) else wipeF (SL.drop (k + 1)) D1 (fr + (k + 1)) true := HW.out.1.trans (by
      rw [wipeF, if_neg hs0]; simp only []
      rw [HW.out.2.2, hq, ← HW.out.2.2, Nat.add_assoc])
     have HWR := hide HWR; have HW2' := hide hwp2; have HWL := hide hwl; clear hdz1 hs0 HD3 hc3 hrz hq hwp2 hwl; go_wp2_with fail; refine HWR.out.mono ?_; rintro e w4 ⟨rfl, F4, hdz4, hc4, hF4⟩; have hc24 : Chg F w2 w4 := (HC.out.1.drewN q).trans hc4 HC.out.2
     have hF24 : ∀ x ∈ F4, x ∈ F ∨ w2.heap.size ≤ x := fun x hx => (hF4 x hx).elim (HC.out.2 x) (fun h => Or.inr (Nat.le_trans (HC.out.1.drewN q).size h))
     have H4 := hd3 hdz4 hc24 hF24; clear hdz4 hc4 hF4 hc24 hF24
     by_cases he1 : e1 = 0
     ·subst he1
      have HW3 := hide (show wipeF SL D fr false = wipeF (SL.drop (k + 1)) D1 (fr + (k + 1)) true from HW2'.out.trans (if_neg (by simp))); go_wp2
      go_roundw
      case rel => exact ⟨k1, F4, D1, true, by have := HW.out.2.1; omega, rfl, rfl, by rw [← HW.out.2.1]; exact HW3, H4.out.1, H4.out.2.1, H4.out.2.2, hide (by have h1 := hDk.out; have h2 := HWL.out; have h3 := HW.out.2.1; (try simp only [] at h2); omega)⟩
      case measure => have := HW.out.2.1; simp [Go.RowKit.intOf]; omega
     ·have u1 : ((e1 : Int) != 0) = true := by simp; omega
      rw [HW2'.out, if_pos he1] at hR; simp only [] at hR; rw [if_pos he1] at hR; subst hR; clear he1; go_wp2; go_ret
      exact ⟨rfl, DevT.step (Chg.of_below H2.out.2.2.1) (fun x hx => Or.inl hx) ⟨F4, H4.out.1, H4.out.2.1, H4.out.2.2⟩⟩
   ·have i1 : ¬ (k : Int) < many := by omega
    obtain rfl : k = many := by omega
    have hw0 : wipeF SL D fr false = (0, any, Dk) := hwp.out.trans (by rw [List.drop_of_length_le (by rw [HS.out.1]; exact Nat.le_refl _)]; rfl); rw [hw0] at hR; simp only [ne_eq, not_true_eq_false, if_false] at hR; have HFL := hide (dflush_calls hd); clear hwp hw0 hd hc hF1
    cases any with
    |false =>
     rw [if_neg (by simp)] at hR; subst hR; go_wp2; go_ret
     exact ⟨rfl, DevT.step (Chg.of_below H2.out.2.2.1) (fun x hx => Or.inl hx) ⟨F1, HDM.out, HC.out.1, HC.out.2⟩⟩
    |true =>
     rw [if_pos rfl] at hR; subst hR; go_wp2_with fail; refine HFL.out.mono ?_; rintro e w4 ⟨rfl, hT⟩; have HT := hide (DevT.step (Chg.of_below H2.out.2.2.1) (fun x hx => Or.inl hx) (DevT.step HC.out.1 HC.out.2 hT)); clear hT; go_wp2; go_ret
     exact ⟨rfl, HT.out⟩
end

def NoB (w : World) (G : List Nat) : Prop := ∀ g ∈ G, (∀ cs, ¬ Blk w g 5 cs) ∨ w.heap.size ≤ g
structure Bt (w : World) (A : Option Addr) (c : Nat) (b : List Nat) : Prop where
 rb : Rb w [] A c b
 ty : ∀ a, A = some a → ∃ cs, Blk w a.block 5 cs
theorem Bt.chg {w w' : World} {A : Option Addr} {c : Nat} {b : List Nat} {G : List Nat} (h : Bt w A c b) (hc : Chg G w w') (hG : NoB w G) : Bt w' A c b := by
 have hn : ∀ a, A = some a → a.block ∉ G := fun a ha hx => by
  obtain ⟨cs, hb⟩ := h.ty a ha
  rcases hG _ hx with h1 | h1
  ·exact h1 cs hb
  ·have := hb.lt; omega
 have h2 : Rb w G A c b := ⟨h.rb.le, h.rb.rd, fun a ha => ⟨(h.rb.ap a ha).1, hn a ha, (h.rb.ap a ha).2.2⟩⟩
 exact ⟨(h2.chg hc (fun x hx => Or.inl hx)).sub (by simp), fun a ha => by
  obtain ⟨cs, hb⟩ := h.ty a ha
  exact ⟨cs, hb.chg hc (hn a ha)⟩⟩
theorem Bt.below {w w' : World} {A : Option Addr} {c : Nat} {b : List Nat} (h : Bt w A c b) (hb : Below w.heap.size w w') : Bt w' A c b := h.chg (G := []) (Chg.of_below hb) (fun g hg => by cases hg)
theorem Bt.rbn {w : World} {A : Option Addr} {c : Nat} {b : List Nat} {G : List Nat} (h : Bt w A c b) (hG : NoB w G) : Rb w G A c b := ⟨h.rb.le, h.rb.rd, fun a ha => ⟨(h.rb.ap a ha).1, fun hx => by
 obtain ⟨cs, hb⟩ := h.ty a ha
 rcases hG _ hx with h1 | h1
 ·exact h1 cs hb
 ·have := hb.lt; omega, (h.rb.ap a ha).2.2⟩⟩
theorem OwnB.bt {w w' : World} {A : Option Addr} {c : Nat} {b : List Nat} (h : OwnB w w' A c b) : Bt w' A c b := by
 refine ⟨h.rb (by simp), fun a ha => ?_⟩
 subst ha
 rcases h.1.2 with ⟨h6, _⟩ | ⟨g, cap, cur, e2, _, hg, _⟩
 ·cases h6
 ·cases e2
  exact ⟨cur.toList, hg⟩
theorem NoB.mono {w : World} {G G' : List Nat} (h : NoB w G) (hs : ∀ x ∈ G', x ∈ G ∨ w.heap.size ≤ x) : NoB w G' := fun g hg => (hs g hg).elim (h g) Or.inr
theorem DevM.nob {w : World} {d : Nat} {F : List Nat} {D : Dev} (h : DevM w d F D) : NoB w F := by
 obtain ⟨lb, A, c, h1, h2, h3, rfl⟩ := h.ex
 intro g hg
 refine Or.inl fun cs hb => ?_
 simp only [List.mem_cons, Option.mem_toList] at hg
 rcases hg with rfl | rfl | hg
 ·exact absurd (hb.one h1).2 (by decide)
 ·exact absurd (hb.one h2).2 (by decide)
 ·exact absurd (own_typed h3 hg hb) (by decide)
structure Bg where
 i : Nat
 A : Option Addr
 c : Nat
 b : List Nat
def Bg.cells (x : Bg) : List Value := [.int .i64 x.i, .slice x.A x.b.length x.c]
def bgCells (X : List Bg) : List Value := X.flatMap Bg.cells
structure JrnM (w : World) (j d : Nat) (F : List Nat) (J : Jrn) : Prop where
 ex : ∃ A c X, Blk w j 205 [.pointer (some ⟨d, 0, none⟩), .int .i64 J.from_, .int .i64 J.many, .int .i64 J.gen, .int .i64 J.used, .int .i64 J.n, .slice A J.waits.length c, .bool J.gone] ∧
  w.ownsRow 0 262 2 (.slice A J.waits.length c) J.waits.length (bgCells X) ∧ X.map (fun x => (x.i, x.b)) = J.waits ∧ (∀ x ∈ X, Bt w x.A x.c x.b ∧ x.b.length = 64 ∧ ∀ y ∈ x.b, y < 256) ∧ F = j :: (A.map Addr.block).toList
theorem jscanF_bound {B : List Nat} {gen : Nat} : ∀ (f : Nat) (out : List (List Nat)) (used : Nat), used * 64 ≤ B.length → out.length ≤ used → (jscanF B gen f out used).2 * 64 ≤ B.length ∧ (jscanF B gen f out used).1.length ≤ (jscanF B gen f out used).2
 |0, out, used, h1, h2 => ⟨h1, h2⟩
 |f + 1, out, used, h1, h2 => by
  cases hJ : jread (B.drop (used * 64)) gen out.length with
  |none => rw [jscanF_none hJ]; exact ⟨h1, h2⟩
  |some x =>
   obtain ⟨t, s⟩ := x; have h3 := jread_size hJ; rw [List.length_drop] at h3; rw [jscanF_some hJ]
   exact jscanF_bound f _ _ (by omega) (by simp; omega)
theorem jscan_bound {D : Dev} (hok : DevOk D) {fr many gen : Nat} (h : (jscan D fr many gen).1 = 0) : (jscan D fr many gen).2.2 ≤ many ∧ fr + many ≤ D.l.length ∧ (jscan D fr many gen).2.1.length ≤ (jscan D fr many gen).2.2 := by
 unfold jscan at h ⊢
 split at h
 ·cases h
 ·rename_i h1
  rw [if_neg h1]; simp only [] at h ⊢
  split at h
  ·rename_i h2; exact absurd h h2
  ·rename_i h2
   rw [if_neg h2]
   have hB : D.bytes fr many = (0, secs D fr many) := by
    unfold Dev.bytes at h2 ⊢
    split at h2
    ·simp at h2
    ·rename_i h3; rw [if_neg h3]; rfl
   have hl := secs_len hok many (fr := fr) (by omega); have h4 := jscanF_bound (B := secs D fr many) (gen := gen) (many + 1) [] 0 (by omega) (Nat.zero_le _); rw [hB]; simp only []
   exact ⟨by omega, by omega, h4.2⟩
section
variable {w w' : World} {j d : Nat} {F G : List Nat} {J : Jrn} {D : Dev}
theorem JrnM.lt (h : JrnM w j d F J) : ∀ x ∈ F, x < w.heap.size := by
 obtain ⟨A, c, X, h1, h2, h3, h4, rfl⟩ := h.ex
 intro x hx
 simp only [List.mem_cons, Option.mem_toList] at hx
 rcases hx with rfl | hx
 ·exact h1.lt
 ·exact own_lt h2 (by rw [owS]; exact hx)
theorem JrnM.chg (h : JrnM w j d F J) (hc : Chg G w w') (hn : ∀ x ∈ F, x ∉ G) (hG : NoB w G) : JrnM w' j d F J := by
 obtain ⟨A, c, X, h1, h2, h3, h4, rfl⟩ := h.ex
 exact ⟨A, c, X, h1.chg hc (hn _ (by simp)), own_chg h2 hc (fun g hg => hn g (by rw [owS] at hg; simp [hg])), h3, fun x hx => ⟨(h4 x hx).1.chg hc hG, (h4 x hx).2⟩, rfl⟩
theorem JrnM.below (h : JrnM w j d F J) (hb : Below w.heap.size w w') : JrnM w' j d F J := h.chg (G := []) (Chg.of_below hb) (by simp) (fun g hg => by cases hg)
theorem JrnM.nob (h : JrnM w j d F J) : NoB w F := by
 obtain ⟨A, c, X, h1, h2, h3, h4, rfl⟩ := h.ex
 intro g hg
 refine Or.inl fun cs hb => ?_
 simp only [List.mem_cons, Option.mem_toList] at hg
 rcases hg with rfl | hg
 ·exact absurd (hb.one h1).2 (by decide)
 ·exact absurd (own_typed h2 hg hb) (by decide)
theorem JrnM.here (h : JrnM w j d F J) : j ∈ F := by obtain ⟨A, c, X, h1, h2, h3, h4, rfl⟩ := h.ex; simp
theorem JrnM.apart (h : JrnM w j d F J) {d' : Nat} (hd : DevM w d' G D) : ∀ x ∈ F, x ∉ G := by
 obtain ⟨A, c, X, h1, h2, h3, h4, rfl⟩ := h.ex; obtain ⟨lb, A', c', k1, k2, k3, rfl⟩ := hd.ex
 intro x hx hy
 simp only [List.mem_cons, Option.mem_toList] at hx hy
 rcases hx with rfl | hx
 ·rcases hy with rfl | rfl | hy
  ·exact absurd (h1.one k1).2 (by decide)
  ·exact absurd (h1.one k2).2 (by decide)
  ·exact absurd (own_typed k3 hy h1) (by decide)
 ·rcases hy with rfl | rfl | hy
  ·exact absurd (own_typed h2 hx k1) (by decide)
  ·exact absurd (own_typed h2 hx k2) (by decide)
  ·exact absurd (own_own h2 k3 hx hy) (by decide)
theorem OwnT.dev {w0 w w' : World} {d : Nat} {F : List Nat} {D : Dev} {A : Option Addr} {c : Nat} {L : List (List Nat)} (h : OwnT w0 w A c L) (hd : DevM w d F D) (hc : Chg F w w') : OwnT w0 w' A c L := by
 obtain ⟨X, h1, h2, h3, h4⟩ := h; obtain ⟨lb, A', c', k1, k2, k3, rfl⟩ := hd.ex
 refine ⟨X, h1, own_chg h2 hc (fun g hg hx => ?_), h3, fun x hx => ⟨own_chg (h4 x hx).1 hc (fun g hg hx => ?_), (h4 x hx).2⟩⟩
 all_goals
  rw [owS] at hg; simp only [List.mem_cons, Option.mem_toList] at hx
 ·rcases hx with rfl | rfl | hx
  ·exact absurd (own_typed h2 hg k1) (by decide)
  ·exact absurd (own_typed h2 hg k2) (by decide)
  ·exact absurd (own_own h2 k3 hg hx) (by decide)
 ·rcases hx with rfl | rfl | hx
  ·exact absurd (own_typed (h4 _ (by assumption)).1 hg k1) (by decide)
  ·exact absurd (own_typed (h4 _ (by assumption)).1 hg k2) (by decide)
  ·exact absurd (own_own (h4 _ (by assumption)).1 k3 hg hx) (by decide)
theorem jroom_calls (h : JrnM w j d F J) (hm : J.used ≤ 1000000 ∧ J.many ≤ 1000000) : Calls Tryz.prog 187 #[.pointer (some ⟨j, 0, none⟩)] w fun e w' => e = .returned (.int .i64 ((J.many : Int) - J.used)) ∧ ∃ q, w' = w.drewN q := by
 obtain ⟨A, c, X, h1, h2, h3, h4, rfl⟩ := h.ex; have e2 : w.cell? ⟨j, 2, none⟩ = some (.int .i64 J.many) := h1.cell 2; have e4 : w.cell? ⟨j, 4, none⟩ = some (.int .i64 J.used) := h1.cell 4; have c1 : IntKind.i64.wrap ((J.many : Int) - J.used) = (J.many : Int) - J.used := IntWalk.i64_in _ (by omega); clear h1 h2 h3 h4 h
 go_enter Tryz.func187, Tryz.ntmps187
 go_wp2
 go_quiet (fail)
 go_wp2; go_ret
 exact ⟨rfl, _, rfl⟩
theorem jopen_calls (h : DevM w d F D) (fr many gen : Nat) (hf : fr ≤ 100000) (hm : many ≤ 100000) (hg : gen < 2 ^ 63) (hw : D.waits.length ≤ 50000) :
  Calls Tryz.prog 79 #[.pointer (some ⟨d, 0, none⟩), .int .i64 fr, .int .i64 many, .int .i64 gen] w fun e w' => ∃ p A c, e = .returned (.tuple #[.pointer p, .slice A (jopen D fr many gen).2.2.1.length c, .int .i64 (jopen D fr many gen).1]) ∧ OwnT w w' A c (jopen D fr many gen).2.2.1 ∧ DevT w w' d F (jopen D fr many gen).2.2.2 ∧
   ((jopen D fr many gen).1 = 0 → ∃ j, p = some ⟨j, 0, none⟩ ∧ w.heap.size ≤ j ∧ JrnM w' j d [j] (jopen D fr many gen).2.1) := by
 have HSC := jscan_calls h fr many gen hf hm hg; obtain ⟨R, hR⟩ : ∃ R, jopen D fr many gen = R := ⟨_, rfl⟩; rw [hR]; unfold jopen at hR; obtain ⟨⟨e0, recs, used⟩, hs⟩ : ∃ x, jscan D fr many gen = x := ⟨_, rfl⟩
 have hus : e0 = 0 → used ≤ many ∧ fr + many ≤ D.l.length ∧ recs.length ≤ used := fun e => by
  have h9 := jscan_bound (D := D) h.ok (fr := fr) (many := many) (gen := gen) (by rw [hs]; exact e); rw [hs] at h9
  exact h9
 rw [hs] at HSC; simp only [hs] at hR; have HSC := hide HSC; have H := hide h; clear hs h
 go_enter Tryz.func79, Tryz.ntmps79
 go_wp2_with fail; refine HSC.out.mono ?_; rintro e w1 ⟨A1, c1, rfl, hT1, hb1⟩; have H1 := hd2 hT1 hb1
 by_cases he : e0 = 0
 ·subst he
  have hu := hus rfl; rw [if_neg (by simp)] at hR
  have c2 : IntKind.i64.wrap ((fr : Int) + used) = ((fr + used : Nat) : Int) := by rw [IntWalk.i64_in _ (by omega)]; omega
  have c3 : IntKind.i64.wrap ((many : Int) - used) = ((many - used : Nat) : Int) := by rw [IntWalk.i64_in _ (by omega)]; omega
  obtain ⟨fu, hfu⟩ : ∃ x, fr + used = x := ⟨_, rfl⟩; obtain ⟨mu, hmu⟩ : ∃ x, many - used = x := ⟨_, rfl⟩; rw [hfu] at c2; rw [hmu] at c3; have HSW := jsweep_calls (H.out.below hb1) fu mu (by omega) hw; rw [hfu, hmu] at hR; obtain ⟨⟨e1, D1⟩, hq⟩ : ∃ x, jsweep D fu mu = x := ⟨_, rfl⟩; rw [hq] at HSW; simp only [hq] at hR; have HSW := hide HSW; have HU := hide hu; clear hq hfu hmu hus hT1 hb1 hu; go_wp2_with fail; refine HSW.out.mono ?_; rintro e w2 ⟨rfl, F2, hdz2, hc2, hF2⟩; have H2 := hd3 hdz2 hc2 hF2; clear hdz2 hc2 hF2
  by_cases he1 : e1 = 0
  ·subst he1
   rw [if_neg (by simp)] at hR; subst hR; go_wp2
   go_ret3
   have bN : Blk (w2.alloc (.cells #[.pointer (some ⟨d, 0, none⟩), .int .i64 fr, .int .i64 many, .int .i64 gen, .int .i64 used, .int .i64 recs.length, .slice none 0 0, .bool false] 205)) w2.heap.size 205 [.pointer (some ⟨d, 0, none⟩), .int .i64 fr, .int .i64 many, .int .i64 gen, .int .i64 used, .int .i64 recs.length, .slice none 0 0, .bool false] := Blk.new rfl; have hbN := belowL (Below.refl w2.heap.size w2) (.cells #[.pointer (some ⟨d, 0, none⟩), .int .i64 fr, .int .i64 many, .int .i64 gen, .int .i64 used, .int .i64 recs.length, .slice none 0 0, .bool false] 205); have hT3 := DevT.step (Chg.of_below (L := F) H1.out.2) (fun x hx => Or.inl hx) (DevT.step H2.out.2.1 H2.out.2.2 (H2.out.1.stay hbN)); have hT1 := (H1.out.1)
   refine ⟨some ⟨w2.heap.size, 0, none⟩, A1, c1, rfl, ?_, hT3, ⟨w2.heap.size, rfl, Nat.le_trans H1.out.2.size H2.out.2.1.size, ⟨none, 0, [], bN, ownsRow_nil _ _ _, rfl, by simp, rfl⟩⟩⟩
   exact (hT1.dev (H.out.below H1.out.2) H2.out.2.1).below hbN
  ·rw [if_pos (by simpa using he1)] at hR
   subst hR
   have u1 : ((e1 : Int) != 0) = true := by simp; omega
   have HE1 := hide he1; clear he1; go_wp2
   go_ret3
   refine ⟨none, none, 0, rfl, OwnT.nil _ _, DevT.step (Chg.of_below H1.out.2) (fun x hx => Or.inl hx) ⟨F2, H2.out.1, H2.out.2.1, H2.out.2.2⟩, fun e => absurd e HE1.out⟩
 ·rw [if_pos (by simpa using he)] at hR
  subst hR
  have u1 : ((e0 : Int) != 0) = true := by simp; omega
  have HE := hide he; clear he hus hT1 hb1; go_wp2
  go_ret3
  exact ⟨none, none, 0, rfl, OwnT.nil _ _, H.out.stay H1.out.2, fun e => absurd e HE.out⟩
end
end Go.Proofs.YtcahcjfgmdpdoaaGreat
