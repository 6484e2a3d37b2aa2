/- One text of: Cmdb. -/
import Derived.Test.YtcgecalbgkkinaaGreatGrows
import Derived.Test.YtcgecalbgkkinaaGreatQVC
import Derived.Test.YtcgecalbgkkinaaGreatQPack
import Derived.Test.YtcgecalbgkkinaaGreatQPol3
import Derived.Test.YtcgecalbgkkinaaGreatQSm
import Derived.Test.YtcgecalbgkkinaaGreatQOpenG
import Derived.Test.YtcgecalbgkkinaaGreatQSrv
namespace Go.Proofs.YtcgecalbgkkinaaGreat
open Go.RowKit Go.Proofs Go.Lib
set_option linter.unusedVariables false
set_option linter.unusedSimpArgs false

set_option maxHeartbeats 1000000 in
theorem growI_calls (n : Nat) (w : World) (hn : n ≤ 1000000) :
    Calls Tryz.prog 78 #[.slice none 0 0, .int .i64 (n : Int)] w fun e w' => ∃ A c, e = .returned (.slice A 0 c) ∧ w'.ownsRow 0 3 1 (.slice A 0 c) 0 [] ∧ (∀ g, A.map Addr.block = some g → w.heap.size ≤ g) ∧ Below w.heap.size w w' := by
  rcases Nat.eq_zero_or_pos n with rfl | hp
  · refine Calls.mono (Any8.slices_Grow_room Go.Proofs.YtcgecalbgkkinaaGreat.growI none 0 0 0 w (Nat.le_refl _) (by omega) (by omega) (Nat.le_refl _)) fun e w' ⟨he, hw⟩ => ?_
    subst hw
    exact ⟨none, 0, he, World.ownsRow_nil _ _ _ _, (fun g hg => by cases hg), Below.refl _ _⟩
  · obtain ⟨i0, hi, hz0, hz1, hz2⟩ := info_parts Tryz.infoI3
    refine Calls.mono (Any8.slices_Grow_grow Go.Proofs.YtcgecalbgkkinaaGreat.growI i0 _ hi hz0 (by rw [hz1]; decide) none 0 0 n [] w (Nat.le_refl _) (by omega) (by rw [hz2]; omega) (by omega) (by simp) (fun _ => rfl) (fun a ha => by cases ha)) fun e w' ⟨he, hw⟩ => ?_
    subst hw
    refine ⟨_, _, he, ?_, fun g hg => ?_, (Below.refl _ w).drew.alloc (Nat.le_refl _) _⟩
    · have h1 := grownCap_ge w (0 + n) 0 (Go.Proofs.YtcgecalbgkkinaaGreat.growI_ren.t 25)
      have h2 := grownCap_le_maxLen w (0 + n) 0 (Go.Proofs.YtcgecalbgkkinaaGreat.growI_ren.t 25) (by unfold maxLen; omega)
      exact World.ownsRow_made w.drew _ _ (Nat.zero_le _) h2 (by
        have hz : (Value.int IntKind.i64 0).cells.size = 1 := rfl
        rw [Array.size_append, Array.size_append, size_zeroCells, size_zeroCells, hz]
        simp only [List.size_toArray, List.length_nil]
        omega)
    · cases hg
      exact Nat.le_refl _
/-- a slice of numbers, as it lies in a list of such -/
structure SlI where
  A : Option Addr
  c : Nat
  l : List Int
def SlI.val (x : SlI) : Value := .slice x.A x.l.length x.c
def catI : List SlI → List Int
  | [] => []
  | x :: t => x.l ++ catI t
theorem catI_cons (x : SlI) (t : List SlI) : catI (x :: t) = x.l ++ catI t := rfl
theorem catI_app (a b : List SlI) : catI (a ++ b) = catI a ++ catI b := by
  induction a with
  | nil => rfl
  | cons x t ih => rw [List.cons_append, catI_cons, catI_cons, ih, List.append_assoc]
theorem catI_take (L : List SlI) (k : Nat) (h : k < L.length) : catI (L.take (k + 1)) = catI (L.take k) ++ L[k].l := by
  rw [List.take_succ_eq_append_getElem h, catI_app, catI_cons]
  simp [catI]
theorem catI_le (L : List SlI) (k : Nat) : (catI (L.take k)).length ≤ (catI L).length := by
  conv => rhs; rw [← List.take_append_drop k L, catI_app, List.length_append]
  omega
set_option maxHeartbeats 2000000 in
theorem concat_calls (w : World) (no : List Nat) (q : Nat) (L : List SlI) (hq : Blk w q 27 (L.map SlI.val)) (hs : ∀ x ∈ L, Sl w no x.A x.c x.l ∧ x.l ≠ []) (hL : L.length ≤ 1000) (hl : (catI L).length ≤ 100000) :
    Calls Tryz.prog 37 #[.slice (some ⟨q, 0, none⟩) L.length L.length] w fun e w' => ∃ A c, e = .returned (.slice A (catI L).length c) ∧ OwnI w w' A c (catI L) ∧ Below w.heap.size w w' := by
  obtain ⟨i0, hi, hz0, hz1, hz2⟩ := info_parts Tryz.infoI3
  have HQ := hide hq
  have HS := hide hs
  have HLL := hide hl
  clear hq hs hl
  go_enter Tryz.func37, Tryz.ntmps37
  go_wp2
  go_loopw [3, 5, 11, 12, 13, 14, 15, 16, 17, 18, 19, 20, 21, 22] (fun sz _ ix _ _ _ _ _ _ _ _ _ _ _ wr => ∃ k : Nat, k ≤ L.length ∧ ix = .int .i64 k ∧ sz = .int .i64 (catI (L.take k)).length ∧ wr = w) (fun _ _ ix _ _ _ _ _ _ _ _ _ _ _ _ => L.length - (intOf ix).toNat)
  case atStart => exact ⟨0, Nat.zero_le _, rfl, rfl, rfl⟩
  case round =>
    obtain ⟨k, hk, rfl, rfl, rfl⟩ := hrel
    by_cases hlt : k < L.length
    · have i1 : (k : Int) < L.length := by omega
      have g0 := HQ.out.cell k
      simp only [List.getElem?_map, List.getElem?_eq_getElem hlt, Option.map_some, SlI.val] at g0
      have ht := congrArg List.length (catI_take L k hlt)
      rw [List.length_append] at ht
      have hle := catI_le L (k + 1)
      have HT := hide (And.intro ht hle)
      obtain ⟨a, ha⟩ : ∃ a, (catI (L.take k)).length = a := ⟨_, rfl⟩
      obtain ⟨x, hx⟩ : ∃ x, L[k] = x := ⟨_, rfl⟩
      rw [ha, hx] at HT
      rw [hx] at g0
      rw [ha]
      have hw : IntKind.i64.wrap ((a : Int) + x.l.length) = a + x.l.length := IntWalk.i64_in _ (by have := HT.out; have := HLL.out; omega)
      have hn : ¬ ((a : Int) + x.l.length < 0) := by omega
      clear ht hle ha hx
      go_wp2
      go_roundw
      case rel => exact ⟨k + 1, by omega, by go_num, by rw [HT.out.1]; go_num, by first | exact rfl | trivial⟩
      case measure => simp [intOf]; omega
    · have e : k = L.length := by omega
      subst e
      rw [List.take_length]
      have HG := hide (growI_calls (catI L).length wr (by have := HLL.out; omega))
      go_wp2_with fail
      refine HG.out.mono ?_
      rintro e w1 ⟨A1, c1, rfl, ho, hg, hb⟩
      have HO := hide ho
      have HGG := hide hg
      have HB := hide hb
      have HQ1 := hide (HQ.out.below hb)
      have HS1 := hide (fun x hx => And.intro ((HS.out x hx).1.below hb) (HS.out x hx).2)
      clear HG ho hg hb hlt hk
      obtain ⟨wo, rfl⟩ : ∃ wo, wo = wr := ⟨_, rfl⟩
      go_wp2
      go_loopw [6, 8, 27, 28, 29, 30, 31, 32, 33, 34] (fun v _ ix _ _ _ _ _ _ _ wq => ∃ (k : Nat) (A2 : Option Addr) (c2 : Nat), k ≤ L.length ∧ ix = .int .i64 k ∧ v = .slice A2 (catI (L.take k)).length c2 ∧ wq.ownsRow 0 3 1 v (catI (L.take k)).length ((catI (L.take k)).map (Value.int .i64)) ∧ (∀ g, A2.map Addr.block = some g → wo.heap.size ≤ g) ∧ Below wo.heap.size wo wq) (fun _ _ ix _ _ _ _ _ _ _ _ => L.length - (intOf ix).toNat)
      case atStart => exact ⟨0, A1, c1, Nat.zero_le _, by first | exact rfl | trivial, by simp [catI], by simpa [catI] using HO.out, HGG.out, HB.out⟩
      case round =>
        obtain ⟨k, A2, c2, hk, rfl, rfl, ho, hg, hb⟩ := hrel
        have HO2 := hide ho
        have HG2 := hide hg
        have HB2 := hide hb
        by_cases hlt : k < L.length
        · have i1 : (k : Int) < L.length := by omega
          have g0 := (HQ.out.below hb).cell k
          simp only [List.getElem?_map, List.getElem?_eq_getElem hlt, Option.map_some, SlI.val] at g0
          have ht := catI_take L k hlt
          have hle := catI_le L (k + 1)
          have hsl := HS.out L[k] (List.getElem_mem hlt)
          obtain ⟨x, hx⟩ : ∃ x, L[k] = x := ⟨_, rfl⟩
          rw [hx] at ht g0 hsl
          have hpos : 0 < x.l.length := List.length_pos_iff.2 hsl.2
          obtain ⟨bA, oA, eA, hbA, hcell⟩ := (hsl.1.below hb).rd.2 hpos
          have htl := congrArg List.length ht
          rw [List.length_append] at htl
          have HT := hide ht
          have HTL := hide (And.intro htl hle)
          obtain ⟨a, ha⟩ : ∃ a, catI (L.take k) = a := ⟨_, rfl⟩
          obtain ⟨a', ha'⟩ : ∃ a', catI (L.take (k + 1)) = a' := ⟨_, rfl⟩
          rw [ha, ha'] at HT HTL
          have HA' := hide ha'
          rw [ha] at HO2 ⊢
          obtain ⟨A, c, l⟩ := x
          simp only [] at g0 eA hcell hpos HT HTL
          subst eA
          clear ht hle htl hx ho hg hb ha ha' hsl
          go_wp2_with (at_builtin; refine wpList_append_lies _ rfl _ _ 27 rfl 0 3 i0 _ 1 8 Tryz.underlying27 hi hz0 hz1 hz2 rfl (by decide) (.slice A2 a.length c2) a.length (a.map (Value.int .i64)) rfl HO2.out ⟨bA, oA, none⟩ l.length c (l.map (Value.int .i64)) rfl (by simp) (fun j u hu => by rw [add_addr]; exact hcell j u hu) ?c1 hpos ?c3 ?c4 (Nat.zero_le _) _ rfl ?_)
          case c1 => intro u hu; obtain ⟨z, _, rfl⟩ := List.mem_map.1 hu; rfl
          case c3 => have := HTL.out; have := HLL.out; unfold maxLen; omega
          case c4 => have := HTL.out; have := HLL.out; omega
          intro g2 cap2 w4 hown2 hgr2 hor2 hlt2
          have hch2 := Chg.of_grown hgr2
          rw [owS] at hch2 hor2
          have HG4 : Hid (wo.heap.size ≤ g2) := hide (by
            rcases hor2 with h | h
            · exact HG2.out _ h
            · have := HB2.out.size; omega)
          have HB4 := hide (Chg.onto HB2.out HB2.out.size hch2 (fun x hx => HG2.out x (by simpa using hx)))
          have HO4 : Hid (w4.ownsRow 0 3 1 (.slice (some ⟨g2, 0, none⟩) a'.length cap2) a'.length (a'.map (Value.int .i64))) := hide (by
            rw [HT.out, List.map_append, List.length_append]
            exact hown2)
          have hal : Hid (a.length + l.length = a'.length) := hide (by have := HTL.out.1; omega)
          clear hown2 hgr2 hor2 hlt2 hch2 hcell g0
          go_wp2
          go_roundw
          case rel => exact ⟨k + 1, some ⟨g2, 0, none⟩, cap2, by omega, by go_num, by rw [HA'.out, hal.out], by
            rw [HA'.out, hal.out]
            exact HO4.out, fun g hg => by cases hg; exact HG4.out, HB4.out⟩
          case measure => simp [intOf]; omega
        · have e : k = L.length := by omega
          subst e
          rw [List.take_length] at HO2 ⊢
          clear ho hg hb hlt
          go_wp2
          go_ret
          exact ⟨A2, c2, rfl, ⟨HO2.out, HG2.out⟩, HB2.out⟩
end Go.Proofs.YtcgecalbgkkinaaGreat

namespace Go.Proofs.YtcgecalbgkkinaaGreat
open Go.RowKit Go.Proofs
set_option linter.unusedVariables false
set_option linter.unusedSimpArgs false

theorem Blk.drewC {w : World} {b : Nat} {t : TypeId} {cs : List Value} (h : Blk w b t cs) : Blk w.drew b t cs := h
theorem Sl.ofReads {w : World} {no : List Nat} {g n : Nat} {l : List Int} (h : Reads w w.heap.size 1 (some ⟨g, 0, none⟩) n (l.map (Value.int .i64))) (hn : l.length = n) (h1 : n ≤ 1024) (hp : 0 < n) (hg : g ∉ no) : Sl w no (some ⟨g, 0, none⟩) n l := by
  subst hn
  exact ⟨Nat.le_refl _, h1, h, fun a ha => by
    cases ha
    obtain ⟨b, o, e, hb, _⟩ := h.2 hp
    cases e
    exact ⟨rfl, hg, hb⟩⟩
theorem Blk.sl {w : World} {no : List Nat} {g n : Nat} {l : List Int} (h : Blk w g 3 (l.map (Value.int .i64))) (hn : l.length = n) (h1 : n ≤ 1024) (hg : g ∉ no) : Sl w no (some ⟨g, 0, none⟩) n l := by
  subst hn
  refine ⟨Nat.le_refl _, h1, ⟨by simp, fun _ => ⟨g, 0, rfl, h.lt, fun j u hu => by rw [Nat.zero_add, h.cell j]; exact hu⟩⟩, fun a ha => by cases ha; exact ⟨rfl, hg, h.lt⟩⟩
def Cmd.nums (q : Cmd) : List Int := [q.k, q.a, q.b, q.c, q.p.r, q.p.w, q.p.l, q.p.b]
def Cmd.bytes (q : Cmd) : List Nat := encs (q.nums.map Int.toNat)
end Go.Proofs.YtcgecalbgkkinaaGreat

namespace Go.Proofs.YtcgecalbgkkinaaGreat
open Go.RowKit Go.Proofs
set_option linter.unusedVariables false
set_option linter.unusedSimpArgs false

def Cmd.zero : Cmd := ⟨0, 0, 0, 0, ⟨0, 0, 0, 0⟩⟩
def Cmd.of (l : List Nat) : Cmd := ⟨(l.getD 0 0 : Nat), (l.getD 1 0 : Nat), (l.getD 2 0 : Nat), (l.getD 3 0 : Nat), ⟨(l.getD 4 0 : Nat), (l.getD 5 0 : Nat), (l.getD 6 0 : Nat), (l.getD 7 0 : Nat)⟩⟩
end Go.Proofs.YtcgecalbgkkinaaGreat

namespace Go.Proofs.YtcgecalbgkkinaaGreat
open Go.ChangeShapes Go.WideShapes Go.ChangeAt Go.RowKit Go.Joins Go.Deep Go.Proofs
set_option linter.unusedVariables false
set_option linter.unusedSimpArgs false

set_option maxRecDepth 100000 in
/-- an argument that is bytes -/
theorem open_bytes {H : Type} {enc : TypeId × Value → H} {W : World} {base : Nat} {v : Value} {d : DataW H} {p : List MemPlace}
    (ok : Value.okWide Tryz.prog W .any base 50 v) (h : DataW.Trod enc Tryz.prog W 0 (fun _ => true) true 50 v d p) :
    ∃ (A : Option Addr) (c : Nat) (L : List Nat), v = .slice A L.length c ∧ L.length ≤ c ∧ c ≤ maxLen ∧ (∀ x ∈ L, x < 256) ∧ Reads W W.heap.size 1 A L.length (bys L) := by
  obtain ⟨A, c, xs, rfl, hle, hcm, hwf, hr⟩ := open_intsR Tryz.underlying50 Tryz.underlying5 (by kernel_rfl) ok h
  have hx : ∀ x ∈ xs, 0 ≤ x ∧ x ≤ 255 := fun x hx => bounds_u8 (hwf x hx)
  refine ⟨A, c, xs.map Int.toNat, by simp, by simpa using hle, hcm, fun x h => ?_, ?_⟩
  · obtain ⟨z, hz, rfl⟩ := List.mem_map.1 h
    have := hx z hz
    omega
  · have e : bys (xs.map Int.toNat) = xs.map (Value.int .u8) := by
      unfold bys
      rw [List.map_map]
      apply List.map_congr_left
      intro z hz
      have := hx z hz
      simp only [Function.comp_apply]
      congr 1
      omega
    rw [e, List.length_map]
    exact hr
end Go.Proofs.YtcgecalbgkkinaaGreat
