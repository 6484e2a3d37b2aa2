/- One text of: Cmdb. -/
import Derived.Test.YtanfdnpnkdiiiaaGreatGrows
import Derived.Test.YtanfdnpnkdiiiaaGreatQVC
import Derived.Test.YtanfdnpnkdiiiaaGreatQPack
import Derived.Test.YtanfdnpnkdiiiaaGreatQPol3
import Derived.Test.YtanfdnpnkdiiiaaGreatQSm
import Derived.Test.YtanfdnpnkdiiiaaGreatQOpenG
import Derived.Test.YtanfdnpnkdiiiaaGreatQSrv
namespace Go.Proofs.YtanfdnpnkdiiiaaGreat
open Go.RowKit Go.Proofs Go.Lib
set_option linter.unusedVariables false
set_option linter.unusedSimpArgs false

set_option maxHeartbeats 1000000 in
theorem growI_calls (n : Nat) (w : World) (hn : n ≤ 1000000) :
    Calls Tryz.prog 76 #[.slice none 0 0, .int .i64 (n : Int)] w fun e w' => ∃ A c, e = .returned (.slice A 0 c) ∧ w'.ownsRow 0 3 1 (.slice A 0 c) 0 [] ∧ (∀ g, A.map Addr.block = some g → w.heap.size ≤ g) ∧ Below w.heap.size w w' := by
  rcases Nat.eq_zero_or_pos n with rfl | hp
  · refine Calls.mono (Any8.slices_Grow_room Go.Proofs.YtanfdnpnkdiiiaaGreat.growI none 0 0 0 w (Nat.le_refl _) (by omega) (by omega) (Nat.le_refl _)) fun e w' ⟨he, hw⟩ => ?_
    subst hw
    exact ⟨none, 0, he, World.ownsRow_nil _ _ _ _, (fun g hg => by cases hg), Below.refl _ _⟩
  · obtain ⟨i0, hi, hz0, hz1, hz2⟩ := info_parts Tryz.infoI3
    refine Calls.mono (Any8.slices_Grow_grow Go.Proofs.YtanfdnpnkdiiiaaGreat.growI i0 _ hi hz0 (by rw [hz1]; decide) none 0 0 n [] w (Nat.le_refl _) (by omega) (by rw [hz2]; omega) (by omega) (by simp) (fun _ => rfl) (fun a ha => by cases ha)) fun e w' ⟨he, hw⟩ => ?_
    subst hw
    refine ⟨_, _, he, ?_, fun g hg => ?_, (Below.refl _ w).drew.alloc (Nat.le_refl _) _⟩
    · have h1 := grownCap_ge w (0 + n) 0 (Go.Proofs.YtanfdnpnkdiiiaaGreat.growI_ren.t 25)
      have h2 := grownCap_le_maxLen w (0 + n) 0 (Go.Proofs.YtanfdnpnkdiiiaaGreat.growI_ren.t 25) (by unfold maxLen; omega)
      exact World.ownsRow_made w.drew _ _ (Nat.zero_le _) h2 (by
        have hz : (Value.int IntKind.i64 0).cells.size = 1 := rfl
        rw [Array.size_append, Array.size_append, size_zeroCells, size_zeroCells, hz]
        simp only [List.size_toArray, List.length_nil]
        omega)
    · cases hg
      exact Nat.le_refl _
/-- a slice of numbers, as it lies in a list of such -/
structure SlI where
  A : Option Addr
  c : Nat
  l : List Int
def SlI.val (x : SlI) : Value := .slice x.A x.l.length x.c
def catI : List SlI → List Int
  | [] => []
  | x :: t => x.l ++ catI t
theorem catI_cons (x : SlI) (t : List SlI) : catI (x :: t) = x.l ++ catI t := rfl
theorem catI_app (a b : List SlI) : catI (a ++ b) = catI a ++ catI b := by
  induction a with
  | nil => rfl
  | cons x t ih => rw [List.cons_append, catI_cons, catI_cons, ih, List.append_assoc]
theorem catI_take (L : List SlI) (k : Nat) (h : k < L.length) : catI (L.take (k + 1)) = catI (L.take k) ++ L[k].l := by
  rw [List.take_succ_eq_append_getElem h, catI_app, catI_cons]
  simp [catI]
theorem catI_le (L : List SlI) (k : Nat) : (catI (L.take k)).length ≤ (catI L).length := by
  conv => rhs; rw [← List.take_append_drop k L, catI_app, List.length_append]
  omega
set_option maxHeartbeats 2000000 in
theorem concat_calls (w : World) (no : List Nat) (q : Nat) (L : List SlI) (hq : Blk w q 35 (L.map SlI.val)) (hs : ∀ x ∈ L, Sl w no x.A x.c x.l ∧ x.l ≠ []) (hL : L.length ≤ 1000) (hl : (catI L).length ≤ 100000) :
    Calls Tryz.prog 50 #[.slice (some ⟨q, 0, none⟩) L.length L.length] w fun e w' => ∃ A c, e = .returned (.slice A (catI L).length c) ∧ OwnI w w' A c (catI L) ∧ Below w.heap.size w w' := by
  obtain ⟨i0, hi, hz0, hz1, hz2⟩ := info_parts Tryz.infoI3
  have HQ := hide hq
  have HS := hide hs
  have HLL := hide hl
  clear hq hs hl
  go_enter Tryz.func50, Tryz.ntmps50
  go_wp2
  go_loopw [3, 5, 11, 12, 13, 14, 15, 16, 17, 18, 19, 20, 21, 22] (fun sz _ ix _ _ _ _ _ _ _ _ _ _ _ wr => ∃ k : Nat, k ≤ L.length ∧ ix = .int .i64 k ∧ sz = .int .i64 (catI (L.take k)).length ∧ wr = w) (fun _ _ ix _ _ _ _ _ _ _ _ _ _ _ _ => L.length - (intOf ix).toNat)
  case atStart => exact ⟨0, Nat.zero_le _, rfl, rfl, rfl⟩
  case round =>
    obtain ⟨k, hk, rfl, rfl, rfl⟩ := hrel
    by_cases hlt : k < L.length
    · have i1 : (k : Int) < L.length := by omega
      have g0 := HQ.out.cell k
      simp only [List.getElem?_map, List.getElem?_eq_getElem hlt, Option.map_some, SlI.val] at g0
      have ht := congrArg List.length (catI_take L k hlt)
      rw [List.length_append] at ht
      have hle := catI_le L (k + 1)
      have HT := hide (And.intro ht hle)
      obtain ⟨a, ha⟩ : ∃ a, (catI (L.take k)).length = a := ⟨_, rfl⟩
      obtain ⟨x, hx⟩ : ∃ x, L[k] = x := ⟨_, rfl⟩
      rw [ha, hx] at HT
      rw [hx] at g0
      rw [ha]
      have hw : IntKind.i64.wrap ((a : Int) + x.l.length) = a + x.l.length := IntWalk.i64_in _ (by have := HT.out; have := HLL.out; omega)
      have hn : ¬ ((a : Int) + x.l.length < 0) := by omega
      clear ht hle ha hx
      go_wp2
      go_roundw
      case rel => exact ⟨k + 1, by omega, by go_num, by rw [HT.out.1]; go_num, by first | exact rfl | trivial⟩
      case measure => simp [intOf]; omega
    · have e : k = L.length := by omega
      subst e
      rw [List.take_length]
      have HG := hide (growI_calls (catI L).length wr (by have := HLL.out; omega))
      go_wp2_with fail
      refine HG.out.mono ?_
      rintro e w1 ⟨A1, c1, rfl, ho, hg, hb⟩
      have HO := hide ho
      have HGG := hide hg
      have HB := hide hb
      have HQ1 := hide (HQ.out.below hb)
      have HS1 := hide (fun x hx => And.intro ((HS.out x hx).1.below hb) (HS.out x hx).2)
      clear HG ho hg hb hlt hk
      obtain ⟨wo, rfl⟩ : ∃ wo, wo = wr := ⟨_, rfl⟩
      go_wp2
      go_loopw [6, 8, 27, 28, 29, 30, 31, 32, 33, 34] (fun v _ ix _ _ _ _ _ _ _ wq => ∃ (k : Nat) (A2 : Option Addr) (c2 : Nat), k ≤ L.length ∧ ix = .int .i64 k ∧ v = .slice A2 (catI (L.take k)).length c2 ∧ wq.ownsRow 0 3 1 v (catI (L.take k)).length ((catI (L.take k)).map (Value.int .i64)) ∧ (∀ g, A2.map Addr.block = some g → wo.heap.size ≤ g) ∧ Below wo.heap.size wo wq) (fun _ _ ix _ _ _ _ _ _ _ _ => L.length - (intOf ix).toNat)
      case atStart => exact ⟨0, A1, c1, Nat.zero_le _, by first | exact rfl | trivial, by simp [catI], by simpa [catI] using HO.out, HGG.out, HB.out⟩
      case round =>
        obtain ⟨k, A2, c2, hk, rfl, rfl, ho, hg, hb⟩ := hrel
        have HO2 := hide ho
        have HG2 := hide hg
        have HB2 := hide hb
        by_cases hlt : k < L.length
        · have i1 : (k : Int) < L.length := by omega
          have g0 := (HQ.out.below hb).cell k
          simp only [List.getElem?_map, List.getElem?_eq_getElem hlt, Option.map_some, SlI.val] at g0
          have ht := catI_take L k hlt
          have hle := catI_le L (k + 1)
          have hsl := HS.out L[k] (List.getElem_mem hlt)
          obtain ⟨x, hx⟩ : ∃ x, L[k] = x := ⟨_, rfl⟩
          rw [hx] at ht g0 hsl
          have hpos : 0 < x.l.length := List.length_pos_iff.2 hsl.2
          obtain ⟨bA, oA, eA, hbA, hcell⟩ := (hsl.1.below hb).rd.2 hpos
          have htl := congrArg List.length ht
          rw [List.length_append] at htl
          have HT := hide ht
          have HTL := hide (And.intro htl hle)
          obtain ⟨a, ha⟩ : ∃ a, catI (L.take k) = a := ⟨_, rfl⟩
          obtain ⟨a', ha'⟩ : ∃ a', catI (L.take (k + 1)) = a' := ⟨_, rfl⟩
          rw [ha, ha'] at HT HTL
          have HA' := hide ha'
          rw [ha] at HO2 ⊢
          obtain ⟨A, c, l⟩ := x
          simp only [] at g0 eA hcell hpos HT HTL
          subst eA
          clear ht hle htl hx ho hg hb ha ha' hsl
          go_wp2_with (at_builtin; refine wpList_append_lies _ rfl _ _ 35 rfl 0 3 i0 _ 1 8 Tryz.underlying35 hi hz0 hz1 hz2 rfl (by decide) (.slice A2 a.length c2) a.length (a.map (Value.int .i64)) rfl HO2.out ⟨bA, oA, none⟩ l.length c (l.map (Value.int .i64)) rfl (by simp) (fun j u hu => by rw [add_addr]; exact hcell j u hu) ?c1 hpos ?c3 ?c4 (Nat.zero_le _) _ rfl ?_)
          case c1 => intro u hu; obtain ⟨z, _, rfl⟩ := List.mem_map.1 hu; rfl
          case c3 => have := HTL.out; have := HLL.out; unfold maxLen; omega
          case c4 => have := HTL.out; have := HLL.out; omega
          intro g2 cap2 w4 hown2 hgr2 hor2 hlt2
          have hch2 := Chg.of_grown hgr2
          rw [ownBlock_slice] at hch2 hor2
          have HG4 : Hid (wo.heap.size ≤ g2) := hide (by
            rcases hor2 with h | h
            · exact HG2.out _ h
            · have := HB2.out.size; omega)
          have HB4 := hide (Chg.onto HB2.out HB2.out.size hch2 (fun x hx => HG2.out x (by simpa using hx)))
          have HO4 : Hid (w4.ownsRow 0 3 1 (.slice (some ⟨g2, 0, none⟩) a'.length cap2) a'.length (a'.map (Value.int .i64))) := hide (by
            rw [HT.out, List.map_append, List.length_append]
            exact hown2)
          have hal : Hid (a.length + l.length = a'.length) := hide (by have := HTL.out.1; omega)
          clear hown2 hgr2 hor2 hlt2 hch2 hcell g0
          go_wp2
          go_roundw
          case rel => exact ⟨k + 1, some ⟨g2, 0, none⟩, cap2, by omega, by go_num, by rw [HA'.out, hal.out], by
            rw [HA'.out, hal.out]
            exact HO4.out, fun g hg => by cases hg; exact HG4.out, HB4.out⟩
          case measure => simp [intOf]; omega
        · have e : k = L.length := by omega
          subst e
          rw [List.take_length] at HO2 ⊢
          clear ho hg hb hlt
          go_wp2
          go_ret
          exact ⟨A2, c2, rfl, ⟨HO2.out, HG2.out⟩, HB2.out⟩
end Go.Proofs.YtanfdnpnkdiiiaaGreat

namespace Go.Proofs.YtanfdnpnkdiiiaaGreat
open Go.RowKit Go.Proofs
set_option linter.unusedVariables false
set_option linter.unusedSimpArgs false

theorem Blk.drewC {w : World} {b : Nat} {t : TypeId} {cs : List Value} (h : Blk w b t cs) : Blk w.drew b t cs := h
theorem two_sl {w : World} {x y : SlI} (h1 : Sl w [] x.A x.c x.l) (h2 : Sl w [] y.A y.c y.l) (n1 : x.l ≠ []) (n2 : y.l ≠ []) : ∀ z ∈ [x, y], Sl w [] z.A z.c z.l ∧ z.l ≠ [] := by
  intro z hz
  simp only [List.mem_cons, List.mem_nil_iff, or_false] at hz
  rcases hz with rfl | rfl
  · exact ⟨h1, n1⟩
  · exact ⟨h2, n2⟩
theorem Sl.ofReads {w : World} {no : List Nat} {g n : Nat} {l : List Int} (h : Reads w w.heap.size 1 (some ⟨g, 0, none⟩) n (l.map (Value.int .i64))) (hn : l.length = n) (h1 : n ≤ 1024) (hp : 0 < n) (hg : g ∉ no) : Sl w no (some ⟨g, 0, none⟩) n l := by
  subst hn
  exact ⟨Nat.le_refl _, h1, h, fun a ha => by
    cases ha
    obtain ⟨b, o, e, hb, _⟩ := h.2 hp
    cases e
    exact ⟨rfl, hg, hb⟩⟩
theorem Blk.sl {w : World} {no : List Nat} {g n : Nat} {l : List Int} (h : Blk w g 3 (l.map (Value.int .i64))) (hn : l.length = n) (h1 : n ≤ 1024) (hg : g ∉ no) : Sl w no (some ⟨g, 0, none⟩) n l := by
  subst hn
  refine ⟨Nat.le_refl _, h1, ⟨by simp, fun _ => ⟨g, 0, rfl, h.lt, fun j u hu => by rw [Nat.zero_add, h.cell j]; exact hu⟩⟩, fun a ha => by cases ha; exact ⟨rfl, hg, h.lt⟩⟩
theorem concat2_calls (w : World) (q g1 g2 : Nat) (l1 l2 : List Int) (n1 : l1.length = 4) (n2 : l2.length = 4) (hq : Blk w q 35 [.slice (some ⟨g1, 0, none⟩) 4 4, .slice (some ⟨g2, 0, none⟩) 4 4]) (s1 : Sl w [] (some ⟨g1, 0, none⟩) 4 l1) (s2 : Sl w [] (some ⟨g2, 0, none⟩) 4 l2) :
    Calls Tryz.prog 50 #[.slice (some ⟨q, 0, none⟩) 2 2] w fun e w' => ∃ A c, e = .returned (.slice A (l1 ++ l2).length c) ∧ OwnI w w' A c (l1 ++ l2) ∧ Below w.heap.size w w' := by
  have h := concat_calls w [] q [⟨some ⟨g1, 0, none⟩, 4, l1⟩, ⟨some ⟨g2, 0, none⟩, 4, l2⟩] (by simpa [SlI.val, n1, n2] using hq) (two_sl s1 s2 (fun e => by simp only [] at e; rw [e] at n1; cases n1) (fun e => by simp only [] at e; rw [e] at n2; cases n2)) (by simp) (by simp [catI, n1, n2])
  simpa [catI] using h
def Cmd.nums (q : Cmd) : List Int := [q.k, q.a, q.b, q.c, q.p.r, q.p.w, q.p.l, q.p.b]
def Cmd.bytes (q : Cmd) : List Nat := encs (q.nums.map Int.toNat)
end Go.Proofs.YtanfdnpnkdiiiaaGreat

namespace Go.Proofs.YtanfdnpnkdiiiaaGreat
open Go.RowKit Go.Proofs
set_option linter.unusedVariables false
set_option linter.unusedSimpArgs false

def Cmd.zero : Cmd := ⟨0, 0, 0, 0, ⟨0, 0, 0, 0⟩⟩
def Cmd.of (l : List Nat) : Cmd := ⟨(l.getD 0 0 : Nat), (l.getD 1 0 : Nat), (l.getD 2 0 : Nat), (l.getD 3 0 : Nat), ⟨(l.getD 4 0 : Nat), (l.getD 5 0 : Nat), (l.getD 6 0 : Nat), (l.getD 7 0 : Nat)⟩⟩
/-- the command of bytes, and whether they are one -/
def rcmd (L : List Nat) : Cmd × Bool :=
  if ((⟨L, 0⟩ : Rdr).nums 9223372036854775807 8).2.fin = 0 then (Cmd.of ((⟨L, 0⟩ : Rdr).nums 9223372036854775807 8).1, true) else (Cmd.zero, false)
/-- an array of numbers of which k stand -/
def arr8 (l : List Nat) : List Value := l.map (fun n : Nat => Value.int .i64 n) ++ List.replicate (8 - l.length) (.int .i64 0)
theorem arr8_set {l : List Nat} {n : Nat} (h : l.length < 8) : (arr8 l).set l.length (.int .i64 (n : Int)) = arr8 (l ++ [n]) := by
  unfold arr8
  obtain ⟨m, hm⟩ : ∃ m, 8 - l.length = m + 1 := ⟨8 - l.length - 1, by omega⟩
  have e : 8 - (l ++ [n]).length = m := by simp; omega
  rw [e, hm, List.replicate_succ]
  simp
theorem arr8_get {l : List Nat} (h : l.length = 8) {k : Nat} (hk : k < 8) : (arr8 l)[k]? = some (.int .i64 (l.getD k 0 : Nat)) := by
  unfold arr8
  rw [List.getElem?_append_left (by simp; omega), List.getElem?_map, List.getD_eq_getElem?_getD, List.getElem?_eq_getElem (by omega)]
  rfl
theorem arr8_len {l : List Nat} (h : l.length ≤ 8) : (arr8 l).length = 8 := by unfold arr8; simp; omega
end Go.Proofs.YtanfdnpnkdiiiaaGreat

namespace Go.Proofs.YtanfdnpnkdiiiaaGreat
open Go.ChangeShapes Go.WideShapes Go.ChangeAt Go.RowKit Go.Joins Go.Deep Go.Proofs
set_option linter.unusedVariables false
set_option linter.unusedSimpArgs false

theorem cmdStood : Tryz.prog.stoodInHeld 68 = false := by kernel_rfl
set_option maxHeartbeats 4000000 in
theorem run_eqCmdIn (n : Nat) (a b c d e f g h a' b' c' d' e' f' g' h' : Int) (w : World) : (Op.equalIn (n + 3) 68 (.agg #[.int .i64 a, .int .i64 b, .int .i64 c, .int .i64 d, .int .i64 e, .int .i64 f, .int .i64 g, .int .i64 h]) (.agg #[.int .i64 a', .int .i64 b', .int .i64 c', .int .i64 d', .int .i64 e', .int .i64 f', .int .i64 g', .int .i64 h'])).run Tryz.prog w = .ok (a == a' && (b == b' && (c == c' && (d == d' && (e == e' && (f == f' && (g == g' && h == h'))))))) w := by
  have hI := run_eqI (n + 1)
  have hP := run_eqPolIn n
  have hp := cmdStood
  unfold Op.equalIn
  simp [run_underlying Tryz.underlying68, part, go_sem, Tryz.isAgg3, Tryz.isAgg66, hI, hP]
  by_cases e1 : a = a' <;> by_cases e2 : b = b' <;> by_cases e3 : c = c' <;> by_cases e4 : d = d' <;> simp [e1, e2, e3, e4]
  all_goals (by_cases e5 : e = e' <;> by_cases e6 : f = f' <;> by_cases e7 : g = g' <;> by_cases e8 : h = h' <;> simp [e5, e6, e7, e8])
def eqCmd (x y : Cmd) : Bool := x.k == y.k && (x.a == y.a && (x.b == y.b && (x.c == y.c && (x.p.r == y.p.r && (x.p.w == y.p.w && (x.p.l == y.p.l && x.p.b == y.p.b))))))
theorem run_eqCmd (a b c d e f g h a' b' c' d' e' f' g' h' : Int) (w : World) : (binOp .eql 68 (.agg #[.int .i64 a, .int .i64 b, .int .i64 c, .int .i64 d, .int .i64 e, .int .i64 f, .int .i64 g, .int .i64 h]) (.agg #[.int .i64 a', .int .i64 b', .int .i64 c', .int .i64 d', .int .i64 e', .int .i64 f', .int .i64 g', .int .i64 h'])).run Tryz.prog w = .ok (.bool (eqCmd ⟨a, b, c, d, ⟨e, f, g, h⟩⟩ ⟨a', b', c', d', ⟨e', f', g', h'⟩⟩)) w := by
  simp only [binOp]
  simp [Op.equal, Op.maxDepth, run_eqCmdIn 9997, eqCmd]
/-- what comes back of a command -/
def Cmd.max0 (q : Cmd) : Cmd := ⟨max q.k 0, max q.a 0, max q.b 0, max q.c 0, ⟨max q.p.r 0, max q.p.w 0, max q.p.l 0, max q.p.b 0⟩⟩
theorem rcmd_bytes (q : Cmd) (hq : ∀ n ∈ q.nums, n < 2 ^ 63) : rcmd q.bytes = (q.max0, true) := by
  have h := Rdr.nums_enc (l := q.nums.map Int.toNat) (most := 9223372036854775807) [] (fun n hn => by
    obtain ⟨z, hz, rfl⟩ := List.mem_map.1 hn
    have := hq z hz
    omega) 8 (by simp [Cmd.nums])
  rw [List.append_nil, List.append_nil, List.take_of_length_le (by simp [Cmd.nums]), List.drop_of_length_le (by simp [Cmd.nums])] at h
  unfold rcmd
  have hf : (List.map Int.toNat q.nums, (⟨encs [], 0⟩ : Rdr)).2.fin = 0 := rfl
  rw [show q.bytes = encs (q.nums.map Int.toNat) from rfl, h, if_pos hf]
  obtain ⟨k, a, b, c, ⟨r, w, l, bb⟩⟩ := q
  simp only [Cmd.nums, List.map_cons, List.map_nil, Cmd.of, Cmd.max0, List.getD_cons_zero, List.getD_cons_succ, Int.toNat_eq_max]
theorem rcmd_ok {L : List Nat} (hb : ∀ x ∈ L, x < 256) (h : (rcmd L).2 = true) : (rcmd L).1.bytes = L ∧ ∀ n ∈ (rcmd L).1.nums, n < 2 ^ 63 := by
  unfold rcmd at h ⊢
  obtain ⟨p, hp⟩ : ∃ p, (⟨L, 0⟩ : Rdr).nums 9223372036854775807 8 = p := ⟨_, rfl⟩
  have hl := Rdr.nums_len (⟨L, 0⟩ : Rdr) 9223372036854775807 8
  have ho := Rdr.nums_ok (r := ⟨L, 0⟩) (most := 9223372036854775807) hb 8
  rw [hp] at h hl ho ⊢
  by_cases hf : p.2.fin = 0
  · rw [if_pos hf]
    have he : p.2.e = 0 ∧ p.2.b = [] := by
      unfold Rdr.fin at hf
      split at hf
      · omega
      · rename_i h2
        refine ⟨hf, List.eq_nil_of_length_eq_zero ?_⟩
        have : ¬ (0 < p.2.b.length) := fun h3 => h2 ⟨h3, hf⟩
        omega
    obtain ⟨_, h2, h3⟩ := ho he.1
    rw [he.2, List.append_nil] at h2
    obtain ⟨l, r⟩ := p
    simp only [] at hl h2 h3 ⊢
    match l, hl with
    | [x0, x1, x2, x3, x4, x5, x6, x7], _ =>
      refine ⟨?_, fun n hn => ?_⟩
      · rw [h2]
        simp [Cmd.bytes, Cmd.of, Cmd.nums]
      · simp only [Cmd.of, Cmd.nums, List.getD_cons_zero, List.getD_cons_succ, List.mem_cons, List.mem_nil_iff, or_false] at hn
        have h4 : ∃ x ∈ [x0, x1, x2, x3, x4, x5, x6, x7], n = (x : Int) := by
          rcases hn with rfl | rfl | rfl | rfl | rfl | rfl | rfl | rfl <;> exact ⟨_, by simp, rfl⟩
        obtain ⟨x, hx, rfl⟩ := h4
        have := (h3 x hx).2
        omega
  · rw [if_neg hf] at h
    cases h
theorem rcmd_no {L : List Nat} (h : (rcmd L).2 = false) : (rcmd L).1 = Cmd.zero := by
  unfold rcmd at h ⊢
  split at h
  · cases h
  · rename_i h2
    rw [if_neg h2]
theorem eqCmd_max0 (q : Cmd) : eqCmd q.max0 q = (decide (0 ≤ q.k) && decide (0 ≤ q.a) && decide (0 ≤ q.b) && decide (0 ≤ q.c) && decide (0 ≤ q.p.r) && decide (0 ≤ q.p.w) && decide (0 ≤ q.p.l) && decide (0 ≤ q.p.b)) := by
  have h : ∀ z : Int, (max z 0 == z) = decide (0 ≤ z) := fun z => by
    rw [Bool.eq_iff_iff, beq_iff_eq, decide_eq_true_iff]
    omega
  obtain ⟨k, a, b, c, ⟨r, w, l, bb⟩⟩ := q
  simp only [eqCmd, Cmd.max0, h, Bool.and_assoc]
set_option maxRecDepth 100000 in
/-- an argument that is a command -/
theorem open_cmd {H : Type} {enc : TypeId × Value → H} {W : World} {base : Nat} {v : Value} {d : DataW H} {p : List MemPlace}
    (ok : Value.okWide Tryz.prog W .any base 68 v) (h : DataW.Trod enc Tryz.prog W 0 (fun _ => true) true 68 v d p) :
    ∃ q : Cmd, v = q.val ∧ ∀ n ∈ q.nums, i64ok n := by
  obtain ⟨cs, rfl, hsz⟩ := okWide_struct Tryz.underlying68 ok
  have hsz8 : cs.size = 8 := hsz.trans (by kernel_rfl)
  obtain ⟨fuel, hf⟩ := h
  have hA := fun j hj => allCmd fuel _ _ hf j hj
  obtain ⟨z0, b0, e0⟩ := hA 0 (by decide)
  obtain ⟨z1, b1, e1⟩ := hA 1 (by decide)
  obtain ⟨z2, b2, e2⟩ := hA 2 (by decide)
  obtain ⟨z3, b3, e3⟩ := hA 3 (by decide)
  obtain ⟨z4, b4, e4⟩ := hA 4 (by decide)
  obtain ⟨z5, b5, e5⟩ := hA 5 (by decide)
  obtain ⟨z6, b6, e6⟩ := hA 6 (by decide)
  obtain ⟨z7, b7, e7⟩ := hA 7 (by decide)
  refine ⟨⟨z0, z1, z2, z3, ⟨z4, z5, z6, z7⟩⟩, ?_, fun n hn => ?_⟩
  · unfold Cmd.val Cmd.cells
    congr 1
    obtain ⟨l⟩ := cs
    simp only [List.size_toArray] at hsz8
    simp only [Value.cells] at e0 e1 e2 e3 e4 e5 e6 e7
    match l, hsz8 with
    | [x0, x1, x2, x3, x4, x5, x6, x7], _ =>
      simp only [List.getElem?_cons_succ, List.getElem?_cons_zero, Option.some.injEq] at e0 e1 e2 e3 e4 e5 e6 e7
      rw [e0, e1, e2, e3, e4, e5, e6, e7]
  · simp only [Cmd.nums, List.mem_cons, List.mem_nil_iff, or_false] at hn
    rcases hn with rfl | rfl | rfl | rfl | rfl | rfl | rfl | rfl <;> assumption
set_option maxRecDepth 100000 in
/-- an argument that is bytes -/
theorem open_bytes {H : Type} {enc : TypeId × Value → H} {W : World} {base : Nat} {v : Value} {d : DataW H} {p : List MemPlace}
    (ok : Value.okWide Tryz.prog W .any base 23 v) (h : DataW.Trod enc Tryz.prog W 0 (fun _ => true) true 23 v d p) :
    ∃ (A : Option Addr) (c : Nat) (L : List Nat), v = .slice A L.length c ∧ L.length ≤ c ∧ c ≤ maxLen ∧ (∀ x ∈ L, x < 256) ∧ Reads W W.heap.size 1 A L.length (bys L) := by
  obtain ⟨A, c, xs, rfl, hle, hcm, hwf, hr⟩ := open_intsR Tryz.underlying23 Tryz.underlying5 (by kernel_rfl) ok h
  have hx : ∀ x ∈ xs, 0 ≤ x ∧ x ≤ 255 := fun x hx => bounds_u8 (hwf x hx)
  refine ⟨A, c, xs.map Int.toNat, by simp, by simpa using hle, hcm, fun x h => ?_, ?_⟩
  · obtain ⟨z, hz, rfl⟩ := List.mem_map.1 h
    have := hx z hz
    omega
  · have e : bys (xs.map Int.toNat) = xs.map (Value.int .u8) := by
      unfold bys
      rw [List.map_map]
      apply List.map_congr_left
      intro z hz
      have := hx z hz
      simp only [Function.comp_apply]
      congr 1
      omega
    rw [e, List.length_map]
    exact hr
end Go.Proofs.YtanfdnpnkdiiiaaGreat
