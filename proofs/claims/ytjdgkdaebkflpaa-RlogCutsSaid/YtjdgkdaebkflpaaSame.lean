/- The walks through the document's Same of bytes and of entries: what is alike is told so. -/
import Derived.Test.YtjdgkdaebkflpaaRlog4
namespace Go.Proofs.Ytjdgkdaebkflpaa
open Go.RowKit

theorem BytesAt.rule {w : World} {A : Option Addr} {bs : List Int} (h : BytesAt w A bs) (hk : 0 < bs.length) : ∃ b o, A = some ⟨b, o, none⟩ ∧ ∀ j x, bs[j]? = some x → w.cell? ⟨b, o + j, none⟩ = some (.int .u8 x) := by
  obtain ⟨b, o, e, _, hc⟩ := h hk
  exact ⟨b, o, e, hc⟩
set_option maxHeartbeats 1000000 in
theorem same01_calls (bs : List Int) (A A' : Option Addr) (c c' : Nat) (w : World) (h : BytesAt w A bs) (h' : BytesAt w A' bs) (hn : bs.length ≤ 1099511627776) :
    Calls Try.prog 58 #[.slice A bs.length c, .slice A' bs.length c'] w fun e w' => e = .returned (.bool true) ∧ ∃ n, w' = w.drewN n := by
  go_enter Try.func58, Try.ntmps58
  go_wp2
  go_loopw [5] (fun i wr => ∃ k q : Nat, k ≤ bs.length ∧ i = .int .i64 k ∧ wr = w.drewN q) (fun i _ => bs.length - (intOf i).toNat)
  case atStart => exact ⟨0, 0, Nat.zero_le _, rfl, rfl⟩
  case round =>
    obtain ⟨k, q, hk, rfl, rfl⟩ := hrel
    by_cases hlt : k < bs.length
    · obtain ⟨b, o, rfl, hc⟩ := h.rule (by omega)
      obtain ⟨b', o', rfl, hc'⟩ := h'.rule (by omega)
      have g := hc k bs[k] (by simp [hlt])
      have g' := hc' k bs[k] (by simp [hlt])
      have i1 : (k : Int) < bs.length := by omega
      obtain ⟨x, hx⟩ : ∃ x, bs[k] = x := ⟨_, rfl⟩
      rw [hx] at g g'
      clear hc hc' hx h h'
      go_wp2
      go_quiet (fail)
      go_wp2
      go_roundw
      case rel => exact ⟨k + 1, _, by omega, by go_num, rfl⟩
      case measure => simp [intOf]; omega
    · have e : k = bs.length := by omega
      subst e
      go_wp2
      go_ret
      exact ⟨rfl, q, rfl⟩
theorem cons_at {xs ys : List Ent} (h : cons xs = cons ys) (k : Nat) (h1 : k < xs.length) (h2 : k < ys.length) : xs[k].t = ys[k].t ∧ xs[k].k = ys[k].k ∧ xs[k].b = ys[k].b := by
  have e1 : (cons xs)[k]? = some xs[k].con := by simp [cons, h1]
  have e2 : (cons ys)[k]? = some ys[k].con := by simp [cons, h2]
  rw [h, e2] at e1
  simp only [Option.some.injEq, Ent.con, Prod.mk.injEq] at e1
  exact ⟨e1.1.symm, e1.2.1.symm, e1.2.2.symm⟩
theorem entry_b {w : World} {es : List Ent} {b o k : Nat} (hc : ∀ (j : Nat) (u : Value), (entCells es)[j]? = some u → w.cell? ⟨b, o + j, none⟩ = some u) (hk : k < es.length) :
    w.cell? ⟨b, o + k * 3, none⟩ = some (.int .i64 es[k].t) ∧ w.cell? ⟨b, o + k * 3 + 1, none⟩ = some (.int .i64 es[k].k) ∧ w.cell? ⟨b, o + k * 3 + 2, none⟩ = some (.slice es[k].A es[k].b.length es[k].c) := by
  have g : ∀ q u, q < 3 → es[k].cells[q]? = some u → w.cell? ⟨b, o + k * 3 + q, none⟩ = some u := fun q u hq hu => by
    rw [Nat.add_assoc]
    exact hc _ _ ((entCells_get es k q hk hq).trans hu)
  exact ⟨g 0 _ (by omega) rfl, g 1 _ (by omega) rfl, g 2 _ (by omega) rfl⟩
set_option maxHeartbeats 2000000 in
theorem same14_calls (xs ys : List Ent) (n : Nat) (hxn : xs.length = n) (hyn : ys.length = n) (A A' : Option Addr) (c c' : Nat) (w : World) (h : Reads w w.heap.size 3 A n (entCells xs)) (h' : Reads w w.heap.size 3 A' n (entCells ys))
    (hx : ∀ e ∈ xs, EntOk w e) (hy : ∀ e ∈ ys, EntOk w e) (hxy : cons xs = cons ys) (hn : n ≤ 1048576) (hf : Few xs) :
    Calls Try.prog 24 #[.slice A n c, .slice A' n c'] w fun e w' => e = .returned (.bool true) ∧ ∃ n, w' = w.drewN n := by
  go_enter Try.func24, Try.ntmps24
  go_wp2
  go_loopw [5] (fun i wr => ∃ k q : Nat, k ≤ n ∧ i = .int .i64 k ∧ wr = w.drewN q) (fun i _ => n - (intOf i).toNat)
  case atStart => exact ⟨0, 0, Nat.zero_le _, rfl, rfl⟩
  case round =>
    obtain ⟨k, q, hk, rfl, rfl⟩ := hrel
    by_cases hlt : k < n
    · obtain ⟨b, o, rfl, _, hc⟩ := h.at_ (by omega)
      obtain ⟨b', o', rfl, _, hc'⟩ := h'.at_ (by omega)
      have hkx : k < xs.length := by omega
      have hky : k < ys.length := by omega
      obtain ⟨g0, g1, g2⟩ := entry_b hc hkx
      obtain ⟨k0, k1, k2⟩ := entry_b hc' hky
      obtain ⟨s1, s2, s3⟩ := cons_at hxy k hkx hky
      have ok1 := hx _ (List.getElem_mem hkx)
      have ok2 := hy _ (List.getElem_mem hky)
      have fw := hf _ (List.getElem_mem hkx)
      obtain ⟨x, hxx⟩ : ∃ x, xs[k] = x := ⟨_, rfl⟩
      obtain ⟨y, hyy⟩ : ∃ y, ys[k] = y := ⟨_, rfl⟩
      rw [hxx] at g0 g1 g2 s1 s2 s3 ok1 fw
      rw [hyy] at k0 k1 k2 s1 s2 s3 ok2
      rw [← s1] at k0
      rw [← s2] at k1
      have bb1 := ok1.2.2.2.2
      have bb2 := ok2.2.2.2.2
      rw [← s3] at k2 bb2
      have i1 : (k : Int) < n := by omega
      have d1 : (x.t != x.t) = false := by simp
      have d2 : (x.k != x.k) = false := by simp
      clear hxx hyy s1 s2 s3 hc hc' h h' hx hy hxy hf ok1 ok2
      have HB1 := hide bb1
      have HB2 := hide bb2
      clear bb1 bb2
      go_wp2
      go_quiet ((go_at_call 58; first | exact quiet_more (same01_calls x.b _ _ _ _ _ (by exact HB1.out) (by exact HB2.out) (by omega)) | exact quiet_add_more (same01_calls x.b _ _ _ _ _ (by exact HB1.out) (by exact HB2.out) (by omega))))
      go_wp2
      go_roundw
      case rel => exact ⟨k + 1, _, by omega, by go_num, rfl⟩
      case measure => simp [intOf]; omega
    · have e : k = n := by omega
      subst e
      go_wp2
      go_ret
      exact ⟨rfl, q, rfl⟩
end Go.Proofs.Ytjdgkdaebkflpaa
