/- A range over a map that holds a list; State.admits, State.loads. -/
import Derived.Test.YtcgecalbgkkinaaGreatVm6
namespace Go.Proofs.YtcgecalbgkkinaaGreat
open Go.RowKit Go.Proofs Go.Maps
set_option linter.unusedVariables false
set_option linter.unusedSimpArgs false

/-- a range over block b under way: lf tells which keys are still to come -/
def Ranges {α : Type} (key : α → Int) (val : α → Value) (w : World) (b r : Nat) (L : List α) (lf : Int → Bool) (cnt : Nat) : Prop :=
  ∃ n D left, w.ranges Tryz.prog 3 wholeE b r n D left cnt ∧ ((∀ x, Maps.has D (.int .i64 x) = true ↔ x ∈ L.map key) ∧ (∀ k, i64ok k → ∀ z, D.atKey (.int .i64 k) (.held z) = .held (((fd key L k).map val).getD z)) ∧ Rise key L ∧ ∀ x ∈ L, i64ok (key x)) ∧
    ∀ x, lf x = left (.int .i64 x)
section
variable {α : Type} {key : α → Int} {val : α → Value} {w w' : World} {b r cnt : Nat} {L : List α} {lf : Int → Bool} {mt et : TypeId}
theorem Ranges.left_eq (h : Ranges key val w b r L lf cnt) : w.rangeLeft b r = cnt := by obtain ⟨n, D, left, h, _⟩ := h; exact h.left_eq
theorem Ranges.lt (h : Ranges key val w b r L lf cnt) : r < w.heap.size := by obtain ⟨n, D, left, h, _⟩ := h; exact h.lt
theorem Ranges.below (h : Ranges key val w b r L lf cnt) (hb : Below w.heap.size w w') : Ranges key val w' b r L lf cnt := by
  obtain ⟨n, D, left, h, h2⟩ := h
  exact ⟨n, D, left, h.kept (row := none) ⟨hb.os, hb.tape, hb.output, hb.size, fun i hi _ => hb.block i hi⟩ (by simp) (by simp), h2⟩
theorem Ranges.drew (h : Ranges key val w b r L lf cnt) : Ranges key val w.drew b r L lf cnt := h.below (Below.refl _ _).drew
theorem Tab.wpl_range {ops : Array Oper} {rest : List Oper} {o : Oper} {a : Act} {Q : Exit → Act → World → Prop} (hg : o.guard = none) (m : Operand) (hop : o.op = Op.range mt m) (ht : Tryz.prog.underlying mt = some (.map 3 et))
    (hm : a.eval m = .map (some b)) (h : Tab key val w b L)
    (hK : ∀ w' lf, Ranges key val w' b w.heap.size L lf L.length → (∀ x, lf x = true ↔ x ∈ L.map key) → Below w.heap.size w w' → w.heap.size < w'.heap.size → wpList Tryz.prog ops Q rest (a.put o.dst (.pointer (some ⟨w.heap.size, 0, none⟩))) w') :
    wpList Tryz.prog ops Q (o :: rest) a w := by
  obtain ⟨D, ho, hsz, _, hhas, hat⟩ := h.keys
  refine wpList_range_own w hg m mt hop 3 et law ht wholeE b L.length D hm ho fun w' h1 h2 h3 => ?_
  refine hK w' (fun x => Maps.has D (.int .i64 x)) ⟨_, D, _, hsz ▸ h1, ⟨hhas, hat, h.rise, h.ok⟩, fun x => rfl⟩ hhas ⟨h2.os, h2.tape, h2.output, h2.size, fun k hk => h2.block k hk (by simp)⟩ (by omega)
theorem Ranges.wpl_next {ops : Array Oper} {rest : List Oper} {o : Oper} {a : Act} {Q : Exit → Act → World → Prop} (hg : o.guard = none) (it : Operand) (hop : o.op = Op.next it false)
    (hit : a.eval it = .pointer (some ⟨r, 0, none⟩)) (h : Ranges key val w b r L lf cnt)
    (hDone : (∀ x, lf x = false) → wpList Tryz.prog ops Q rest (a.put o.dst (.tuple #[.bool false])) w)
    (hMore : ∀ e w' cnt', e ∈ L → lf (key e) = true → Ranges key val w' b r L (fun x => lf x && !(x == key e)) cnt' → cnt' < cnt → Chg [r] w w' → (Instr.entry (.pointer (some ⟨r, 0, none⟩))).run Tryz.prog w' = .ok (.tuple #[.int .i64 (key e), val e]) w' →
      wpList Tryz.prog ops Q rest (a.put o.dst (.tuple #[.bool true, .int .i64 (key e), val e])) w') : wpList Tryz.prog ops Q (o :: rest) a w := by
  obtain ⟨n, D, left, hr, ⟨hhas, hat, hrise, hok⟩, hlf⟩ := h
  refine wpList_next_ranges w hg it hop 3 law wholeE (Value.int .i64) (id : Value → Value) (fun k kl hk => by obtain ⟨x, rfl, _⟩ := Maps.keyOf_int_inv Tryz.underlying3 hk; exact ⟨x, rfl⟩) (fun v y hv => ⟨v, rfl⟩) b r n D left cnt hit hr
    (fun _ h0 => hDone fun x => (hlf x).trans (h0 _)) fun x c kl y w' cnt' hk hl hR hD hr' hc hgr hsz hen => ?_
  obtain ⟨x', e, rfl, hw⟩ := Maps.keyOf_int_inv Tryz.underlying3 hk
  injection e with _ e
  subst e
  have hx : i64ok x := bounds_i64 hw
  have hin : x ∈ L.map key := (hhas x).1 (Maps.has_true_of_atKey hD)
  obtain ⟨e, he, rfl⟩ := List.mem_map.1 hin
  have hv : c = val e := by
    have h1 := hat _ hx (.int .i64 0)
    rw [fd_mem hrise he] at h1
    have h2 := hD (.held (.int .i64 0))
    rw [h1] at h2
    have hR' : ((DataW.held c : DataW Value), ([] : List MemPlace)) = y := Option.some.inj hR
    rw [← hR'] at h2
    exact (DataW.held.inj h2).symm
  subst hv
  exact hMore e w' cnt' he ((hlf _).trans hl) ⟨n, D, _, hr', ⟨hhas, hat, hrise, hok⟩, fun z => by show (lf z && !(z == key e)) = _; rw [hlf z]; simp [Lit.sameKey]; rfl⟩ hc (Chg.of_grown hgr) hen
/-- how many of those that have come are of a kind -/
def cntV (key : α → Int) (lf : Int → Bool) (p : α → Bool) (L : List α) : Nat := (L.filter fun z => !lf (key z) && p z).length
theorem cntV_start (p : α → Bool) (h : ∀ x, lf x = true ↔ x ∈ L.map key) : cntV key lf p L = 0 := by
  unfold cntV
  rw [List.length_eq_zero_iff, List.filter_eq_nil_iff]
  intro z hz
  have : lf (key z) = true := (h _).2 (List.mem_map_of_mem hz)
  simp [this]
theorem cntV_end (p : α → Bool) (h : ∀ x, lf x = false) : cntV key lf p L = (L.filter p).length := by
  unfold cntV
  congr 1
  refine List.filter_congr fun z _ => ?_
  rw [h]; rfl
theorem cntV_step (p : α → Bool) (hr : Rise key L) {e : α} (he : e ∈ L) (hl : lf (key e) = true) : cntV key (fun x => lf x && !(x == key e)) p L = cntV key lf p L + (if p e then 1 else 0) := by
  unfold cntV
  induction L with
  | nil => cases he
  | cons z t ih =>
    obtain ⟨h1, h2⟩ := List.pairwise_cons.1 hr
    rcases List.mem_cons.1 he with rfl | he
    · have ht : t.filter (fun z => !((lf (key z)) && !(key z == key e)) && p z) = t.filter (fun z => !lf (key z) && p z) := by
        refine List.filter_congr fun z hz => ?_
        have := h1 z hz
        have hne : (key z == key e) = false := by simp; omega
        rw [hne]; simp
      rw [List.filter_cons, List.filter_cons, ht]
      simp only [hl, beq_self_eq_true]
      cases p e <;> simp
    · have := h1 e he
      have hne : (key z == key e) = false := by simp; omega
      rw [List.filter_cons, List.filter_cons]
      simp only [hne]
      have := ih h2 he
      cases hq : (!lf (key z) && p z) with
      | true =>
        have hq' : (!(lf (key z) && !false) && p z) = true := by simpa using hq
        rw [if_pos hq', if_pos rfl, List.length_cons, List.length_cons, this]; omega
      | false =>
        have hq' : ¬ (!(lf (key z) && !false) && p z) = true := by simpa using hq
        rw [if_neg hq', if_neg (by simp), this]
end
set_option maxHeartbeats 2000000 in
theorem vadmits_calls (w : World) (no : List Nat) (b m1 m2 m3 : Nat) (S : Vst) (V : List VoM) (C : List CkM) (h : VM w no b m1 m2 m3 S V C) (hl : S.vs.length ≤ 1000000) (hch : ∀ v ∈ S.vs, ∀ k ∈ v.ch, i64ok k) :
    Calls Tryz.prog 25 #[.pointer (some ⟨b, 0, none⟩)] w fun e w' => e = .returned (.bool S.admits) ∧ Below w.heap.size w w' := by
  have c0 : w.cell? ⟨b, 0, none⟩ = some (.map (some m1)) := h.blk.cell 0
  have H := hide h
  clear h
  go_enter Tryz.func25, Tryz.ntmps25
  go_wp2_with (at_range; refine Tab.wpl_range rfl _ rfl Tryz.underlying60 rfl H.out.t1 ?_; intro w0 lf hrg hlf hb0 hs0)
  go_frame
  have hst : Hid (∀ x ∈ S.sv, lf x.1 = false → Go.Proofs.YtcgecalbgkkinaaGreat.admits x.2 (S.polOf x.1) = true) := hide fun x hx hx2 => by
    have := (hlf x.1).2 (List.mem_map_of_mem hx)
    rw [hx2] at this
    cases this
  have HRG := hide hrg
  have HB0 := hide hb0
  clear hrg hlf hb0 c0
  go_loopw [3, 4] (fun _ _ wr => ∃ lf cnt, Ranges Prod.fst svVal wr m1 w.heap.size S.sv lf cnt ∧ Below w.heap.size w wr ∧ ∀ x ∈ S.sv, lf x.1 = false → Go.Proofs.YtcgecalbgkkinaaGreat.admits x.2 (S.polOf x.1) = true) (fun _ _ wr => wr.rangeLeft m1 w.heap.size)
  case atStart => exact ⟨lf, _, HRG.out, HB0.out, hst.out⟩
  case round =>
    obtain ⟨lf2, cnt, hrg, hb, hall⟩ := hrel
    have HR := hide hrg
    have HB := hide hb
    have HA := hide hall
    clear hrg hb hall
    go_wp2_with (at_next; refine Ranges.wpl_next rfl _ rfl rfl HR.out ?_ ?_)
    · intro h0
      have HE : Hid (S.admits = true) := hide (by
        unfold Vst.admits
        rw [List.all_eq_true]
        exact fun x hx => HA.out x hx (h0 x.1))
      clear h0
      go_wp2
      go_ret
      exact ⟨ret_bool HE.out.symm, HB.out⟩
    · intro e n w1 cnt1 he hle hrg1 hlt hch1 hen
      simp only [svVal] at hen ⊢
      have HB1 := hide (Chg.onto HB.out HB.out.size hch1 (by simp))
      have HR1 := hide hrg1
      have HM := hide he
      clear hrg1 hch1 he hle
      have hmeas : Hid (w1.rangeLeft m1 w.heap.size < wr.rangeLeft m1 w.heap.size) := hide (by rw [HR1.out.left_eq, HR.out.left_eq]; exact hlt)
      clear hlt
      go_wp2_with fail
      refine (policies_calls w1 no b m1 m2 m3 S V C e (H.out.below HB1.out) hl hch).mono ?_
      rintro e' w2 ⟨A, c, rfl, ho, hg, hb2⟩
      have hb3 := HB1.out.trans (hb2.mono HB1.out.size)
      obtain ⟨A', c', e', _, _, _, _, hrd⟩ := own_view ho
      cases e'
      have HRD := hide (hrd w2.heap.size (fun g hg => own_lt ho hg))
      have HB3 := hide hb3
      have HR2 := hide (HR1.out.below hb2)
      clear ho hg hb2 hb3 hrd hen
      go_wp2_with fail
      refine (admits_calls n (S.polOf e) A c w2 HRD.out).mono ?_
      rintro e' w3 ⟨rfl, hb4⟩
      have HB4 := hide (HB3.out.trans (hb4.mono HB3.out.size))
      have HR3 := hide (HR2.out.below hb4)
      clear hb4
      obtain ⟨q, hq⟩ : ∃ q, Go.Proofs.YtcgecalbgkkinaaGreat.admits n (S.polOf e) = q := ⟨_, rfl⟩
      rw [hq]
      have HQ := hide hq
      clear hq
      cases q with
      | true =>
        go_wp2
        go_roundw
        case rel =>
          refine ⟨_, _, HR3.out, HB4.out, fun x hx hx2 => ?_⟩
          by_cases hxe : x.1 = e
          · have : x = (e, n) := by
              have h1 := fd_mem H.out.t1.rise hx
              have h2 := fd_mem H.out.t1.rise HM.out
              rw [hxe] at h1
              rw [h1] at h2
              injection h2
            rw [this]
            exact HQ.out
          · refine HA.out x hx ?_
            have hne : (x.1 == e) = false := by simp [hxe]
            simpa [hne] using hx2
        case measure => rw [HR3.out.left_eq, ← HR1.out.left_eq]; exact hmeas.out
      | false =>
        have HE : Hid (S.admits = false) := hide (by
          unfold Vst.admits
          rw [List.all_eq_false]
          exact ⟨(e, n), HM.out, by simp [HQ.out]⟩)
        go_wp2
        go_ret
        exact ⟨ret_bool HE.out.symm, HB4.out⟩
end Go.Proofs.YtcgecalbgkkinaaGreat
