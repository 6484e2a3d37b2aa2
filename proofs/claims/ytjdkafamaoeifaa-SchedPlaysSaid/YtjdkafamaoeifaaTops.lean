/- One text of several: XSch9 XFlw XOpenG XActs XPly XPlay XPlay2 XReg4. -/
import Derived.Test.YtjdkafamaoeifaaSch8
import Derived.Test.YtjdkafamaoeifaaKeys
import Derived.Test.YtjdkafamaoeifaaOpen
import Derived.Test.YtjdkafamaoeifaaOpenP
import Derived.Test.YtjdkafamaoeifaaDoc6
import Derived.Test.YtjdkafamaoeifaaReg2
namespace Go.Proofs.Ytjdkafamaoeifaa
open Go.RowKit Go.Proofs Go.Maps
set_option linter.unusedVariables false
set_option linter.unusedSimpArgs false

def cntDnP (c : Nat) (o : Option Nat) : Nat := if o.isSome then c - 1 else c
theorem PM.wpl_del {ops : Array Oper} {rest : List Oper} {o : Oper} {a : Act} {Q : Exit → Act → World → Prop} {w : World} {b c : Nat} {f : Int → Option Nat} {k : Int} (hg : o.guard = none) (m x : Operand)
    (ho : o.op = .call { callee := .builtin .delete, args := #[m, x], argTypes := #[78, 3] }) (hm : a.eval m = .map (some b)) (hx : a.eval x = .int .i64 k) (h : PM w b c f) (hk : i64ok k)
    (hK : ∀ w', PM w' b (cntDnP c (f k)) (updN f k none) → Chg [b] w w' → wpList Try.prog ops Q rest (a.put o.dst (.tuple #[])) w') : wpList Try.prog ops Q (o :: rest) a w := by
  refine wpList_plain hg fun K' hK' => ?_
  obtain ⟨w', hrun, r1, r2⟩ := h.del hk o.type
  unfold Oper.wp
  simp [execOp, ho, resolve, invoke, builtin, hm, hx, hrun, Result.andThen]
  exact hK' _ _ (hK w' r1 r2)
theorem look_out {Ms : List Fm} (hn : (Ms.map fun m => m.f.id).Nodup) {i : Nat} (hi : i < Ms.length) : look (Ms.eraseIdx i) = updN (look Ms) Ms[i].f.id none := by
  obtain ⟨A, B, e, hA, _⟩ : ∃ A B, Ms = A ++ Ms[i] :: B ∧ A.length = i ∧ True := ⟨Ms.take i, Ms.drop (i + 1), by rw [← List.drop_eq_getElem_cons hi, List.take_append_drop], by simp; omega, trivial⟩
  obtain ⟨m, hm⟩ : ∃ m, Ms[i] = m := ⟨_, rfl⟩
  rw [hm] at e ⊢
  have he : Ms.eraseIdx i = A ++ B := by
    rw [e, ← hA, List.eraseIdx_append_of_length_le (Nat.le_refl _), Nat.sub_self]
    rfl
  rw [e, List.map_append, List.map_cons, List.nodup_append] at hn
  obtain ⟨_, h2, h3⟩ := hn
  rw [List.nodup_cons] at h2
  have nA : ∀ g ∈ A, g.f.id ≠ m.f.id := fun g hg e => h3 _ (List.mem_map_of_mem hg) _ (List.mem_cons_self ..) e
  have nB : ∀ g ∈ B, g.f.id ≠ m.f.id := fun g hg e => h2.1 (by rw [← e]; exact List.mem_map_of_mem hg)
  rw [he]
  funext k
  by_cases ek : k = m.f.id
  · subst ek
    rw [updN_same]
    exact look_none fun g hg => by
      rcases List.mem_append.1 hg with h | h
      · exact nA g h
      · exact nB g h
  · rw [updN_other ek, e]
    unfold look
    rw [List.find?_append, List.find?_append, List.find?_cons]
    have : (m.f.id == k) = false := by simpa using Ne.symm ek
    rw [this]
theorem eraseIdx_map' {α β : Type} (g : α → β) (L : List α) (i : Nat) : (L.map g).eraseIdx i = (L.eraseIdx i).map g := by
  induction L generalizing i with
  | nil => rfl
  | cons a t ih =>
    cases i with
    | zero => rfl
    | succ j => simp [ih j]
theorem mem_out {α : Type} {L : List α} {i : Nat} {x : α} (h : x ∈ L.eraseIdx i) : x ∈ L := List.mem_of_mem_eraseIdx h
theorem SM.out {w w' : World} {ps bm : Nat} {role : Nat → Int} {Ms : List Fm} {LR LW : List Ld} {svR mvR svW mvW : Value} {FR FW : List Nat} (h : SM w ps bm role Ms LR LW svR mvR svW mvW FR FW) {i : Nat} (hi : i < Ms.length)
    (hp : PM w' bm (Ms.length - 1) (updN (look Ms) Ms[i].f.id none)) (hc : Chg [bm] w w') : SM w' ps bm role (Ms.eraseIdx i) LR LW svR mvR svW mvW FR FW := by
  have hne : ∀ z, (role z ≠ -2) → z ∉ [bm] := fun z hz hm => hz (by rw [List.mem_singleton.1 hm]; exact h.bm_)
  refine ⟨h.blk.chg hc (hne _ (by rw [h.ps_]; decide)), ?_, h.hr.chg hc (fun z hz => hne _ (by rw [h.rR z hz]; decide)), h.hw.chg hc (fun z hz => hne _ (by rw [h.rW z hz]; decide)), fun m hm => ?_, ?_, h.ps_, h.bm_, h.rR, h.rW, fun m hm => h.rF m (mem_out hm)⟩
  · rw [look_out h.nd hi, List.length_eraseIdx, if_pos hi]
    exact hp
  · refine (h.fl m (mem_out hm)).chg hc (fun z hz => hne z ?_)
    rw [(h.rF m (mem_out hm)).2.2 z hz]
    have := (h.rF m (mem_out hm)).1
    omega
  · exact List.Nodup.sublist (List.Sublist.map _ (List.eraseIdx_sublist ..)) h.nd
theorem Stands.out {L L' : List Ld} {X : List Fl} {key : Fl → Int} {i : Nat} {f : Fl} (hS : Stands L X key) (hn : (X.map Fl.id).Nodup) (hi : i < X.length) (hf : X[i] = f) (hL : L'.Perm (outL L f.id)) : Stands L' (X.eraseIdx i) key := by
  have h1 : Stands L' (X.set i ⟨f.id, f.ver, f.p, f.c, []⟩) key := hS.flow hn hi hf rfl (by unfold standL; rw [if_pos rfl]; exact hL)
  obtain ⟨A, B, rfl, hA, hset⟩ := split_at hi hf
  have he : (A ++ f :: B).eraseIdx i = A ++ B := by
    rw [← hA, List.eraseIdx_append_of_length_le (Nat.le_refl _), Nat.sub_self]
    rfl
  rw [hset] at h1
  rw [he]
  unfold Stands at h1 ⊢
  rw [List.filter_append, List.filter_cons] at h1
  rw [List.filter_append]
  exact h1
set_option maxHeartbeats 4000000 in
set_option maxRecDepth 100000 in
theorem slen_none (w : World) (ps : Nat) (F : List Nat) (X : List Fl) (id : Int) (h : SS w ps F X) (hid : i64ok id) (hno : ∀ f ∈ X, f.id ≠ id) :
    Calls Try.prog 30 #[.pointer (some ⟨ps, 0, none⟩), .int .i64 id] w fun e w' => e = .returned (.int .i64 0) ∧ w = w' := by
  obtain ⟨LR, LW, ⟨bm, role, Ms, svR, mvR, svW, mvW, FR, FW, h, rfl, _⟩, _, _⟩ := h
  have hl : look Ms id = none := look_none fun m hm => hno _ (List.mem_map_of_mem hm)
  have lk := h.map.look hid
  rw [hl] at lk
  rw [show pv none = .pointer none from rfl] at lk
  have c0 : w.cell? ⟨ps, 0, none⟩ = some (.map (some bm)) := h.blk.cell 0
  clear hl h hno
  go_enter Try.func30, Try.ntmps30
  go_wp2
  go_ret
  exact ⟨rfl, rfl⟩
set_option maxHeartbeats 4000000 in
set_option maxRecDepth 100000 in
theorem slen_yes (w : World) (ps : Nat) (F : List Nat) (X : List Fl) (i : Nat) (f : Fl) (id : Int) (h : SS w ps F X) (hi : i < X.length) (hf : X[i] = f) (hid : f.id = id) :
    Calls Try.prog 30 #[.pointer (some ⟨ps, 0, none⟩), .int .i64 id] w fun e w' => e = .returned (.int .i64 f.q.length) ∧ w = w' := by
  subst hid
  obtain ⟨LR, LW, h, _, _⟩ := h
  obtain ⟨bm, role, Ms, svR, mvR, svW, mvW, FR, FW, m, h, hF, hXm, hIm, rfl, hl, hmm⟩ := h.open_ hi hf
  obtain ⟨k0, k1, _⟩ := h.rF m hmm
  have hok : i64ok m.f.id := ⟨by omega, k1⟩
  have lk := h.map.look hok
  rw [hl] at lk
  rw [show pv (some m.b) = .pointer (some ⟨m.b, 0, none⟩) from rfl] at lk
  obtain ⟨A, cap, hqv, hqc, _⟩ := (h.fl m hmm).2.form
  have c0 : w.cell? ⟨ps, 0, none⟩ = some (.map (some bm)) := h.blk.cell 0
  have m8 : w.cell? ⟨m.b, 8, none⟩ = some (.slice A m.f.q.length cap) := by
    have := (h.fl m hmm).1.cell 8
    rw [show m.cells[8]? = some m.qv from rfl, hqv] at this
    exact this
  clear h hF hXm hIm hl hmm hqv hi hf k0 k1
  go_enter Try.func30, Try.ntmps30
  go_wp2
  go_ret
  exact ⟨rfl, rfl⟩
set_option maxHeartbeats 4000000 in
set_option maxRecDepth 100000 in
theorem sdrop_none (w : World) (ps : Nat) (F : List Nat) (X : List Fl) (id : Int) (h : SS w ps F X) (hid : i64ok id) (hno : ∀ f ∈ X, f.id ≠ id) :
    Calls Try.prog 29 #[.pointer (some ⟨ps, 0, none⟩), .int .i64 id] w fun e w' => e = .returned (.int .i64 0) ∧ w = w' := by
  obtain ⟨LR, LW, ⟨bm, role, Ms, svR, mvR, svW, mvW, FR, FW, h, rfl, _⟩, _, _⟩ := h
  have hl : look Ms id = none := look_none fun m hm => hno _ (List.mem_map_of_mem hm)
  have lk := h.map.look hid
  rw [hl] at lk
  rw [show pv none = .pointer none from rfl] at lk
  have c0 : w.cell? ⟨ps, 0, none⟩ = some (.map (some bm)) := h.blk.cell 0
  clear hl h hno
  go_enter Try.func29, Try.ntmps29
  go_wp2
  go_ret
  exact ⟨rfl, rfl⟩
set_option maxHeartbeats 4000000 in
set_option maxRecDepth 100000 in
theorem spush_none (w : World) (ps : Nat) (F : List Nat) (X : List Fl) (id now : Int) (x : It) (h : SS w ps F X) (hid : i64ok id) (hno : ∀ f ∈ X, f.id ≠ id) :
    Calls Try.prog 16 #[.pointer (some ⟨ps, 0, none⟩), .int .i64 id, .agg #[.int .i64 x.name, .int .i64 x.delta, .int .i64 x.rho], .int .i64 now] w fun e w' => e = .returned (.int .i64 7) ∧ Below w.heap.size w w' := by
  obtain ⟨LR, LW, ⟨bm, role, Ms, svR, mvR, svW, mvW, FR, FW, h, rfl, _⟩, _, _⟩ := h
  have hl : look Ms id = none := look_none fun m hm => hno _ (List.mem_map_of_mem hm)
  have bb : Below w.heap.size w (w.alloc (.cells #[.int .i64 x.name, .int .i64 x.delta, .int .i64 x.rho] 36)) := (Below.refl _ _).alloc (Nat.le_refl _) _
  have h0 := h.below bb
  have lk := h0.map.look hid
  rw [hl] at lk
  rw [show pv none = .pointer none from rfl] at lk
  have c0 : (w.alloc (.cells #[.int .i64 x.name, .int .i64 x.delta, .int .i64 x.rho] 36)).cell? ⟨ps, 0, none⟩ = some (.map (some bm)) := h0.blk.cell 0
  clear hl h h0 hno
  go_enter Try.func16, Try.ntmps16
  go_wp2
  go_ret
  exact ⟨rfl, bb⟩
set_option maxHeartbeats 8000000 in
set_option maxRecDepth 100000 in
theorem sdrop_yes (w : World) (ps : Nat) (F : List Nat) (X : List Fl) (i : Nat) (f : Fl) (id : Int) (h : SS w ps F X) (hX : X.length ≤ 900) (hi : i < X.length) (hf : X[i] = f) (hid : f.id = id) :
    Calls Try.prog 29 #[.pointer (some ⟨ps, 0, none⟩), .int .i64 id] w fun e w' => e = .returned (.int .i64 f.q.length) ∧ Turn w w' ps F (X.eraseIdx i) := by
  subst hid
  have HND := hide h.nodup
  have hids := h.ids
  obtain ⟨LR, LW, h, hSR, hSW⟩ := h
  have HLR : Hid (LR.length ≤ 900) := hide (Nat.le_trans hSR.len hX)
  have HLW : Hid (LW.length ≤ 900) := hide (Nat.le_trans hSW.len hX)
  have HKR := hide (hSR.ids hids)
  have HKW := hide (hSW.ids hids)
  have HSR := hide hSR
  have HSW := hide hSW
  have HIX : Hid (∃ h : i < X.length, X[i] = f) := hide ⟨hi, hf⟩
  obtain ⟨bm, role, Ms, svR, mvR, svW, mvW, FR, FW, m, h, hF, hXm, hIm, rfl, hl, hmm⟩ := h.open_ hi hf
  clear hi hf hSR hSW hids
  obtain ⟨k0, k1, _⟩ := h.rF m hmm
  have hok : i64ok m.f.id := ⟨by omega, k1⟩
  have lk := h.map.look hok
  rw [hl] at lk
  rw [show pv (some m.b) = .pointer (some ⟨m.b, 0, none⟩) from rfl] at lk
  obtain ⟨A, cap, hqv, hqc, _⟩ := (h.fl m hmm).2.form
  have c0 : w.cell? ⟨ps, 0, none⟩ = some (.map (some bm)) := h.blk.cell 0
  have m8 : w.cell? ⟨m.b, 8, none⟩ = some (.slice A m.f.q.length cap) := by
    have := (h.fl m hmm).1.cell 8
    rw [show m.cells[8]? = some m.qv from rfl, hqv] at this
    exact this
  have y8 : w.frozen? ⟨m.b, 8, none⟩ = false := (h.fl m hmm).1.frozen 8
  have ch1 : Chg [m.b] w (w.setCell ⟨m.b, 8, none⟩ (.slice none 0 0)) := (Chg.refl [m.b] w).setCell (Or.inl (by simp)) _
  have FM1 : FmAt (w.setCell ⟨m.b, 8, none⟩ (.slice none 0 0)) ⟨⟨m.f.id, m.f.ver, m.f.p, m.f.c, []⟩, m.b, .slice none 0 0⟩ := ⟨(h.fl m hmm).1.set 8 (.slice none 0 0), Que.nil _ _ _⟩
  obtain ⟨hiM, hmM⟩ := hIm
  have H1' := h.flow (m' := ⟨⟨m.f.id, m.f.ver, m.f.p, m.f.c, []⟩, m.b, .slice none 0 0⟩) hiM (by rw [hmM]) (by rw [hmM]) FM1 (by rw [hmM]; exact ch1.mono fun z hz => Or.inl (by rw [List.mem_singleton.1 hz]; simp [Fm.foot])) (fun z hz => Or.inl (by rw [hmM]; simp [Fm.foot, Value.ownBlock] at hz ⊢; exact Or.inl hz))
  have C1' : Chg F w (w.setCell ⟨m.b, 8, none⟩ (.slice none 0 0)) := ch1.mono fun z hz => Or.inl (by rw [List.mem_singleton.1 hz]; exact hF.2.2.2.2.1 m hmm _ (by simp [Fm.foot]))
  have hiM1 : i < (Ms.set i ⟨⟨m.f.id, m.f.ver, m.f.p, m.f.c, []⟩, m.b, .slice none 0 0⟩).length := by simpa using hiM
  have hmM1 : (Ms.set i ⟨⟨m.f.id, m.f.ver, m.f.p, m.f.c, []⟩, m.b, .slice none 0 0⟩)[i] = ⟨⟨m.f.id, m.f.ver, m.f.p, m.f.c, []⟩, m.b, .slice none 0 0⟩ := by simp
  have HST := hide (stand_calls _ ps bm _ _ LR LW _ _ _ _ FR FW i _ H1' hiM1 hmM1 HLR.out HLW.out HKR.out HKW.out)
  have H1 := hide H1'
  have C1 := hide C1'
  have HF := hide hF
  have HIM := hide (show ∃ h : i < Ms.length, Ms[i] = m from ⟨hiM, hmM⟩)
  have HXM := hide hXm
  have HOK := hide hok
  have hne : ps ≠ m.b := fun e => by
    have h1 := h.ps_
    have h2 := (h.rF m hmm).2.2 m.b (by simp [Fm.foot])
    rw [e] at h1
    omega
  have hne2 : m.b ≠ ps := fun e => hne e.symm
  clear h hF hXm hl hmm hqv hqc FM1 ch1 H1' C1' hiM hmM hiM1 hmM1
  go_enter Try.func29, Try.ntmps29
  go_wp2_with fail
  refine HST.out.mono ?_
  rintro e w2 ⟨rfl, role2, LR2, LW2, svR2, mvR2, svW2, mvW2, FR2, FW2, h2, p2, q2, ch2, g2, k2⟩
  have d0 : w2.cell? ⟨ps, 0, none⟩ = some (.map (some bm)) := h2.blk.cell 0
  have H2 := hide h2
  have P2 := hide (And.intro p2 (And.intro q2 (And.intro ch2 (And.intro g2 k2))))
  clear h2 p2 q2 ch2 g2 k2 HST c0 m8 y8 lk
  go_wp2_with (at_delete; refine PM.wpl_del rfl _ _ rfl rfl rfl H2.out.map HOK.out ?_)
  intro w3 M3 ch3
  go_wp2
  go_ret
  refine ⟨rfl, ?_⟩
  obtain ⟨p2, q2, ch2, g2, k2⟩ := P2.out
  obtain ⟨hiM, hmM⟩ := HIM.out
  have hi1 : i < (Ms.set i ⟨⟨m.f.id, m.f.ver, m.f.p, m.f.c, []⟩, m.b, .slice none 0 0⟩).length := by simpa using hiM
  have hid1 : (Ms.set i ⟨⟨m.f.id, m.f.ver, m.f.p, m.f.c, []⟩, m.b, .slice none 0 0⟩)[i].f.id = m.f.id := by simp
  have hlk := look_at H2.out.nd hi1
  rw [hid1] at hlk
  have h3 := H2.out.out hi1 (by
    rw [hid1]
    unfold cntDnP at M3
    rw [hlk] at M3
    rw [List.length_set]
    exact M3) ch3
  have hX3 : ((Ms.set i ⟨⟨m.f.id, m.f.ver, m.f.p, m.f.c, []⟩, m.b, .slice none 0 0⟩).eraseIdx i).map Fm.f = X.eraseIdx i := by
    rw [List.eraseIdx_set_eq, ← HXM.out, eraseIdx_map']
  have hFF := HF.out
  have hC3 : Chg F w w3 := (C1.out.same (ch2.mono fun z hz => Or.inl (by
    rcases List.mem_append.1 hz with hz | hz
    · rcases List.mem_cons.1 hz with rfl | hz
      · exact hFF.1
      · exact hFF.2.2.1 z hz
    · exact hFF.2.2.2.1 z hz))).same (ch3.mono fun z hz => Or.inl (by rw [List.mem_singleton.1 hz]; exact hFF.2.1))
  have hsz : (w.setCell ⟨m.b, 8, none⟩ (.slice none 0 0)).heap.size = w.heap.size := by simp [World.setCell]
  obtain ⟨F', s3, u3⟩ := SA.close h3 hX3 HF.out hC3 (fun z hz => by have := g2 z hz; rw [hsz] at this; exact this) (fun z hz => by have := k2 z hz; rw [hsz] at this; exact this) (fun m0 hm0 z hz => Or.inl (by
    rw [List.eraseIdx_set_eq] at hm0
    exact ⟨m0, mem_out hm0, hz⟩))
  obtain ⟨hi, hf⟩ := HIX.out
  refine ⟨F', ⟨LR2, LW2, s3, HSR.out.out HND.out hi hf ?_, HSW.out.out HND.out hi hf ?_⟩, u3⟩
  · unfold standL at p2
    rw [if_pos rfl] at p2
    exact p2
  · unfold standL at q2
    rw [if_pos rfl] at q2
    exact q2
end Go.Proofs.Ytjdkafamaoeifaa

namespace Go.Proofs.Ytjdkafamaoeifaa
open Go.RowKit Go.Proofs Go.Maps Go.Sort Go.Shelf
set_option linter.unusedVariables false
set_option linter.unusedSimpArgs false

theorem sortsI (m : Nat) : AnyZI.SortsIn Try.prog Ytjdkafamaoeifaa.sortedI_ren Fence.wide m :=
  ⟨fun blk off cap ss W hH hblk hsz => callsIn_wide.2 (AnyM.slices_Sort_int Ytjdkafamaoeifaa.sortI blk off cap ss W hH hblk hsz),
   fun p cap W => callsIn_wide.2 (AnyM.slices_Sort_int_none Ytjdkafamaoeifaa.sortI p cap W)⟩
set_option maxHeartbeats 4000000 in
set_option maxRecDepth 100000 in
theorem flows_calls (w : World) (ps : Nat) (F : List Nat) (X : List Fl) (h : SS w ps F X) (hX : X.length ≤ 900) :
    Calls Try.prog 31 #[.pointer (some ⟨ps, 0, none⟩)] w fun e w' => (∃ A c, e = .returned (.slice A X.length c)) ∧ Below w.heap.size w w' := by
  obtain ⟨LR, LW, ⟨bm, role, Ms, svR, mvR, svW, mvW, FR, FW, h, rfl, _⟩, _, _⟩ := h
  rw [List.length_map] at hX ⊢
  obtain ⟨D0, hown, hsz, ht, _⟩ := h.map
  have c0 : w.cell? ⟨ps, 0, none⟩ = some (.map (some bm)) := h.blk.cell 0
  refine (callsIn_wide (n := 6)).1 ?_
  have hbl := hown.lt
  have hmax : Maps.size D0 ≤ maxLen := by rw [hsz]; unfold maxLen; omega
  have hbytes : Maps.size D0 * 8 ≤ 140737488355328 := by rw [hsz]; omega
  have hseq : SeqGives Fence.wide 2 Try.prog 70 #[.pointer (some ⟨w.heap.size, 0, none⟩)] encZ (fun ss => ss.Perm (intKeys D0)) (Maps.size D0) (w.alloc (.cells #[.map (some bm)] 78)) :=
    AnyZI.keys_gives (ρ := Ytjdkafamaoeifaa.keysFlow_ren) { Ytjdkafamaoeifaa.keysFlow with } Fence.wide _ trivial rfl (by omega) w.heap.size bm Ms.length D0 _ (by simp) (by simp) (by
      obtain ⟨es, clock, hb, Ft, hs, hD⟩ := hown
      exact ⟨es, clock, (Below.heap_alloc _ _ bm hbl).trans hb, Ft, hs, hD⟩)
  have cK : ∀ mb W, CallsIn Fence.wide 5 Try.prog 54 #[.map mb] W fun e w' => e = .returned (.func (.func 70) #[] #[.pointer (some ⟨W.heap.size, 0, none⟩)]) ∧ w' = W.alloc (.cells #[.map mb] 78) := fun mb W => AnyZI.keys_in Ytjdkafamaoeifaa.keysFlow Fence.wide 5 trivial rfl mb W
  have cS := AnyZI.sorted_in Ytjdkafamaoeifaa.sortedI Fence.wide 5 trivial trivial trivial trivial rfl (by omega) (sortsI _) (enters_of Try.func69 (by kernel_rfl) rfl) 70 #[.pointer (some ⟨w.heap.size, 0, none⟩)] trivial (enters_of Try.func70 (by kernel_rfl) rfl) _ _ hmax hbytes _ hseq
  change CallsIn _ _ Try.prog 53 _ _ _ at cS
  have hfK : Fence.wide.fn 54 := trivial
  have hfS : Fence.wide.fn 53 := trivial
  have HSZ := hide hsz
  clear h hown ht hsz hseq hmax hbytes
  refine callsIn_of_wp Try.func31 rfl trivial ?_ rfl
  simp only [Try.ntmps31, List.size_toArray, List.length_cons, List.length_nil, Nat.reduceAdd, Nat.reduceSub, Array.replicate_succ, Array.replicate_zero, List.push_toArray, List.append_toArray, List.nil_append, List.cons_append]
  gi_wp2_with (first
    | (gi_at_call 54; refine (cK _ _).mono ?_; rintro e w' ⟨rfl, rfl⟩)
    | (gi_at_call 53; refine cS.mono ?_; rintro e w' ⟨v, ss, rfl, hS, hrow, hnil, hb⟩))
  go_ret
  have hlen : ss.length = Ms.length := by
    rw [hS.length_eq, ← HSZ.out]
    cases D0 <;> simp [intKeys, Maps.size]
  obtain ⟨A, c, hv, _⟩ := own_view hrow
  exact ⟨⟨A, c, by rw [hv, hlen]; rfl⟩, ((Below.refl _ w).alloc (Nat.le_refl _) _).trans (hb.mono (by simp))⟩
end Go.Proofs.Ytjdkafamaoeifaa

namespace Go.Proofs.Ytjdkafamaoeifaa
open Go.ChangeShapes Go.WideShapes Go.ChangeAt Go.RowKit Go.Joins Go.Deep
set_option linter.unusedVariables false
set_option maxRecDepth 100000

section
variable {H : Type} {enc : TypeId × Value → H} {P : Program} {w : World} {base b0 : Nat} {spare : Nat → Bool} {held : Bool}
/-- of whatever is laid as t each cell is an int -/
def AllInt {H : Type} (enc : TypeId × Value → H) (P : Program) (w : World) (base : Nat) (spare : Nat → Bool) (held : Bool) (t : TypeId) (m : Nat) : Prop :=
  ∀ (fuel : Nat) (cs : List Value) (x : DataW H × List MemPlace), DataW.trod enc P w base spare held fuel t cs = some x → ∀ j, j < m → ∃ z : Int, (-9223372036854775808 ≤ z ∧ z ≤ 9223372036854775807) ∧ cs[j]? = some (.int .i64 z)
theorem AllInt.int {t : TypeId} (h : P.underlying t = some (.int .i64)) : AllInt enc P w base spare held t 1 := by
  intro fuel cs x hx j hj
  obtain ⟨q, e1, _, wq⟩ := DataW.trod_int h hx
  have : j = 0 := by omega
  subst this
  exact ⟨q, bounds_i64 wq, by rw [e1]; rfl⟩
theorem AllInt.struct {t : TypeId} {fs : Array Field} {m : Nat} (h : P.underlying t = some (.struct fs)) (hc : ∀ j, j < m → ∃ (i k : Nat) (f : Field), fs[i]? = some f ∧ f.offset ≤ j ∧ j < f.offset + k ∧ P.cellsOf f.type = k ∧ AllInt enc P w base spare held f.type k) :
    AllInt enc P w base spare held t m := by
  intro fuel cs x hx j hj
  obtain ⟨ys, n', hn', hy, hlen, hyl, hff⟩ := DataW.trod_struct h hx
  obtain ⟨i, k, f, hf, h1, h2, h3, hA⟩ := hc j hj
  have hi : i < fs.size := (Array.getElem?_eq_some_iff.1 hf).1
  have h4 := hff i f hf
  rw [List.getElem?_eq_getElem (by omega : i < ys.length)] at h4
  obtain ⟨z, hz, hz2⟩ := hA _ _ _ h4 (j - f.offset) (by omega)
  refine ⟨z, hz, ?_⟩
  rw [h3, List.getElem?_take, if_pos (by omega), List.getElem?_drop, show f.offset + (j - f.offset) = j by omega] at hz2
  exact hz2
theorem open_rowsG {r : Reach} {t e : TypeId} (m : Nat) {v : Value} {d : DataW H} {ps : List MemPlace} (ht : P.underlying t = some (.slice e)) (hC : P.cellsOf e = m) (hpos : 0 < m) (hA : AllInt enc P w base spare held e m)
    (hv : Value.okWide P w r b0 t v) (h : DataW.Trod enc P w base spare held t v d ps) :
    ∃ (A : Option Addr) (n c : Nat) (g : Nat → Nat → Int), v = .slice A n c ∧ n ≤ c ∧ c ≤ maxLen ∧ (∀ i j, i < n → j < m → -9223372036854775808 ≤ g i j ∧ g i j ≤ 9223372036854775807) ∧
      (0 < n → ∃ b o, A = some ⟨b, o, none⟩ ∧ b < w.heap.size ∧ ∀ i j, i < n → j < m → w.cell? ⟨b, o + (i * m + j), none⟩ = some (.int .i64 (g i j))) := by
  obtain ⟨A, n, c, rfl⟩ := okWide_slice ht hv
  obtain ⟨fuel, hf⟩ := h
  rcases open_slice ht hf with ⟨h0, _⟩ | ⟨a, len, cap, m', k, D, Pl, hcs, hb, hl, hm, hmm, hx, hi⟩
  · have e0 : A = none ∧ n = 0 ∧ c = 0 := by simpa [Value.cells] using h0
    obtain ⟨rfl, rfl, rfl⟩ := e0
    exact ⟨none, 0, 0, fun _ _ => 0, rfl, Nat.le_refl _, by unfold maxLen; omega, fun i j hi => absurd hi (by omega), fun hn => absurd hn (by omega)⟩
  · have e0 : A = some a ∧ n = len ∧ c = cap := by simpa [Value.cells] using hcs
    obtain ⟨rfl, rfl, rfl⟩ := e0
    have hnm : n ≤ m' := by rw [hmm]; split <;> omega
    have hall : ∀ i, i < n → ∃ f : Nat → Int, ∀ j, j < m → (-9223372036854775808 ≤ f j ∧ f j ≤ 9223372036854775807) ∧ w.cell? (a.add (i * m + j)) = some (.int .i64 (f j)) := by
      intro i hin
      obtain ⟨cs', hc, ht'⟩ := hi i (by omega)
      rw [hC] at hc
      obtain ⟨_, hcl, hat⟩ := World.cells?_some hc
      refine choose_lt (p := fun j q => (-9223372036854775808 ≤ q ∧ q ≤ 9223372036854775807) ∧ w.cell? (a.add (i * m + j)) = some (.int .i64 q)) fun j hj => ?_
      obtain ⟨z, hz, hz2⟩ := hA _ _ _ ht' j hj
      refine ⟨z, hz, ?_⟩
      rw [← Go.Deep.add_add, hat j hj, hz2]
    obtain ⟨g, hg⟩ := choose_lt hall
    refine ⟨some a, n, c, g, rfl, hl, hm, fun i j hi hj => (hg i hi j hj).1, fun hn => ?_⟩
    obtain ⟨b, o, spot⟩ := a
    have h00 := (hg 0 hn 0 hpos).2
    have hspot : spot = none := by simpa [Addr.add] using World.cell?_spot h00
    subst hspot
    refine ⟨b, o, rfl, ?_, fun i j hi hj => ?_⟩
    · have := World.block_lt_of_cell? w _ h00
      simpa [Addr.add] using this
    · rw [← Go.WideShapes.add_plain]
      exact (hg i hi j hj).2
end
end Go.Proofs.Ytjdkafamaoeifaa

namespace Go.Proofs.Ytjdkafamaoeifaa
open Go.ChangeShapes Go.WideShapes Go.ChangeAt Go.RowKit Go.Joins Go.Deep
set_option linter.unusedVariables false
set_option maxRecDepth 100000

structure PAct where
  do_ : Int
  flow : Int
  ver : Int
  now : Int
  p : Pol
  i : It
def PAct.cells (a : PAct) : List Value := [.int .i64 a.do_, .int .i64 a.flow, .int .i64 a.ver, .int .i64 a.now, .int .i64 a.p.r, .int .i64 a.p.w, .int .i64 a.p.l, .int .i64 a.p.b, .int .i64 a.i.name, .int .i64 a.i.delta, .int .i64 a.i.rho]
def actCells (al : List PAct) : List Value := al.flatMap PAct.cells
theorem actCells_length (al : List PAct) : (actCells al).length = al.length * 11 := by
  induction al with
  | nil => rfl
  | cons x q ih =>
    rw [show actCells (x :: q) = x.cells ++ actCells q from rfl, List.length_append, ih, List.length_cons, Nat.add_mul]
    simp [PAct.cells]
    omega
theorem actCells_get (al : List PAct) (k j : Nat) (hk : k < al.length) (hj : j < 11) : (actCells al)[k * 11 + j]? = al[k].cells[j]? := by
  induction al generalizing k with
  | nil => simp at hk
  | cons x q ih =>
    rw [show actCells (x :: q) = x.cells ++ actCells q from rfl]
    have hx : x.cells.length = 11 := rfl
    cases k with
    | zero =>
      rw [Nat.zero_mul, Nat.zero_add, List.getElem?_append_left (by rw [hx]; exact hj)]
      rfl
    | succ k =>
      rw [List.getElem?_append_right (by rw [hx]; omega), hx, show (k + 1) * 11 + j - 11 = k * 11 + j by omega]
      exact ih k (by simpa using hk)
section
variable {H : Type} {enc : TypeId × Value → H} {W : World} {base : Nat} {spare : Nat → Bool} {held : Bool}
theorem allPol : AllInt enc Try.prog W base spare held 29 4 := by
  refine AllInt.struct Try.underlying29 fun j hj => ?_
  match j, hj with
  | 0, _ => exact ⟨0, 1, _, rfl, by decide, by decide, by kernel_rfl, AllInt.int Try.underlying3⟩
  | 1, _ => exact ⟨1, 1, _, rfl, by decide, by decide, by kernel_rfl, AllInt.int Try.underlying3⟩
  | 2, _ => exact ⟨2, 1, _, rfl, by decide, by decide, by kernel_rfl, AllInt.int Try.underlying3⟩
  | 3, _ => exact ⟨3, 1, _, rfl, by decide, by decide, by kernel_rfl, AllInt.int Try.underlying3⟩
theorem allItem : AllInt enc Try.prog W base spare held 36 3 := by
  refine AllInt.struct Try.underlying36 fun j hj => ?_
  match j, hj with
  | 0, _ => exact ⟨0, 1, _, rfl, by decide, by decide, by kernel_rfl, AllInt.int Try.underlying3⟩
  | 1, _ => exact ⟨1, 1, _, rfl, by decide, by decide, by kernel_rfl, AllInt.int Try.underlying3⟩
  | 2, _ => exact ⟨2, 1, _, rfl, by decide, by decide, by kernel_rfl, AllInt.int Try.underlying3⟩
theorem allAct : AllInt enc Try.prog W base spare held 64 11 := by
  refine AllInt.struct Try.underlying64 fun j hj => ?_
  match j, hj with
  | 0, _ => exact ⟨0, 1, _, rfl, by decide, by decide, by kernel_rfl, AllInt.int Try.underlying3⟩
  | 1, _ => exact ⟨1, 1, _, rfl, by decide, by decide, by kernel_rfl, AllInt.int Try.underlying3⟩
  | 2, _ => exact ⟨2, 1, _, rfl, by decide, by decide, by kernel_rfl, AllInt.int Try.underlying3⟩
  | 3, _ => exact ⟨3, 1, _, rfl, by decide, by decide, by kernel_rfl, AllInt.int Try.underlying3⟩
  | 4, _ => exact ⟨4, 4, _, rfl, by decide, by decide, by kernel_rfl, allPol⟩
  | 5, _ => exact ⟨4, 4, _, rfl, by decide, by decide, by kernel_rfl, allPol⟩
  | 6, _ => exact ⟨4, 4, _, rfl, by decide, by decide, by kernel_rfl, allPol⟩
  | 7, _ => exact ⟨4, 4, _, rfl, by decide, by decide, by kernel_rfl, allPol⟩
  | 8, _ => exact ⟨5, 3, _, rfl, by decide, by decide, by kernel_rfl, allItem⟩
  | 9, _ => exact ⟨5, 3, _, rfl, by decide, by decide, by kernel_rfl, allItem⟩
  | 10, _ => exact ⟨5, 3, _, rfl, by decide, by decide, by kernel_rfl, allItem⟩
end
theorem open_acts {H : Type} {enc : TypeId × Value → H} {W : World} {base : Nat} {v : Value} {d : DataW H} {p : List MemPlace}
    (ok : Value.okWide Try.prog W .any base 61 v) (h : DataW.Trod enc Try.prog W 0 (fun _ => true) true 61 v d p) :
    ∃ (A : Option Addr) (c : Nat) (al : List PAct), v = .slice A al.length c ∧ al.length ≤ c ∧ c ≤ maxLen ∧ (∀ a ∈ al, i64ok a.flow ∧ i64ok a.ver ∧ i64ok a.now) ∧ Reads W W.heap.size 11 A al.length (actCells al) := by
  obtain ⟨A, n, c, g, rfl, hn, hcm, hg, hr⟩ := open_rowsG 11 Try.underlying61 (by kernel_rfl) (by decide) allAct ok h
  refine ⟨A, c, (List.range n).map fun i => ⟨g i 0, g i 1, g i 2, g i 3, ⟨g i 4, g i 5, g i 6, g i 7⟩, ⟨g i 8, g i 9, g i 10⟩⟩, by simp, by simpa using hn, hcm, fun a ha => ?_, ?_⟩
  · obtain ⟨i, hi, rfl⟩ := List.mem_map.1 ha
    have hin : i < n := by simpa using hi
    exact ⟨hg i 1 hin (by decide), hg i 2 hin (by decide), hg i 3 hin (by decide)⟩
  have hlen : ((List.range n).map fun i => (⟨g i 0, g i 1, g i 2, g i 3, ⟨g i 4, g i 5, g i 6, g i 7⟩, ⟨g i 8, g i 9, g i 10⟩⟩ : PAct)).length = n := by simp
  rw [hlen]
  refine ⟨by rw [actCells_length, hlen], fun hn0 => ?_⟩
  obtain ⟨b, o, rfl, hb, hc⟩ := hr hn0
  refine ⟨b, o, rfl, hb, fun q u hu => ?_⟩
  have hq : q < n * 11 := by
    have h1 := (List.getElem?_eq_some_iff.1 hu).1
    rw [actCells_length, hlen] at h1
    exact h1
  have e : q = q / 11 * 11 + q % 11 := by omega
  have hi : q / 11 < n := by omega
  have hj : q % 11 < 11 := by omega
  rw [e, actCells_get _ _ _ (by rw [hlen]; exact hi) hj] at hu
  have hc' := hc (q / 11) (q % 11) hi hj
  rw [e]
  generalize q / 11 = i at *
  generalize q % 11 = j at *
  rw [hc']
  rw [List.getElem_map, List.getElem_range] at hu
  match j, hj with
  | 0, _ => exact hu
  | 1, _ => exact hu
  | 2, _ => exact hu
  | 3, _ => exact hu
  | 4, _ => exact hu
  | 5, _ => exact hu
  | 6, _ => exact hu
  | 7, _ => exact hu
  | 8, _ => exact hu
  | 9, _ => exact hu
  | 10, _ => exact hu
end Go.Proofs.Ytjdkafamaoeifaa

namespace Go.Proofs.Ytjdkafamaoeifaa
open Go.RowKit Go.Proofs
set_option linter.unusedVariables false
set_option linter.unusedSimpArgs false

structure Same (X : List Fl) (D : List Dl) : Prop where
  perm : X.Perm (D.map Dl.f)
  rise : (D.map fun d => d.f.id).Pairwise (· < ·)
section
variable {X : List Fl} {D : List Dl}
theorem Same.nil : Same [] [] := ⟨List.Perm.refl _, by simp⟩
theorem Same.len (h : Same X D) : X.length = D.length := by rw [h.perm.length_eq, List.length_map]
theorem Same.lt (h : Same X D) {i j : Nat} (hj : j < D.length) (hij : i < j) : D[i].f.id < D[j].f.id := by
  have := List.pairwise_iff_getElem.1 h.rise i j (by simp; omega) (by simpa using hj) hij
  simpa using this
theorem Same.inj (h : Same X D) {i j : Nat} (hi : i < D.length) (hj : j < D.length) (e : D[i].f.id = D[j].f.id) : i = j := by
  rcases Nat.lt_trichotomy i j with h1 | h1 | h1
  · have := h.lt hj h1; omega
  · exact h1
  · have := h.lt hi h1; omega
theorem Same.toD (h : Same X D) {i : Nat} (hi : i < X.length) : ∃ j, ∃ hj : j < D.length, X[i] = D[j].f := by
  have := h.perm.subset (List.getElem_mem hi)
  obtain ⟨d, hd, e⟩ := List.mem_map.1 this
  obtain ⟨j, hj, rfl⟩ := List.mem_iff_getElem.1 hd
  exact ⟨j, hj, e.symm⟩
theorem Same.toX (h : Same X D) {j : Nat} (hj : j < D.length) : ∃ i, ∃ hi : i < X.length, X[i] = D[j].f := by
  have := h.perm.symm.subset (List.mem_map_of_mem (f := Dl.f) (List.getElem_mem hj))
  obtain ⟨i, hi, e⟩ := List.mem_iff_getElem.1 this
  exact ⟨i, hi, e⟩
theorem Same.at_ (h : Same X D) {i j : Nat} (hi : i < X.length) (hj : j < D.length) (e : X[i].id = D[j].f.id) : X[i] = D[j].f := by
  obtain ⟨k, hk, ek⟩ := h.toD hi
  have : k = j := h.inj hk hj (by rw [← ek]; exact e)
  subst this
  exact ek
theorem Same.none (h : Same X D) {id : Int} : (∀ f ∈ X, f.id ≠ id) ↔ ∀ d ∈ D, d.f.id ≠ id := by
  constructor
  · intro hn d hd
    exact hn _ (h.perm.symm.subset (List.mem_map_of_mem hd))
  · intro hn f hf
    obtain ⟨d, hd, rfl⟩ := List.mem_map.1 (h.perm.subset hf)
    exact hn d hd
theorem cut_at {α : Type} {L : List α} {i : Nat} (hi : i < L.length) : ∃ A B, L = A ++ L[i] :: B ∧ A.length = i := ⟨L.take i, L.drop (i + 1), by rw [← List.drop_eq_getElem_cons hi, List.take_append_drop], by simp; omega⟩
theorem set_mid {α : Type} {A B : List α} {x y : α} : (A ++ x :: B).set A.length y = A ++ y :: B := by
  rw [List.set_append_right _ _ (Nat.le_refl _), Nat.sub_self, List.set_cons_zero]
theorem erase_mid {α : Type} {A B : List α} {x : α} : (A ++ x :: B).eraseIdx A.length = A ++ B := by
  rw [List.eraseIdx_append_of_length_le (Nat.le_refl _), Nat.sub_self]
  rfl
theorem Same.rest (h : Same X D) {i j : Nat} (hi : i < X.length) (hj : j < D.length) (e : X[i].id = D[j].f.id) : (X.eraseIdx i).Perm ((D.eraseIdx j).map Dl.f) := by
  have he := h.at_ hi hj e
  obtain ⟨A, B, hX, hA⟩ := cut_at hi
  obtain ⟨A', B', hD, hA'⟩ := cut_at hj
  have hp := h.perm
  obtain ⟨f, hf⟩ : ∃ f, X[i] = f := ⟨_, rfl⟩
  obtain ⟨d, hd⟩ : ∃ d, D[j] = d := ⟨_, rfl⟩
  rw [hf] at hX he
  rw [hd] at hD he
  rw [hX, ← hA, erase_mid, hD, ← hA', erase_mid]
  rw [hX, hD, List.map_append, List.map_cons, ← he] at hp
  rw [List.map_append]
  exact List.Perm.cons_inv ((List.perm_middle.symm.trans hp).trans List.perm_middle)
theorem Same.set (h : Same X D) {i j : Nat} (hi : i < X.length) (hj : j < D.length) (e : X[i].id = D[j].f.id) {f' : Fl} {d' : Dl} (hf : d'.f = f') (hid : f'.id = X[i].id) : Same (X.set i f') (D.set j d') := by
  refine ⟨?_, ?_⟩
  · have hr := h.rest hi hj e
    obtain ⟨A, B, hX, hA⟩ := cut_at hi
    obtain ⟨A', B', hD, hA'⟩ := cut_at hj
    obtain ⟨f, hf0⟩ : ∃ f, X[i] = f := ⟨_, rfl⟩
    obtain ⟨d, hd0⟩ : ∃ d, D[j] = d := ⟨_, rfl⟩
    rw [hf0] at hX
    rw [hd0] at hD
    rw [hX, ← hA, erase_mid, hD, ← hA', erase_mid, List.map_append] at hr
    rw [hX, ← hA, set_mid, hD, ← hA', set_mid, List.map_append, List.map_cons, hf]
    exact (List.perm_middle.trans (hr.cons f')).trans List.perm_middle.symm
  · have : (D.set j d').map (fun d => d.f.id) = D.map fun d => d.f.id := by
      rw [List.map_set, hf, hid, e]
      have e2 : D[j].f.id = (D.map fun d => d.f.id)[j]'(by simpa using hj) := by simp
      rw [e2, List.set_getElem_self]
    rw [this]
    exact h.rise
theorem Same.out (h : Same X D) {i j : Nat} (hi : i < X.length) (hj : j < D.length) (e : X[i].id = D[j].f.id) : Same (X.eraseIdx i) (D.eraseIdx j) :=
  ⟨h.rest hi hj e, h.rise.sublist (List.Sublist.map _ (List.eraseIdx_sublist ..))⟩
theorem Same.new (h : Same X D) {f : Fl} {d : Dl} {k : Nat} (hf : d.f = f) (hno : ∀ g ∈ X, g.id ≠ f.id) (hk : k ≤ D.length) (h1 : ∀ j, ∀ hj : j < D.length, j < k → D[j].f.id < f.id) (h2 : ∀ hk : k < D.length, f.id ≤ D[k].f.id) :
    Same (X ++ [f]) (D.take k ++ d :: D.drop k) := by
  have hnD := h.none.1 hno
  refine ⟨?_, ?_⟩
  · rw [List.map_append, List.map_cons, hf]
    have h3 : (X ++ [f]).Perm (f :: X) := List.perm_append_singleton f X
    refine (h3.trans (h.perm.cons f)).trans ?_
    have h4 : D.map Dl.f = (D.take k).map Dl.f ++ (D.drop k).map Dl.f := by rw [← List.map_append, List.take_append_drop]
    rw [h4]
    exact List.perm_middle.symm
  · rw [List.map_append, List.map_cons, hf, List.pairwise_append]
    refine ⟨h.rise.sublist (List.Sublist.map _ (List.take_sublist ..)), ?_, fun a ha b hb => ?_⟩
    · rw [List.pairwise_cons]
      refine ⟨fun b hb => ?_, h.rise.sublist (List.Sublist.map _ (List.drop_sublist ..))⟩
      obtain ⟨y, hy, rfl⟩ := List.mem_map.1 hb
      obtain ⟨q, hq, rfl⟩ := List.mem_iff_getElem.1 hy
      rw [List.length_drop] at hq
      rw [List.getElem_drop]
      have hkl : k < D.length := by omega
      have a1 := h2 hkl
      have a2 := hnD D[k] (List.getElem_mem hkl)
      by_cases e : q = 0
      · subst e
        simp only [Nat.add_zero]
        omega
      · have := h.lt (i := k) (j := k + q) (by omega) (by omega)
        omega
    · obtain ⟨x, hx, rfl⟩ := List.mem_map.1 ha
      obtain ⟨p, hp, rfl⟩ := List.mem_iff_getElem.1 hx
      rw [List.length_take] at hp
      rw [List.getElem_take]
      have a1 := h1 p (by omega) (by omega)
      rcases List.mem_cons.1 hb with rfl | hb
      · exact a1
      · obtain ⟨y, hy, rfl⟩ := List.mem_map.1 hb
        obtain ⟨q, hq, rfl⟩ := List.mem_iff_getElem.1 hy
        rw [List.length_drop] at hq
        rw [List.getElem_drop]
        have := h.lt (i := p) (j := k + q) (by omega) (by omega)
        omega
end
theorem min?_perm {L M : List Int} (h : L.Perm M) : L.min? = M.min? := by
  cases hL : L.min? with
  | none =>
    rw [List.min?_eq_none_iff] at hL
    subst hL
    rw [List.nil_perm.1 h]
    rfl
  | some m =>
    symm
    rw [List.min?_eq_some_iff] at hL ⊢
    exact ⟨h.subset hL.1, fun b hb => hL.2 b (h.symm.subset hb)⟩
theorem Same.least {X : List Fl} {D : List Dl} (h : Same X D) : leastP X = leastP (D.map Dl.f) := by
  unfold leastP
  rw [min?_perm ((h.perm.filter up).map fun f => f.c.p)]
theorem Same.best {X : List Fl} {D : List Dl} (h : Same X D) {key : Fl → Int} {may : Fl → Bool} {i a : Nat} (hb : best X key may i) (hf : FB D key may D.length (a : Int)) : ∃ hi : i < X.length, ∃ ha : a < D.length, X[i].id = D[a].f.id := by
  obtain ⟨hi, hu, hm, hall⟩ := hb
  rcases hf with ⟨h1, _⟩ | ⟨a', ha', _, h1, hu2, hm2, hall2⟩
  · omega
  · have e : a = a' := by omega
    subst e
    refine ⟨hi, ha', ?_⟩
    obtain ⟨j, hj, ej⟩ := h.toD hi
    obtain ⟨q, hq, eq⟩ := h.toX ha'
    have b1 := hall D[a].f (by rw [← eq]; exact List.getElem_mem hq) hu2 hm2
    rw [ej] at b1 hu hm ⊢
    have b2 := hall2 j hj (by omega) hu hm
    rcases b1 with b1 | ⟨b1, b3⟩
    · rcases b2 with b2 | ⟨b2, _⟩ <;> omega
    · rcases b2 with b2 | ⟨b2, b4⟩
      · omega
      · rcases Nat.lt_or_ge a j with c | c
        · have := h.lt hj c
          omega
        · have : a = j := by omega
          subst this
          rfl
theorem Same.nobody {X : List Fl} {D : List Dl} (h : Same X D) {key : Fl → Int} {may : Fl → Bool} : FB D key may D.length (-1) ↔ ∀ f ∈ X, up f = true → may f = false := by
  constructor
  · intro hf f hfX hu
    rcases hf with ⟨_, h2⟩ | ⟨a, ha, _, h1, _⟩
    · obtain ⟨i, hi, rfl⟩ := List.mem_iff_getElem.1 hfX
      obtain ⟨j, hj, ej⟩ := h.toD hi
      rw [ej] at hu ⊢
      have := h2 j hj hj
      cases hm : may D[j].f with
      | false => rfl
      | true => exact absurd ⟨hu, hm⟩ this
    · omega
  · intro hn
    refine Or.inl ⟨rfl, fun j hj _ ⟨hu, hm⟩ => ?_⟩
    obtain ⟨i, hi, e⟩ := h.toX hj
    have := hn D[j].f (by rw [← e]; exact List.getElem_mem hi) hu
    rw [this] at hm
    cases hm
/-- both pick the same flow, in the same phase -/
theorem Same.picks {X : List Fl} {D : List Dl} (h : Same X D) {tag ph ph' : Int} {i a : Nat} (hX : Picks X tag i ph) (hD : Pk12 D tag a ph') : ph = ph' ∧ ∃ hi : i < X.length, ∃ ha : a < D.length, X[i].id = D[a].f.id := by
  rcases hX with ⟨rfl, hb⟩ | ⟨rfl, hn, hb⟩
  · rcases hD with ⟨rfl, hf⟩ | ⟨rfl, hf, _⟩
    · exact ⟨rfl, h.best hb hf⟩
    · exfalso
      obtain ⟨hi, hu, hm, _⟩ := hb
      have := h.nobody.1 hf _ (List.getElem_mem hi) hu
      rw [show pmR tag X[i] = mayR tag X[i] from rfl, hm] at this
      cases this
  · rcases hD with ⟨rfl, hf⟩ | ⟨rfl, _, hf⟩
    · exfalso
      rcases hf with ⟨h1, _⟩ | ⟨a', ha', _, _, hu2, hm2, _⟩
      · omega
      · obtain ⟨q, hq, eq⟩ := h.toX ha'
        have := hn D[a'].f (by rw [← eq]; exact List.getElem_mem hq) hu2
        rw [show mayR tag D[a'].f = pmR tag D[a'].f from rfl, hm2] at this
        cases this
    · exact ⟨rfl, h.best hb hf⟩
/-- the document picks nothing: nor does the scheduler -/
theorem Same.idle {X : List Fl} {D : List Dl} (h : Same X D) {tag ph : Int} {i : Nat} (h1 : FB D pR (pmR tag) D.length (-1)) (h2 : FB D pP (pmL tag) D.length (-1)) : ¬ Picks X tag i ph := by
  have n1 := h.nobody.1 h1
  have n2 := h.nobody.1 h2
  rintro (⟨_, hi, hu, hm, _⟩ | ⟨_, _, hi, hu, hm, _⟩)
  · have := n1 _ (List.getElem_mem hi) hu
    rw [show pmR tag X[i] = mayR tag X[i] from rfl, hm] at this
    cases this
  · have := n2 _ (List.getElem_mem hi) hu
    rw [show pmL tag X[i] = mayL tag X[i] from rfl, hm] at this
    cases this
theorem Same.busy {X : List Fl} {D : List Dl} (h : Same X D) {tag ph : Int} {a : Nat} (hn : ∀ f ∈ X, up f = true → mayL tag f = false) : ¬ Pk12 D tag a ph := by
  have hnR : ∀ f ∈ X, up f = true → mayR tag f = false := fun f hf hu => mayR_L (hn f hf hu)
  rintro (⟨_, hf⟩ | ⟨_, _, hf⟩)
  · rcases hf with ⟨h1, _⟩ | ⟨a', ha', _, _, hu2, hm2, _⟩
    · omega
    · obtain ⟨q, hq, eq⟩ := h.toX ha'
      have := hnR D[a'].f (by rw [← eq]; exact List.getElem_mem hq) hu2
      rw [show mayR tag D[a'].f = pmR tag D[a'].f from rfl, hm2] at this
      cases this
  · rcases hf with ⟨h1, _⟩ | ⟨a', ha', _, _, hu2, hm2, _⟩
    · omega
    · obtain ⟨q, hq, eq⟩ := h.toX ha'
      have := hn D[a'].f (by rw [← eq]; exact List.getElem_mem hq) hu2
      rw [show mayL tag D[a'].f = pmL tag D[a'].f from rfl, hm2] at this
      cases this
end Go.Proofs.Ytjdkafamaoeifaa

namespace Go.Proofs.Ytjdkafamaoeifaa
open Go.RowKit Go.Proofs Go.Maps
set_option linter.unusedVariables false
set_option linter.unusedSimpArgs false

structure PlaySt (W : World) (L : List (Nat × TypeId × Array Value)) (w : World) (ps : Nat) (X : List Fl) (G : List Nat) (v : Value) (D : List Dl) : Prop where
  ex : ∃ F, SS w ps F X ∧ ∀ z ∈ F, W.heap.size ≤ z ∧ z ∉ G ∧ ∀ p ∈ L, p.1 ≠ z
  doc : Doc w G v D
  lo : ∀ z ∈ G, W.heap.size ≤ z ∧ ∀ p ∈ L, p.1 ≠ z
  inv : Inv W L w
section
variable {W w w' : World} {L L' : List (Nat × TypeId × Array Value)} {ps : Nat} {X X' : List Fl} {G : List Nat} {v v' : Value} {D D' : List Dl}
theorem PlaySt.base (h : PlaySt W L w ps X G v D) : Below W.heap.size W w := h.inv.base
theorem PlaySt.start (h : Sch W [] w ps X) : PlaySt W [] w ps X [] (.slice none 0 0) [] := by
  obtain ⟨⟨F, hs, h1, _⟩, hi⟩ := h
  exact ⟨⟨F, hs, fun z hz => ⟨h1 z hz, by simp, by simp⟩⟩, Doc.nil w, by simp, hi⟩
theorem PlaySt.below (h : PlaySt W L w ps X G v D) (hb : Below w.heap.size w w') : PlaySt W L w' ps X G v D := by
  obtain ⟨⟨F, hs, hF⟩, hd, lo, inv⟩ := h
  exact ⟨⟨F, hs.below hb, hF⟩, hd.below hb, lo, inv.below hb⟩
theorem PlaySt.sub (h : PlaySt W L w ps X G v D) (hL : ∀ p ∈ L', p ∈ L) : PlaySt W L' w ps X G v D := by
  obtain ⟨⟨F, hs, hF⟩, hd, lo, inv⟩ := h
  exact ⟨⟨F, hs, fun z hz => ⟨(hF z hz).1, (hF z hz).2.1, fun p hp => (hF z hz).2.2 p (hL p hp)⟩⟩, hd, fun z hz => ⟨(lo z hz).1, fun p hp => (lo z hz).2 p (hL p hp)⟩, inv.sub hL⟩
theorem PlaySt.new (h : PlaySt W L w ps X G v D) {b : Nat} {t : TypeId} {cs : Array Value} (hb : w.heap.size = b) : PlaySt W ((b, t, cs) :: L) (w.alloc (.cells cs t)) ps X G v D := by
  obtain ⟨⟨F, hs, hF⟩, hd, lo, inv⟩ := h
  have hbl : Below w.heap.size w (w.alloc (.cells cs t)) := (Below.refl _ _).alloc (Nat.le_refl _) _
  refine ⟨⟨F, hs.below hbl, fun z hz => ⟨(hF z hz).1, (hF z hz).2.1, fun p hp => ?_⟩⟩, hd.below hbl, fun z hz => ⟨(lo z hz).1, fun p hp => ?_⟩, inv.new hb⟩
  · rcases List.mem_cons.1 hp with rfl | hp
    · have := hs.lt z hz; show b ≠ z; omega
    · exact (hF z hz).2.2 p hp
  · rcases List.mem_cons.1 hp with rfl | hp
    · have := hd.lt z hz; show b ≠ z; omega
    · exact (lo z hz).2 p hp
/-- the scheduler's side -/
theorem PlaySt.sched (h : PlaySt W L w ps X G v D) : ∃ F, SS w ps F X ∧ ∀ w' X', Turn w w' ps F X' → PlaySt W L w' ps X' G v D := by
  obtain ⟨⟨F, hs, hF⟩, hd, lo, inv⟩ := h
  refine ⟨F, hs, fun w' X' ⟨F', hs', hc, hg⟩ => ⟨⟨F', hs', fun z hz => ?_⟩, hd.chg hc (fun z hz hm => (hF z hm).2.1 hz), lo, inv.chg hc (fun z hz => (hF z hz).1) (fun p hp hm => (hF _ hm).2.2 p hp rfl)⟩⟩
  rcases hg z hz with h1 | h1
  · exact hF z h1
  · exact ⟨Nat.le_trans inv.base.size h1, fun hm => by have := hd.lt z hm; omega, fun p hp e => by have := heap_lt (inv.2 p hp); omega⟩
/-- the document's side -/
theorem PlaySt.turn {n : Nat} (h : PlaySt W L w ps X G v D) (ho : DocOut w G n D' v' w') : ∃ A c G', v' = .slice A n c ∧ D'.length = n ∧ PlaySt W L w' ps X G' (.slice A n c) D' := by
  obtain ⟨⟨F, hs, hF⟩, hd, lo, inv⟩ := h
  obtain ⟨A, c, G', rfl, hn, hd', hg, hb⟩ := ho
  refine ⟨A, c, G', rfl, hn, ⟨⟨F, hs.below hb, fun z hz => ⟨(hF z hz).1, fun hm => ?_, (hF z hz).2.2⟩⟩, hd', fun z hz => ?_, inv.below hb⟩⟩
  · rcases hg z hm with h1 | h1
    · exact (hF z hz).2.1 h1
    · have := hs.lt z hz; omega
  · rcases hg z hz with h1 | h1
    · exact lo z h1
    · exact ⟨Nat.le_trans inv.base.size h1, fun p hp e => by have := heap_lt (inv.2 p hp); omega⟩
theorem PlaySt.ids (h : PlaySt W L w ps X G v D) : ∀ f ∈ X, 0 ≤ f.id ∧ f.id ≤ 9223372036854775807 := by
  obtain ⟨⟨F, hs, _⟩, _⟩ := h
  exact hs.ids
theorem PlaySt.nodup (h : PlaySt W L w ps X G v D) : (X.map Fl.id).Nodup := by
  obtain ⟨⟨F, hs, _⟩, _⟩ := h
  exact hs.nodup
end
/-- what holds behind k acts -/
structure PlayInv (X : List Fl) (D : List Dl) (k : Nat) : Prop where
  same : Same X D
  l : ∀ d ∈ D, 0 ≤ d.f.c.l ∧ d.f.c.l ≤ 2305843009213693952
  q : ∀ d ∈ D, d.f.q.length ≤ k
  n : X.length ≤ k
section
variable {X : List Fl} {D : List Dl} {k : Nat}
theorem PlayInv.start : PlayInv [] [] 0 := ⟨Same.nil, by simp, by simp, by simp⟩
theorem PlayInv.more (h : PlayInv X D k) : PlayInv X D (k + 1) := ⟨h.same, h.l, fun d hd => Nat.le_succ_of_le (h.q d hd), Nat.le_succ_of_le h.n⟩
theorem PlayInv.len (h : PlayInv X D k) : D.length ≤ k := by rw [← h.same.len]; exact h.n
theorem charge_l (p : Pol) (c : Clk) (now ph d r : Int) (h : 0 ≤ c.l ∧ c.l ≤ 2305843009213693952) : 0 ≤ (charge p c now ph d r).l ∧ (charge p c now ph d r).l ≤ 2305843009213693952 := by
  unfold charge
  split
  · exact h
  · dsimp only
    split
    · exact ⟨add_lo _ _, add_hi _ _⟩
    · exact h
theorem PlayInv.set (h : PlayInv X D k) {i j : Nat} (hi : i < X.length) (hj : j < D.length) (e : X[i].id = D[j].f.id) {f' : Fl} {d' : Dl} (hf : d'.f = f') (hid : f'.id = X[i].id) (hl : 0 ≤ f'.c.l ∧ f'.c.l ≤ 2305843009213693952) (hq : f'.q.length ≤ k + 1) :
    PlayInv (X.set i f') (D.set j d') (k + 1) := by
  refine ⟨h.same.set hi hj e hf hid, fun x hx => ?_, fun x hx => ?_, by rw [List.length_set]; exact Nat.le_succ_of_le h.n⟩
  · rcases List.mem_or_eq_of_mem_set hx with h1 | h1
    · exact h.l x h1
    · rw [h1, hf]; exact hl
  · rcases List.mem_or_eq_of_mem_set hx with h1 | h1
    · exact Nat.le_succ_of_le (h.q x h1)
    · rw [h1, hf]; exact hq
theorem PlayInv.out (h : PlayInv X D k) {i j : Nat} (hi : i < X.length) (hj : j < D.length) (e : X[i].id = D[j].f.id) : PlayInv (X.eraseIdx i) (D.eraseIdx j) (k + 1) :=
  ⟨h.same.out hi hj e, fun x hx => h.l x (List.mem_of_mem_eraseIdx hx), fun x hx => Nat.le_succ_of_le (h.q x (List.mem_of_mem_eraseIdx hx)), by rw [List.length_eraseIdx]; have := h.n; split <;> omega⟩
theorem PlayInv.new (h : PlayInv X D k) {id ver : Int} {p : Pol} {j : Nat} (hno : ∀ g ∈ X, g.id ≠ id) (hj : j ≤ D.length) (h1 : ∀ i, ∀ hi : i < D.length, i < j → D[i].f.id < id) (h2 : ∀ hj : j < D.length, id ≤ D[j].f.id) :
    PlayInv (X ++ [⟨id, ver, p, ⟨0, 0, 0⟩, []⟩]) (D.take j ++ ⟨⟨id, ver, p, ⟨0, 0, 0⟩, []⟩, none, 0⟩ :: D.drop j) (k + 1) := by
  have hm : ∀ x ∈ D.take j ++ (⟨⟨id, ver, p, ⟨0, 0, 0⟩, []⟩, none, 0⟩ : Dl) :: D.drop j, x ∈ D ∨ x = ⟨⟨id, ver, p, ⟨0, 0, 0⟩, []⟩, none, 0⟩ := fun x hx => by
    rcases List.mem_append.1 hx with hx | hx
    · exact Or.inl (List.mem_of_mem_take hx)
    · rcases List.mem_cons.1 hx with hx | hx
      · exact Or.inr hx
      · exact Or.inl (List.mem_of_mem_drop hx)
  refine ⟨h.same.new rfl hno hj h1 h2, fun x hx => ?_, fun x hx => ?_, by rw [List.length_append, List.length_singleton]; have := h.n; omega⟩
  · rcases hm x hx with h3 | rfl
    · exact h.l x h3
    · show (0 : Int) ≤ 0 ∧ (0 : Int) ≤ 2305843009213693952
      decide
  · rcases hm x hx with h3 | rfl
    · exact Nat.le_succ_of_le (h.q x h3)
    · exact Nat.zero_le _
end
end Go.Proofs.Ytjdkafamaoeifaa

namespace Go.Proofs.Ytjdkafamaoeifaa
open Go.RowKit Go.Proofs Go.Maps
set_option linter.unusedVariables false
set_option linter.unusedSimpArgs false

section
variable {W : World} {L : List (Nat × TypeId × Array Value)} {ps : Nat} {X : List Fl} {G : List Nat} {A : Option Addr} {n c : Nat} {D : List Dl} {k : Nat}
theorem has_orX (X : List Fl) (id : Int) : (∃ i, ∃ hi : i < X.length, X[i].id = id) ∨ ∀ f ∈ X, f.id ≠ id := by
  by_cases h : ∃ i, ∃ hi : i < X.length, X[i].id = id
  · exact Or.inl h
  · refine Or.inr fun f hf e => h ?_
    obtain ⟨i, hi, rfl⟩ := List.mem_iff_getElem.1 hf
    exact ⟨i, hi, e⟩
theorem wake_l (c : Clk) (now least : Int) (h : 0 ≤ c.l ∧ c.l ≤ 2305843009213693952) : 0 ≤ (wake c now least).l ∧ (wake c now least).l ≤ 2305843009213693952 := h
def SetGo (W : World) (ps : Nat) (X : List Fl) (k : Nat) (G' : List Nat) (v : Value) (D' : List Dl) (id ver : Int) (p : Pol) (z : Int) : Prop :=
  ∀ L' w2, PlaySt W L' w2 ps X G' v D' → Calls Try.prog 13 #[.pointer (some ⟨ps, 0, none⟩), .int .i64 id, .int .i64 ver, .agg #[.int .i64 p.r, .int .i64 p.w, .int .i64 p.l, .int .i64 p.b]] w2 fun e w3 =>
    e = .returned (.int .i64 z) ∧ ∃ X', PlaySt W L' w3 ps X' G' v D' ∧ PlayInv X' D' (k + 1)
theorem play_set {w : World} (h : PlaySt W L w ps X G (.slice A n c) D) (hn : D.length = n) (hk : PlayInv X D k) (hkk : k ≤ 100) (id ver : Int) (p : Pol) (hid : i64ok id) (hver : i64ok ver) :
    Calls Try.prog 24 #[.slice A n c, .int .i64 id, .int .i64 ver, .agg #[.int .i64 p.r, .int .i64 p.w, .int .i64 p.l, .int .i64 p.b]] w fun e w1 =>
      ∃ A' n' c' z G' D', e = .returned (.tuple #[.slice A' n' c', .int .i64 z]) ∧ D'.length = n' ∧ PlaySt W L w1 ps X G' (.slice A' n' c') D' ∧ SetGo W ps X k G' (.slice A' n' c') D' id ver p z := by
  have hXn := hk.n
  have hDn := hk.len
  by_cases hb : id < 0 ∨ ver < 0 ∨ right p.r p.w p.l p.b = false
  · refine (set12_bad id ver p hb).mono ?_
    rintro e w1 ⟨rfl, hb1⟩
    refine ⟨A, n, c, 1, G, D, rfl, hn, h.below hb1, fun L' w2 h2 => ?_⟩
    refine (sset_bad w2 ps id ver p hb).mono ?_
    rintro e w3 ⟨rfl, hb3⟩
    exact ⟨rfl, X, h2.below hb3, hk.more⟩
  · have h1 : 0 ≤ id := by omega
    have h2 : 0 ≤ ver := by omega
    have h3 : right p.r p.w p.l p.b = true := by
      cases hr : right p.r p.w p.l p.b
      · exact absurd (Or.inr (Or.inr hr)) hb
      · rfl
    rcases has_orX X id with ⟨i, hi, hXi⟩ | hno
    · obtain ⟨j, hj, e1⟩ := hk.same.toD hi
      have hex : ∃ d ∈ D, d.f.id = id := ⟨D[j], List.getElem_mem hj, by rw [← e1, hXi]⟩
      refine (set12_has id ver p h.doc hn (by omega) h1 h2 h3 hex).mono ?_
      rintro e w1 ⟨j', hj', hid', hcase⟩
      have hjj : j' = j := hk.same.inj hj' hj (by rw [hid', ← e1, hXi])
      subst hjj
      have hbd := hk.l D[j'] (List.getElem_mem hj')
      have hqd := hk.q D[j'] (List.getElem_mem hj')
      rcases hcase with ⟨hv, rfl, hb1⟩ | ⟨hv, v, rfl, ho⟩
      · refine ⟨A, n, c, 13, G, D, rfl, hn, h.below hb1, fun L' w2 h2' => ?_⟩
        obtain ⟨F, hs, ht⟩ := h2'.sched
        refine (set_old_calls w2 ps F X i D[j'].f id ver p hs hi e1 hid' h2 hv h3).mono ?_
        rintro e w3 ⟨rfl, hb3⟩
        exact ⟨rfl, X, h2'.below hb3, hk.more⟩
      · obtain ⟨A', c', G', rfl, hn', hp'⟩ := h.turn ho
        refine ⟨A', n, c', 0, G', _, rfl, hn', hp', fun L' w2 h2' => ?_⟩
        obtain ⟨F, hs, ht⟩ := h2'.sched
        refine (set_up_calls w2 ps F X i D[j'].f id ver p hs hi e1 hid' h2 hv h3).mono ?_
        rintro e w3 ⟨rfl, ht3⟩
        exact ⟨rfl, _, ht _ _ ht3, hk.set hi hj' (by rw [e1]) (by rw [hid']) (by show D[j'].f.id = X[i].id; rw [e1]) hbd (Nat.le_succ_of_le hqd)⟩
    · refine (set12_new id ver p h.doc hn (by omega) h1 h2 h3 (hk.same.none.1 hno)).mono ?_
      rintro e w1 ⟨m, hm, hlt, hge, v, rfl, ho⟩
      obtain ⟨A', c', G', rfl, hn', hp'⟩ := h.turn ho
      refine ⟨A', n + 1, c', 0, G', _, rfl, hn', hp', fun L' w2 h2' => ?_⟩
      obtain ⟨F, hs, ht⟩ := h2'.sched
      refine (set_new_calls w2 ps F X id ver p hs (by omega) hno h1 hid.2 h2 h3).mono ?_
      rintro e w3 ⟨rfl, ht3⟩
      exact ⟨rfl, _, ht _ _ ht3, hk.new hno hm hlt hge⟩
def PushGo (W : World) (ps : Nat) (X : List Fl) (k : Nat) (G' : List Nat) (v : Value) (D' : List Dl) (id now : Int) (x : It) (z : Int) : Prop :=
  ∀ L' w2, PlaySt W L' w2 ps X G' v D' → Calls Try.prog 16 #[.pointer (some ⟨ps, 0, none⟩), .int .i64 id, .agg #[.int .i64 x.name, .int .i64 x.delta, .int .i64 x.rho], .int .i64 now] w2 fun e w3 =>
    e = .returned (.int .i64 z) ∧ ∃ X', PlaySt W L' w3 ps X' G' v D' ∧ PlayInv X' D' (k + 1)
theorem play_push {w : World} (h : PlaySt W L w ps X G (.slice A n c) D) (hn : D.length = n) (hk : PlayInv X D k) (hkk : k ≤ 100) (id now : Int) (x : It) (hid : i64ok id) :
    Calls Try.prog 25 #[.slice A n c, .int .i64 id, .agg #[.int .i64 x.name, .int .i64 x.delta, .int .i64 x.rho], .int .i64 now] w fun e w1 =>
      ∃ A' n' c' z G' D', e = .returned (.tuple #[.slice A' n' c', .int .i64 z]) ∧ D'.length = n' ∧ PlaySt W L w1 ps X G' (.slice A' n' c') D' ∧ PushGo W ps X k G' (.slice A' n' c') D' id now x z := by
  have hXn := hk.n
  have hDn := hk.len
  rcases has_orX X id with ⟨i, hi, hXi⟩ | hno
  · obtain ⟨j, hj, e1⟩ := hk.same.toD hi
    have hex : ∃ d ∈ D, d.f.id = id := ⟨D[j], List.getElem_mem hj, by rw [← e1, hXi]⟩
    refine (push12_has id now x h.doc hn (by omega) (fun d hd => by have := hk.q d hd; omega) hex).mono ?_
    rintro e w1 ⟨j', hj', hid', v, B', b', rfl, ho⟩
    have hjj : j' = j := hk.same.inj hj' hj (by rw [hid', ← e1, hXi])
    subst hjj
    have hbd := hk.l D[j'] (List.getElem_mem hj')
    have hqd := hk.q D[j'] (List.getElem_mem hj')
    obtain ⟨A', c', G', rfl, hn', hp'⟩ := h.turn ho
    refine ⟨A', n, c', 0, G', _, rfl, hn', hp', fun L' w2 h2' => ?_⟩
    obtain ⟨F, hs, ht⟩ := h2'.sched
    by_cases hq : D[j'].f.q = []
    · refine (spush_first w2 ps F X i D[j'].f id now x hs (by omega) hi e1 hid' hq).mono ?_
      rintro e w3 ⟨rfl, ht3⟩
      refine ⟨rfl, _, ht _ _ ht3, hk.set hi hj' (by rw [e1]) ?_ (by show D[j'].f.id = X[i].id; rw [e1]) (wake_l _ _ _ hbd) ?_⟩
      · show (⟨D[j'].f.id, D[j'].f.ver, D[j'].f.p, (if D[j'].f.q = [] then wake D[j'].f.c (at_ now) (leastP (D.map Dl.f)) else D[j'].f.c), D[j'].f.q ++ [x]⟩ : Fl) = _
        rw [if_pos hq, hk.same.least]
      · simp only [List.length_append, List.length_singleton]; omega
    · refine (spush_more w2 ps F X i D[j'].f id now x hs (by omega) hi e1 hid' hq (by omega)).mono ?_
      rintro e w3 ⟨rfl, ht3⟩
      refine ⟨rfl, _, ht _ _ ht3, hk.set hi hj' (by rw [e1]) ?_ (by show D[j'].f.id = X[i].id; rw [e1]) hbd ?_⟩
      · show (⟨D[j'].f.id, D[j'].f.ver, D[j'].f.p, (if D[j'].f.q = [] then wake D[j'].f.c (at_ now) (leastP (D.map Dl.f)) else D[j'].f.c), D[j'].f.q ++ [x]⟩ : Fl) = _
        rw [if_neg hq]
      · simp only [List.length_append, List.length_singleton]; omega
  · refine (push12_none id now x h.doc hn (by omega) (hk.same.none.1 hno)).mono ?_
    rintro e w1 ⟨rfl, hb1⟩
    refine ⟨A, n, c, 7, G, D, rfl, hn, h.below hb1, fun L' w2 h2' => ?_⟩
    obtain ⟨F, hs, ht⟩ := h2'.sched
    refine (spush_none w2 ps F X id now x hs hid hno).mono ?_
    rintro e w3 ⟨rfl, hb3⟩
    exact ⟨rfl, X, h2'.below hb3, hk.more⟩
def PickGo (W : World) (ps : Nat) (X : List Fl) (k : Nat) (G' : List Nat) (v : Value) (D' : List Dl) (now id : Int) (x : It) (ph : Int) : Prop :=
  ∀ L' w2, PlaySt W L' w2 ps X G' v D' → Calls Try.prog 15 #[.pointer (some ⟨ps, 0, none⟩), .int .i64 now] w2 fun e w3 =>
    e = .returned (.tuple #[.int .i64 id, .agg #[.int .i64 x.name, .int .i64 x.delta, .int .i64 x.rho], .int .i64 ph, .bool (decide (0 < ph))]) ∧ ∃ X', PlaySt W L' w3 ps X' G' v D' ∧ PlayInv X' D' (k + 1)
theorem play_pick {w : World} (h : PlaySt W L w ps X G (.slice A n c) D) (hn : D.length = n) (hk : PlayInv X D k) (hkk : k ≤ 100) (now : Int) :
    Calls Try.prog 26 #[.slice A n c, .int .i64 now] w fun e w1 =>
      ∃ A' n' c' id x ph G' D', e = .returned (.agg #[.slice A' n' c', .int .i64 id, .int .i64 (It.name x), .int .i64 x.delta, .int .i64 x.rho, .int .i64 ph]) ∧ D'.length = n' ∧ PlaySt W L w1 ps X G' (.slice A' n' c') D' ∧ PickGo W ps X k G' (.slice A' n' c') D' now id x ph := by
  have hXn := hk.n
  have hDn := hk.len
  refine (pick12_calls now h.doc hn (by omega) hk.l).mono ?_
  rintro e w1 (⟨n1, n2, rfl, hb1⟩ | ⟨j, hj, ph, x, rest, hpk, hq, v, B', b', rfl, ho⟩)
  · refine ⟨A, n, c, 0, ⟨0, 0, 0⟩, 0, G, D, rfl, hn, h.below hb1, fun L' w2 h2' => ?_⟩
    obtain ⟨F, hs, ht⟩ := h2'.sched
    refine (spick_calls w2 ps F X now hs (by omega)).mono ?_
    rintro e w3 (⟨rfl, _, hb3⟩ | ⟨i, phase, f, y, rest, hp, _⟩)
    · exact ⟨rfl, X, h2'.below hb3, hk.more⟩
    · exact absurd hp (hk.same.idle n1 n2)
  · have hbd := hk.l D[j] (List.getElem_mem hj)
    have hqd := hk.q D[j] (List.getElem_mem hj)
    obtain ⟨A', c', G', rfl, hn', hp'⟩ := h.turn ho
    refine ⟨A', n, c', D[j].f.id, x, ph, G', _, rfl, hn', hp', fun L' w2 h2' => ?_⟩
    obtain ⟨F, hs, ht⟩ := h2'.sched
    refine (spick_calls w2 ps F X now hs (by omega)).mono ?_
    rintro e w3 (⟨_, hno, _⟩ | ⟨i, phase, f, y, rest', hp, ⟨hi, hf⟩, hqf, rfl, ht3⟩)
    · exact absurd hpk (hk.same.busy hno)
    · obtain ⟨rfl, _, _, hids⟩ := hk.same.picks hp hpk
      have e1 := hk.same.at_ hi hj hids
      obtain rfl : D[j].f = f := by rw [← e1, hf]
      rw [hq] at hqf
      injection hqf with ex er
      subst ex er
      have hph : 0 < phase := by rcases hp with ⟨e, _⟩ | ⟨e, _⟩ <;> omega
      refine ⟨by rw [decide_eq_true hph], _, ht _ _ ht3, hk.set hi hj hids rfl (by show D[j].f.id = X[i].id; rw [e1]) (charge_l _ _ _ _ _ _ hbd) ?_⟩
      rw [hq] at hqd
      simp only [List.length_cons] at hqd
      show rest.length ≤ k + 1
      omega
/-- Drop: the flow is there -/
theorem play_out {w : World} (h : PlaySt W L w ps X G (.slice A n c) D) (hn : D.length = n) (hk : PlayInv X D k) (hkk : k ≤ 100) (id : Int) {j : Nat} (hj : j < D.length) (hid : D[j].f.id = id) :
    Calls Try.prog 28 #[.slice A n c, .int .i64 j] w fun e w1 =>
      ∃ A' n' c' G' D', e = .returned (.slice A' n' c') ∧ D'.length = n' ∧ PlaySt W L w1 ps X G' (.slice A' n' c') D' ∧
        ∀ L' w2, PlaySt W L' w2 ps X G' (.slice A' n' c') D' → Calls Try.prog 29 #[.pointer (some ⟨ps, 0, none⟩), .int .i64 id] w2 fun e w3 =>
          e = .returned (.int .i64 D[j].f.q.length) ∧ ∃ X', PlaySt W L' w3 ps X' G' (.slice A' n' c') D' ∧ PlayInv X' D' (k + 1) := by
  have hXn := hk.n
  have hDn := hk.len
  refine (out12_calls j h.doc hn (by omega) (by omega)).mono ?_
  rintro e w1 ⟨v, rfl, ho⟩
  obtain ⟨A', c', G', rfl, hn', hp'⟩ := h.turn ho
  refine ⟨A', n - 1, c', G', _, rfl, hn', hp', fun L' w2 h2' => ?_⟩
  obtain ⟨F, hs, ht⟩ := h2'.sched
  obtain ⟨i, hi, e1⟩ := hk.same.toX hj
  refine (sdrop_yes w2 ps F X i D[j].f id hs (by omega) hi e1 hid).mono ?_
  rintro e w3 ⟨rfl, ht3⟩
  exact ⟨rfl, _, ht _ _ ht3, hk.out hi hj (by rw [e1])⟩
theorem play_drop {w : World} (h : PlaySt W L w ps X G (.slice A n c) D) (hk : PlayInv X D k) (id : Int) (hid : i64ok id) (hno : ∀ d ∈ D, d.f.id ≠ id) :
    Calls Try.prog 29 #[.pointer (some ⟨ps, 0, none⟩), .int .i64 id] w fun e w3 => e = .returned (.int .i64 0) ∧ PlaySt W L w3 ps X G (.slice A n c) D ∧ PlayInv X D (k + 1) := by
  obtain ⟨F, hs, ht⟩ := h.sched
  refine (sdrop_none w ps F X id hs hid (hk.same.none.2 hno)).mono ?_
  rintro e w3 ⟨rfl, rfl⟩
  exact ⟨rfl, h, hk.more⟩
end
end Go.Proofs.Ytjdkafamaoeifaa

namespace Go.Proofs.Ytjdkafamaoeifaa
open Go Go.RowKit
set_option linter.unusedVariables false

section
variable {P : Program} {ops : Array Oper} {Q : Exit → Act → World → Prop} {S : World → Prop} {E : Act → World → Prop}
section
variable {marks : List Nat}
/-- what waits for operation i, in one pass (edges go back in the text) -/
def depsOne (ops : Array Oper) (i : Nat) : List Nat :=
  (List.range ops.size).foldl (fun D j => if D.contains j then D else if ((ops[j]?).map fun o => o.after.any fun e => Region.binds .any e && D.contains e.on).getD false then D ++ [j] else D) [i]
/-- kinds: 0: it reads; 1: it acts, and S holds behind it; 2: it yields in whatever world; else: it acts, and S is given up -/
def okH (ops : Array Oper) (marks : List Nat) : List (Nat × Nat) → Array Bool → Bool
  | [], _ => true
  | (0, i) :: rest, listed => (ops[i]?).isSome && (Region.ready .any ops listed).contains i && freeG ops marks listed i (depsOne ops i) && okH ops marks rest (listed.setIfInBounds i true)
  | (1, i) :: rest, listed => (ops[i]?).isSome && (Region.ready .any ops listed == [i]) && okH ops marks rest (listed.setIfInBounds i true)
  | (2, i) :: rest, listed => (ops[i]?).isSome && (Region.ready .any ops listed).contains i && !marks.contains i && freeG ops [] listed i (depsOne ops i) && okH ops marks rest (listed.setIfInBounds i true)
  | (_ + 3, i) :: rest, listed => (ops[i]?).isSome && (Region.ready .any ops listed == [i]) && marks.any (fun m => (listed.setIfInBounds i true).getD m true) && okH ops marks rest (listed.setIfInBounds i true)
theorem lexH_sound (hs : Region.noSelect ops = true) (hQ : ∀ c (a : Act) (d : Tmp) v w, Q (.panic c) (a.put (some d) v) w → Q (.panic c) a w) :
    ∀ (ord : List (Nat × Nat)) (fuel : Nat) (listed : Array Bool) (a : Act) (w : World), okH ops marks ord listed = true → (unmarked marks listed → S w) →
      lexG P ops Q S (fun a' w' => (unmarked marks (markG ord listed) → S w') → wpAnyG P ops Q S marks fuel (markG ord listed) a' w') (ord.map fun p => (p.1, ops[p.2]?)) a w → wpAnyG P ops Q S marks (fuel + ord.length) listed a w := by
  intro ord
  induction ord with
  | nil =>
    intro fuel listed a w hok hS h
    exact h hS
  | cons p rest ih =>
    obtain ⟨e, i⟩ := p
    intro fuel listed a w hok hS h
    match e, hok, h with
    | 0, hok, h =>
      simp only [okH, Bool.and_eq_true] at hok
      obtain ⟨⟨⟨hi, hr⟩, hf⟩, hrest⟩ := hok
      obtain ⟨o, ho⟩ := Option.isSome_iff_exists.1 hi
      simp only [List.map_cons, ho, markG] at h
      simp only [List.length_cons, ← Nat.add_assoc]
      obtain ⟨v, hy, hl⟩ := h
      have hf' := hf
      simp only [freeG, ho, Bool.and_eq_true, List.all_eq_true] at hf'
      have hum : unmarked marks listed := fun m hm => by
        have h1 := hf'.1.1 m hm
        simp only [List.contains_iff_mem] at h1
        have h2 := (hf'.1.2 m h1.1).1
        simpa using h2
      refine wpAnyG_take ho _ hs hf hr (fun c a w hh => ?_) hy (hS hum) (ih fuel _ _ w hrest (fun _ => hS hum) hl)
      cases hd : o.dst with
      | none => rw [hd] at hh; exact hh
      | some d => rw [hd] at hh; exact hQ c a d v w hh
    | 1, hok, h =>
      simp only [okH, Bool.and_eq_true] at hok
      obtain ⟨⟨hi, hr⟩, hrest⟩ := hok
      obtain ⟨o, ho⟩ := Option.isSome_iff_exists.1 hi
      simp only [List.map_cons, ho, markG] at h
      simp only [List.length_cons, ← Nat.add_assoc]
      have hr' : Region.ready .any ops listed = [i] := by simpa using hr
      refine wpAnyG_all hr' (by simp) fun j hj => ?_
      obtain rfl : j = i := by simpa using hj
      simp only [lexG] at h
      simp only [wpOp, ho]
      split at h
      · rename_i hw
        rw [if_pos hw]
        rcases h with h | h
        · exact Or.inl (Oper.wp_mono (fun a' w' hh => ⟨fun _ => hh.1, ih fuel _ a' w' hrest (fun _ => hh.1) hh.2⟩) h)
        · exact Or.inr h
      · rename_i hw
        rw [if_neg hw]
        exact ⟨fun _ => h.1, ih fuel _ _ w hrest (fun _ => h.1) h.2⟩
    | 2, hok, h =>
      simp only [okH, Bool.and_eq_true] at hok
      obtain ⟨⟨⟨⟨hi, hr⟩, hmi⟩, hf⟩, hrest⟩ := hok
      obtain ⟨o, ho⟩ := Option.isSome_iff_exists.1 hi
      simp only [List.map_cons, ho, markG] at h
      simp only [List.length_cons, ← Nat.add_assoc]
      obtain ⟨v, hy, hl⟩ := h
      have hmi' : marks.contains i = false := by simpa using hmi
      have um : unmarked marks (listed.setIfInBounds i true) → unmarked marks listed := unmarked_mono
      refine wpAnyG_takeP ho _ hs hmi' hf hr (fun c a w hh => ?_) hy hS (ih fuel _ _ w hrest (fun hu => hS (um hu)) hl)
      cases hd : o.dst with
      | none => rw [hd] at hh; exact hh
      | some d => rw [hd] at hh; exact hQ c a d v w hh
    | k + 3, hok, h =>
      simp only [okH, Bool.and_eq_true] at hok
      obtain ⟨⟨⟨hi, hr⟩, hm⟩, hrest⟩ := hok
      obtain ⟨o, ho⟩ := Option.isSome_iff_exists.1 hi
      simp only [List.map_cons, ho, markG] at h
      simp only [List.length_cons, ← Nat.add_assoc]
      have hr' : Region.ready .any ops listed = [i] := by simpa using hr
      obtain ⟨m, hm1, hm2⟩ := List.any_eq_true.1 hm
      have hno : ¬ unmarked marks (listed.setIfInBounds i true) := fun hu => by
        have := hu m hm1
        rw [hm2] at this
        cases this
      refine wpAnyG_all hr' (by simp) fun j hj => ?_
      obtain rfl : j = i := by simpa using hj
      simp only [lexG] at h
      simp only [wpOp, ho]
      split at h
      · rename_i hw
        rw [if_pos hw]
        rcases h with h | h
        · exact Or.inl (Oper.wp_mono (fun a' w' hh => ⟨fun hu => absurd hu hno, ih fuel _ a' w' hrest (fun hu => absurd hu hno) hh⟩) h)
        · exact Or.inr h
      · rename_i hw
        rw [if_neg hw]
        exact ⟨fun hu => absurd hu hno, ih fuel _ _ w hrest (fun hu => absurd hu hno) h⟩

theorem region_lexh {id : Nat} {a : Act} {w : World} (S : World → Prop) (marks : List Nat) (fuel : Nat) (ord : List (Nat × Nat)) (listed : Array Bool) (hm : P.follows .mixedOrders = true) (hs : Region.noSelect ops = true) (hl : fuel + ord.length = ops.size)
    (hok : okH ops marks ord (Array.replicate ops.size false) = true) (hli : markG ord (Array.replicate ops.size false) = listed) (hQ : ∀ c (a : Act) (d : Tmp) v w, Q (.panic c) (a.put (some d) v) w → Q (.panic c) a w)
    (hS : S w.drew) (h : S w.drew → lexG P ops Q S (fun a' w' => (unmarked marks listed → S w') → wpAnyG P ops Q S marks fuel listed a' w') (ord.map fun p => (p.1, ops[p.2]?)) a w.drew) : (Code.region id ops true).wp P Q a w := by
  subst hli
  have h2 := lexH_sound hs hQ ord fuel _ _ _ hok (fun _ => hS) (h hS)
  rw [hl] at h2
  exact wp_region_any hm (wpAny_of_G _ _ _ _ h2)
end
structure LQ (P : Program) (ops : Array Oper) (Q : Exit → Act → World → Prop) (S : World → Prop) (E : Act → World → Prop) (l : List (Nat × Option Oper)) (a : Act) (w : World) : Prop where
  out : lexG P ops Q S E l a w
theorem lexG_end {E' : Act → World → Prop} (h : ∀ a w, E a w → E' a w) : ∀ (l : List (Nat × Option Oper)) (a : Act) (w : World), lexG P ops Q S E l a w → lexG P ops Q S E' l a w := by
  intro l
  induction l with
  | nil => exact fun a w hh => h a w hh
  | cons p rest ih =>
    obtain ⟨k, o⟩ := p
    intro a w hh
    cases o with
    | none => simp only [lexG] at hh
    | some o =>
      match k, hh with
      | 0, hh =>
        obtain ⟨v, hy, hl⟩ := hh
        exact ⟨v, hy, ih _ _ hl⟩
      | 1, hh =>
        simp only [lexG] at hh ⊢
        split at hh
        · rename_i hw
          rw [if_pos hw]
          rcases hh with hh | hh
          · exact Or.inl (Oper.wp_mono (fun a' w' h2 => ⟨h2.1, ih _ _ h2.2⟩) hh)
          · exact Or.inr hh
        · rename_i hw
          rw [if_neg hw]
          exact ⟨hh.1, ih _ _ hh.2⟩
      | 2, hh =>
        obtain ⟨v, hy, hl⟩ := hh
        exact ⟨v, hy, ih _ _ hl⟩
      | k + 3, hh =>
        simp only [lexG] at hh ⊢
        split at hh
        · rename_i hw
          rw [if_pos hw]
          rcases hh with hh | hh
          · exact Or.inl (Oper.wp_mono (fun a' w' h2 => ih _ _ h2) hh)
          · exact Or.inr hh
        · rename_i hw
          rw [if_neg hw]
          exact ih _ _ hh
theorem lq_nil {a : Act} {w : World} (h : E a w) : LQ P ops Q S E [] a w := ⟨h⟩
theorem lq_take {rest : List (Nat × Option Oper)} {a : Act} {w : World} {o : Oper} {v : Value}
    (hw : Region.wanted o (yielded ops a.tmps) = true) (hy : ∀ w, S w → (execOp a.eval o).run P w = .ok (.value v) w) (h : ∀ K : Act → Prop, (∀ a, LQ P ops Q S E rest a w → K a) → K (a.put o.dst v)) : LQ P ops Q S E ((0, some o) :: rest) a w :=
  ⟨lexg_take hw hy (h (fun a => lexG P ops Q S E rest a w) fun a ha => ha.out)⟩
theorem lq_skip {rest : List (Nat × Option Oper)} {a : Act} {w : World} {o : Oper}
    (hw : Region.wanted o (yielded ops a.tmps) = false) (h : ∀ K : Act → Prop, (∀ a, LQ P ops Q S E rest a w → K a) → K (a.put o.dst undef)) : LQ P ops Q S E ((0, some o) :: rest) a w :=
  ⟨lexg_skip hw (h (fun a => lexG P ops Q S E rest a w) fun a ha => ha.out)⟩
theorem lq_pure {rest : List (Nat × Option Oper)} {a : Act} {w : World} {o : Oper} {v : Value}
    (hw : Region.wanted o (yielded ops a.tmps) = true) (hy : ∀ w, (execOp a.eval o).run P w = .ok (.value v) w) (h : ∀ K : Act → Prop, (∀ a, LQ P ops Q S E rest a w → K a) → K (a.put o.dst v)) : LQ P ops Q S E ((2, some o) :: rest) a w :=
  ⟨lexg_pure hw hy (h (fun a => lexG P ops Q S E rest a w) fun a ha => ha.out)⟩
theorem lq_skipP {rest : List (Nat × Option Oper)} {a : Act} {w : World} {o : Oper}
    (hw : Region.wanted o (yielded ops a.tmps) = false) (h : ∀ K : Act → Prop, (∀ a, LQ P ops Q S E rest a w → K a) → K (a.put o.dst undef)) : LQ P ops Q S E ((2, some o) :: rest) a w :=
  ⟨lexg_skipP hw (h (fun a => lexG P ops Q S E rest a w) fun a ha => ha.out)⟩
theorem lq_eff {rest : List (Nat × Option Oper)} {a : Act} {w : World} {o : Oper}
    (hw : Region.wanted o (yielded ops a.tmps) = true) (h : ∀ (K : Act → World → Prop) (Q' : Exit → Act → World → Prop), Q' = Q → (∀ a' w', S w' → LQ P ops Q S E rest a' w' → K a' w') → o.wp P a w K Q') : LQ P ops Q S E ((1, some o) :: rest) a w :=
  ⟨lexg_eff hw (h (fun a' w' => S w' ∧ lexG P ops Q S E rest a' w') Q rfl fun a' w' hs hl => ⟨hs, hl.out⟩)⟩
theorem lq_effskip {rest : List (Nat × Option Oper)} {a : Act} {w : World} {o : Oper}
    (hw : Region.wanted o (yielded ops a.tmps) = false) (hS : S w) (h : ∀ K : Act → Prop, (∀ a, LQ P ops Q S E rest a w → K a) → K (a.put o.dst undef)) : LQ P ops Q S E ((1, some o) :: rest) a w :=
  ⟨lexg_effskip hw hS (h (fun a => lexG P ops Q S E rest a w) fun a ha => ha.out)⟩
theorem region_lq {id : Nat} {a : Act} {w : World} {l : List Oper} (S : World → Prop) (ord : List (Nat × Nat)) (listed : Array Bool) (hm : P.follows .mixedOrders = true) (hs : Region.noSelect l.toArray = true) (hl : 0 + ord.length = l.toArray.size)
    (hok : okH l.toArray [] ord (Array.replicate l.toArray.size false) = true) (hli : markG ord (Array.replicate l.toArray.size false) = listed) (hr : Region.ready .any l.toArray listed = []) (hQ : ∀ c (a : Act) (d : Tmp) v w, Q (.panic c) (a.put (some d) v) w → Q (.panic c) a w)
    (hS : S w.drew) {L : List (Nat × Option Oper)} (hL : (ord.map fun p => (p.1, l[p.2]?)) = L)
    (h : LQ P l.toArray Q S (fun a' w' => S w' → Q .normal a' w') L a w.drew) : (Code.region id l.toArray true).wp P Q a w := by
  subst hL
  refine region_lexh S [] 0 ord listed hm hs hl hok hli hQ hS fun _ => ?_
  have h1 := h.out
  have e : (ord.map fun p => (p.1, l.toArray[p.2]?)) = ord.map fun p => (p.1, l[p.2]?) := by simp
  rw [e]
  refine lexG_end (fun a' w' h2 => ?_) _ _ _ h1
  exact fun hS' => wpAnyG_done hr (h2 (hS' (by intro m hm; cases hm))) _
end
end Go.Proofs.Ytjdkafamaoeifaa
