/- slices.Sorted(maps.Keys(m)) at the three maps of a state; State.Volumes, Chunks. -/
import Derived.Test.YtcgecalbgkkinaaGreatVm4
import Derived.Test.YtcgecalbgkkinaaGreatKeys
namespace Go.Proofs.YtcgecalbgkkinaaGreat
open Go.RowKit Go.Proofs Go.Maps Go.Sort Go.Shelf
set_option linter.unusedVariables false
set_option linter.unusedSimpArgs false

theorem has_ok {w : World} {b n : Nat} {D : DataW Value} (ho : w.ownsMap Tryz.prog 3 wholeE b n D) {x : Int} (h : Maps.has D (.int .i64 x) = true) : i64ok x := by
  obtain ⟨es, rfl, hko⟩ := ho.keysOf
  rw [Maps.has_eq, List.any_eq_true] at h
  obtain ⟨p, hp, hs⟩ := h
  obtain ⟨v, hv⟩ := hko p hp
  obtain ⟨y, _, hy, hl⟩ := Maps.keyOf_i64 Tryz.underlying3 hv
  rw [hy] at hs
  have : y = x := by simpa [Lit.sameKey] using hs
  subst this
  exact bounds_i64 hl
theorem Tab.keys {α : Type} {key : α → Int} {val : α → Value} {w : World} {b : Nat} {L : List α} (h : Tab key val w b L) : ∃ D, w.ownsMap Tryz.prog 3 wholeE b L.length D ∧ Maps.size D = L.length ∧ (L.map key).Perm (intKeys D) ∧
    (∀ x, Maps.has D (.int .i64 x) = true ↔ x ∈ L.map key) ∧ ∀ k, i64ok k → ∀ z, D.atKey (.int .i64 k) (.held z) = .held (((fd key L k).map val).getD z) := by
  obtain ⟨D, ho, hsz, ht, hf⟩ := h.gm
  have hm : ∀ x, Maps.has D (.int .i64 x) = true ↔ x ∈ L.map key := by
    intro x
    constructor
    · intro hx
      rw [(hf x (has_ok ho hx)).1, Option.isSome_map] at hx
      obtain ⟨y, hy⟩ := Option.isSome_iff_exists.1 hx
      obtain ⟨h1, rfl⟩ := fd_some hy
      exact List.mem_map_of_mem h1
    · intro hx
      obtain ⟨y, hy, rfl⟩ := List.mem_map.1 hx
      rw [(hf _ (h.ok y hy)).1]
      show (Option.map val (fd key L (key y))).isSome = true
      rw [fd_mem h.rise hy]
      rfl
  refine ⟨D, ho, hsz, ?_, hm, fun k hk => (hf k hk).2⟩
  obtain ⟨es, hD, hpw, _⟩ := ho.entries law
  obtain ⟨es', hD', hko⟩ := ho.keysOf
  obtain rfl : es = es' := by rw [hD] at hD'; simpa using hD'
  subst hD
  exact perm_intKeys hpw (fun p hp => by obtain ⟨v, hv⟩ := hko p hp; obtain ⟨x, _, hx, _⟩ := Maps.keyOf_i64 Tryz.underlying3 hv; exact ⟨x, hx⟩) h.rise.nodup (fun x => (hm x).symm)
theorem sortsI (m : Nat) : AnyZI.SortsIn Tryz.prog YtcgecalbgkkinaaGreat.sortedI_ren Fence.wide m :=
  ⟨fun blk off cap ss W hH hblk hsz => callsIn_wide.2 (AnyM.slices_Sort_int YtcgecalbgkkinaaGreat.sortI blk off cap ss W hH hblk hsz),
   fun p cap W => callsIn_wide.2 (AnyM.slices_Sort_int_none YtcgecalbgkkinaaGreat.sortI p cap W)⟩
theorem keysInt_calls (mb : Option Nat) (w : World) : Calls Tryz.prog 69 #[.map mb] w fun e w' => e = .returned (.func (.func 97) #[] #[.pointer (some ⟨w.heap.size, 0, none⟩)]) ∧ w' = w.alloc (.cells #[.map mb] 60) :=
  (callsIn_wide (n := 5)).1 (AnyZI.keys_in YtcgecalbgkkinaaGreat.keysInt Fence.wide 5 trivial rfl mb w)
set_option maxHeartbeats 1000000 in
theorem sortedInt_calls {α : Type} {key : α → Int} {val : α → Value} {b : Nat} {L : List α} (p : Nat) (w : World) (hc : w.cell? ⟨p, 0, none⟩ = some (.map (some b))) (hp : p < w.heap.size) (h : Tab key val w b L) (hL : L.length ≤ 1000000) :
    Calls Tryz.prog 66 #[.func (.func 97) #[] #[.pointer (some ⟨p, 0, none⟩)]] w fun e w' => ∃ A c, e = .returned (.slice A L.length c) ∧ OwnI w w' A c (L.map key) ∧ Below w.heap.size w w' := by
  obtain ⟨D0, hown, hsz, hperm, _⟩ := h.keys
  have hmax : Maps.size D0 ≤ maxLen := by rw [hsz]; unfold maxLen; omega
  have hbytes : Maps.size D0 * 8 ≤ 140737488355328 := by rw [hsz]; omega
  have hseq : SeqGives Fence.wide 2 Tryz.prog 97 #[.pointer (some ⟨p, 0, none⟩)] encZ (fun ss => ss.Perm (intKeys D0)) (Maps.size D0) w :=
    AnyZI.keys_gives (ρ := YtcgecalbgkkinaaGreat.keysInt_ren) { YtcgecalbgkkinaaGreat.keysInt with } Fence.wide _ trivial rfl (by omega) p b L.length D0 _ hp hc hown
  have cS := AnyZI.sorted_in YtcgecalbgkkinaaGreat.sortedI Fence.wide 5 trivial trivial trivial trivial rfl (by omega) (sortsI _) (enters_of Tryz.func94 (by kernel_rfl) rfl) 97 #[.pointer (some ⟨p, 0, none⟩)] trivial (enters_of Tryz.func97 (by kernel_rfl) rfl) _ _ hmax hbytes _ hseq
  refine ((callsIn_wide (n := 5)).1 cS).mono fun e w' ⟨v, ss, he, hS, hrow, hnil, hb⟩ => ?_
  have hp2 : ss.Perm (L.map key) := hS.trans hperm.symm
  rw [keys_sorted h.rise hp2] at hrow
  have hl : ss.length = L.length := by rw [hp2.length_eq, List.length_map]
  rw [hl] at hrow
  have hlt := hrow.lt
  obtain ⟨A, c, hv, _⟩ := own_view hrow
  subst hv
  refine ⟨A, c, he, ⟨?_, fun g hg => (hlt g (by rw [ownBlock_slice]; exact hg)).1⟩, hb⟩
  rw [List.length_map]
  exact own_base hrow
theorem keysVolume_calls (mb : Option Nat) (w : World) : Calls Tryz.prog 67 #[.map mb] w fun e w' => e = .returned (.func (.func 95) #[] #[.pointer (some ⟨w.heap.size, 0, none⟩)]) ∧ w' = w.alloc (.cells #[.map mb] 61) :=
  (callsIn_wide (n := 5)).1 (AnyZI.keys_in YtcgecalbgkkinaaGreat.keysVolume Fence.wide 5 trivial rfl mb w)
set_option maxHeartbeats 1000000 in
theorem sortedVolume_calls {α : Type} {key : α → Int} {val : α → Value} {b : Nat} {L : List α} (p : Nat) (w : World) (hc : w.cell? ⟨p, 0, none⟩ = some (.map (some b))) (hp : p < w.heap.size) (h : Tab key val w b L) (hL : L.length ≤ 1000000) :
    Calls Tryz.prog 66 #[.func (.func 95) #[] #[.pointer (some ⟨p, 0, none⟩)]] w fun e w' => ∃ A c, e = .returned (.slice A L.length c) ∧ OwnI w w' A c (L.map key) ∧ Below w.heap.size w w' := by
  obtain ⟨D0, hown, hsz, hperm, _⟩ := h.keys
  have hmax : Maps.size D0 ≤ maxLen := by rw [hsz]; unfold maxLen; omega
  have hbytes : Maps.size D0 * 8 ≤ 140737488355328 := by rw [hsz]; omega
  have hseq : SeqGives Fence.wide 2 Tryz.prog 95 #[.pointer (some ⟨p, 0, none⟩)] encZ (fun ss => ss.Perm (intKeys D0)) (Maps.size D0) w :=
    AnyZI.keys_gives (ρ := YtcgecalbgkkinaaGreat.keysVolume_ren) { YtcgecalbgkkinaaGreat.keysVolume with } Fence.wide _ trivial rfl (by omega) p b L.length D0 _ hp hc hown
  have cS := AnyZI.sorted_in YtcgecalbgkkinaaGreat.sortedI Fence.wide 5 trivial trivial trivial trivial rfl (by omega) (sortsI _) (enters_of Tryz.func94 (by kernel_rfl) rfl) 95 #[.pointer (some ⟨p, 0, none⟩)] trivial (enters_of Tryz.func95 (by kernel_rfl) rfl) _ _ hmax hbytes _ hseq
  refine ((callsIn_wide (n := 5)).1 cS).mono fun e w' ⟨v, ss, he, hS, hrow, hnil, hb⟩ => ?_
  have hp2 : ss.Perm (L.map key) := hS.trans hperm.symm
  rw [keys_sorted h.rise hp2] at hrow
  have hl : ss.length = L.length := by rw [hp2.length_eq, List.length_map]
  rw [hl] at hrow
  have hlt := hrow.lt
  obtain ⟨A, c, hv, _⟩ := own_view hrow
  subst hv
  refine ⟨A, c, he, ⟨?_, fun g hg => (hlt g (by rw [ownBlock_slice]; exact hg)).1⟩, hb⟩
  rw [List.length_map]
  exact own_base hrow
theorem keysChunk_calls (mb : Option Nat) (w : World) : Calls Tryz.prog 68 #[.map mb] w fun e w' => e = .returned (.func (.func 96) #[] #[.pointer (some ⟨w.heap.size, 0, none⟩)]) ∧ w' = w.alloc (.cells #[.map mb] 62) :=
  (callsIn_wide (n := 5)).1 (AnyZI.keys_in YtcgecalbgkkinaaGreat.keysChunk Fence.wide 5 trivial rfl mb w)
set_option maxHeartbeats 1000000 in
theorem sortedChunk_calls {α : Type} {key : α → Int} {val : α → Value} {b : Nat} {L : List α} (p : Nat) (w : World) (hc : w.cell? ⟨p, 0, none⟩ = some (.map (some b))) (hp : p < w.heap.size) (h : Tab key val w b L) (hL : L.length ≤ 1000000) :
    Calls Tryz.prog 66 #[.func (.func 96) #[] #[.pointer (some ⟨p, 0, none⟩)]] w fun e w' => ∃ A c, e = .returned (.slice A L.length c) ∧ OwnI w w' A c (L.map key) ∧ Below w.heap.size w w' := by
  obtain ⟨D0, hown, hsz, hperm, _⟩ := h.keys
  have hmax : Maps.size D0 ≤ maxLen := by rw [hsz]; unfold maxLen; omega
  have hbytes : Maps.size D0 * 8 ≤ 140737488355328 := by rw [hsz]; omega
  have hseq : SeqGives Fence.wide 2 Tryz.prog 96 #[.pointer (some ⟨p, 0, none⟩)] encZ (fun ss => ss.Perm (intKeys D0)) (Maps.size D0) w :=
    AnyZI.keys_gives (ρ := YtcgecalbgkkinaaGreat.keysChunk_ren) { YtcgecalbgkkinaaGreat.keysChunk with } Fence.wide _ trivial rfl (by omega) p b L.length D0 _ hp hc hown
  have cS := AnyZI.sorted_in YtcgecalbgkkinaaGreat.sortedI Fence.wide 5 trivial trivial trivial trivial rfl (by omega) (sortsI _) (enters_of Tryz.func94 (by kernel_rfl) rfl) 96 #[.pointer (some ⟨p, 0, none⟩)] trivial (enters_of Tryz.func96 (by kernel_rfl) rfl) _ _ hmax hbytes _ hseq
  refine ((callsIn_wide (n := 5)).1 cS).mono fun e w' ⟨v, ss, he, hS, hrow, hnil, hb⟩ => ?_
  have hp2 : ss.Perm (L.map key) := hS.trans hperm.symm
  rw [keys_sorted h.rise hp2] at hrow
  have hl : ss.length = L.length := by rw [hp2.length_eq, List.length_map]
  rw [hl] at hrow
  have hlt := hrow.lt
  obtain ⟨A, c, hv, _⟩ := own_view hrow
  subst hv
  refine ⟨A, c, he, ⟨?_, fun g hg => (hlt g (by rw [ownBlock_slice]; exact hg)).1⟩, hb⟩
  rw [List.length_map]
  exact own_base hrow
set_option maxHeartbeats 1000000 in
theorem volumes_calls (w : World) (no : List Nat) (b m1 m2 m3 : Nat) (S : Vst) (V : List VoM) (C : List CkM) (h : VM w no b m1 m2 m3 S V C) (hl : S.vs.length ≤ 1000000) :
    Calls Tryz.prog 26 #[.pointer (some ⟨b, 0, none⟩)] w fun e w' => ∃ A c, e = .returned (.slice A S.vs.length c) ∧ OwnI w w' A c (S.vs.map Vo.id) ∧ Below w.heap.size w w' := by
  have c1 : w.cell? ⟨b, 1, none⟩ = some (.map (some m2)) := h.blk.cell 1
  have hb0 := (Below.refl w.heap.size w).alloc (Nat.le_refl _) (.cells #[.map (some m2)] 61)
  have hcell : (w.alloc (.cells #[.map (some m2)] 61)).cell? ⟨w.heap.size, 0, none⟩ = some (.map (some m2)) := (Blk.new (cs := [.map (some m2)]) rfl).cell 0
  have hS := sortedVolume_calls w.heap.size (w.alloc (.cells #[.map (some m2)] 61)) hcell (by simp) (h.t2.below hb0) (by have := congrArg List.length h.eV; rw [List.length_map] at this; omega)
  have hlen : V.length = S.vs.length := by have := congrArg List.length h.eV; rw [List.length_map] at this; exact this
  have hmap : V.map VoM.key = S.vs.map Vo.id := by rw [← h.eV, List.map_map]; rfl
  rw [hlen, hmap] at hS
  have HS := hide hS
  clear h hcell hS hlen hmap
  go_enter Tryz.func26, Tryz.ntmps26
  go_wp2_with fail
  refine (keysVolume_calls _ _).mono ?_
  rintro e w1 ⟨rfl, rfl⟩
  go_wp2_with fail
  refine HS.out.mono ?_
  rintro e w2 ⟨A, c, rfl, ho, hb⟩
  have HO := hide ho
  clear ho
  go_wp2
  go_ret
  exact ⟨A, c, rfl, HO.out.back hb0, hb0.trans (hb.mono hb0.size)⟩
set_option maxHeartbeats 1000000 in
theorem chunks_calls (w : World) (no : List Nat) (b m1 m2 m3 : Nat) (S : Vst) (V : List VoM) (C : List CkM) (h : VM w no b m1 m2 m3 S V C) (hl : S.cs.length ≤ 1000000) :
    Calls Tryz.prog 27 #[.pointer (some ⟨b, 0, none⟩)] w fun e w' => ∃ A c, e = .returned (.slice A S.cs.length c) ∧ OwnI w w' A c (S.cs.map Ck.id) ∧ Below w.heap.size w w' := by
  have c1 : w.cell? ⟨b, 2, none⟩ = some (.map (some m3)) := h.blk.cell 2
  have hb0 := (Below.refl w.heap.size w).alloc (Nat.le_refl _) (.cells #[.map (some m3)] 62)
  have hcell : (w.alloc (.cells #[.map (some m3)] 62)).cell? ⟨w.heap.size, 0, none⟩ = some (.map (some m3)) := (Blk.new (cs := [.map (some m3)]) rfl).cell 0
  have hS := sortedChunk_calls w.heap.size (w.alloc (.cells #[.map (some m3)] 62)) hcell (by simp) (h.t3.below hb0) (by have := congrArg List.length h.eC; rw [List.length_map] at this; omega)
  have hlen : C.length = S.cs.length := by have := congrArg List.length h.eC; rw [List.length_map] at this; exact this
  have hmap : C.map CkM.key = S.cs.map Ck.id := by rw [← h.eC, List.map_map]; rfl
  rw [hlen, hmap] at hS
  have HS := hide hS
  clear h hcell hS hlen hmap
  go_enter Tryz.func27, Tryz.ntmps27
  go_wp2_with fail
  refine (keysChunk_calls _ _).mono ?_
  rintro e w1 ⟨rfl, rfl⟩
  go_wp2_with fail
  refine HS.out.mono ?_
  rintro e w2 ⟨A, c, rfl, ho, hb⟩
  have HO := hide ho
  clear ho
  go_wp2
  go_ret
  exact ⟨A, c, rfl, HO.out.back hb0, hb0.trans (hb.mono hb0.size)⟩
end Go.Proofs.YtcgecalbgkkinaaGreat
