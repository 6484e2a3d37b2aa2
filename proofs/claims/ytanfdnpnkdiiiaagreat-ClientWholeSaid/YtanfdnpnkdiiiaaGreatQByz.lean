/- One text of: Byz. -/
import Derived.Test.YtanfdnpnkdiiiaaGreatQByl
import Derived.Test.YtanfdnpnkdiiiaaGreatQBY
namespace Go.Proofs.YtanfdnpnkdiiiaaGreat
open Go.RowKit Go.Proofs Go.Maps
set_option linter.unusedVariables false
set_option linter.unusedSimpArgs false

theorem cat_len {α : Type} {f : α → List Nat} {m : Nat} : ∀ {L : List α}, (∀ x ∈ L, (f x).length ≤ m) → (cat f L).length ≤ L.length * m
  | [], _ => by simp [cat]
  | x :: t, h => by
    have h1 := h x (by simp)
    have h2 := cat_len (L := t) (fun y hy => h y (List.mem_cons_of_mem _ hy))
    unfold cat
    rw [List.length_append, List.length_cons, Nat.add_mul]
    omega
theorem ins_len_le {α : Type} (key : α → Int) (x : α) (L : List α) : (ins key x L).length ≤ L.length + 1 := by
  induction L with
  | nil => simp [ins]
  | cons y t ih =>
    unfold ins
    split
    · simp only [List.length_cons]; omega
    · split <;> simp only [List.length_cons] <;> omega
theorem ins_mem_or {α : Type} {key : α → Int} {x y : α} {L : List α} (h : y ∈ ins key x L) : y = x ∨ y ∈ L := by
  induction L with
  | nil => simpa [ins] using h
  | cons z t ih =>
    unfold ins at h
    split at h
    · rcases List.mem_cons.1 h with h | h
      · exact Or.inr (h ▸ List.mem_cons_self ..)
      · exact (ih h).elim Or.inl (fun k => Or.inr (List.mem_cons_of_mem _ k))
    · split at h
      · rcases List.mem_cons.1 h with h | h
        · exact Or.inl h
        · exact Or.inr (List.mem_cons_of_mem _ h)
      · rcases List.mem_cons.1 h with h | h
        · exact Or.inl h
        · exact Or.inr h
theorem items_cost {r : Rdr} (hb : ∀ c ∈ r.b, c < 256) (k : Nat) (h : (r.items k).2.e = 0) : (r.items k).1.length + (r.items k).2.b.length ≤ r.b.length := by
  induction k generalizing r with
  | zero => simp [Rdr.items]
  | succ k ih =>
    have he := items_e (k + 1) h
    rw [items_more r he k] at h ⊢
    simp only [List.length_cons] at h ⊢
    have h1 := ih (Rdr.num_byte hb maxN) h
    have h2 := num_less maxN (items_e k h) hb
    omega
theorem list_cost {r : Rdr} (hb : ∀ c ∈ r.b, c < 256) (h : r.list.2.e = 0) : r.list.1.length + 1 + r.list.2.b.length ≤ r.b.length := by
  have h0 : ((r.num 512).2.items (r.num 512).1).2.e = 0 := h
  have h1 := items_cost (Rdr.num_byte hb 512) _ h0
  have h2 := num_less 512 (items_e _ h0) hb
  show ((r.num 512).2.items (r.num 512).1).1.length + 1 + ((r.num 512).2.items (r.num 512).1).2.b.length ≤ r.b.length
  omega
def VoB (v : Vo) : Prop := (v.id < 2 ^ 63 ∧ v.bl < 2 ^ 63 ∧ v.ver < 2 ^ 63 ∧ v.p.r < 2 ^ 63 ∧ v.p.w < 2 ^ 63 ∧ v.p.l < 2 ^ 63 ∧ v.p.b < 2 ^ 63) ∧ v.ch ≠ [] ∧ v.ch.length ≤ 512 ∧ ∀ x ∈ v.ch, x < 2 ^ 63
def CkB (c : Ck) : Prop := (c.id < 2 ^ 63 ∧ c.vol < 2 ^ 63 ∧ c.ep < 2 ^ 63) ∧ ((∀ x ∈ c.me, x < 2 ^ 63) ∧ ∀ x ∈ c.jo, x < 2 ^ 63) ∧ c.me.length ≤ 512 ∧ c.jo.length ≤ 512
theorem toI_lt {l : List Nat} (h : ∀ n ∈ l, n ≤ maxN) : ∀ x ∈ toI l, x < 2 ^ 63 := by
  intro x hx
  obtain ⟨n, hn, rfl⟩ := List.mem_map.1 hx
  have := h n hn
  unfold maxN at this
  omega
theorem ldSv_cost : ∀ (k : Nat) (r : Rdr) (L : List (Int × Int)), (∀ x ∈ L, x.1 < 2 ^ 63 ∧ x.2 < 2 ^ 63) → (ldSv r L k).1.length ≤ L.length + k ∧ ∀ x ∈ (ldSv r L k).1, x.1 < 2 ^ 63 ∧ x.2 < 2 ^ 63
  | 0, r, L, h => ⟨by simp [ldSv], by simpa [ldSv] using h⟩
  | k + 1, r, L, h => by
    have hm := list_mem r
    unfold ldSv
    split
    · rename_i a b hl
      rw [hl] at hm
      have ha := hm a (by simp)
      have hb := hm b (by simp)
      unfold maxN at ha hb
      have h1 := ldSv_cost k r.list.2 (ins Prod.fst ((a : Int), (b : Int)) L) (fun x hx => by
        rcases ins_mem_or hx with e | hx
        · rw [e]; simp only []; omega
        · exact h x hx)
      have h2 := ins_len_le Prod.fst ((a : Int), (b : Int)) L
      exact ⟨by omega, h1.2⟩
    · have h1 := ldSv_cost k r.list.2 L h
      exact ⟨by omega, h1.2⟩
theorem ldSv_byte : ∀ (k : Nat) (r : Rdr) (L : List (Int × Int)), (∀ c ∈ r.b, c < 256) → ∀ c ∈ (ldSv r L k).2.b, c < 256
  | 0, r, L, h => by simpa [ldSv] using h
  | k + 1, r, L, h => ldSv_byte k r.list.2 _ (list_byte h)
theorem ldSv_len : ∀ (k : Nat) (r : Rdr) (L : List (Int × Int)), (ldSv r L k).2.b.length ≤ r.b.length
  | 0, r, L => by simp [ldSv]
  | k + 1, r, L => Nat.le_trans (ldSv_len k r.list.2 _) (list_len r)
theorem voOf_B {l : List Nat} {v : Vo} (hm : ∀ n ∈ l, n ≤ maxN) (hl : l.length ≤ 512) (h : voOf l = some v) : VoB v := by
  by_cases h7 : l.length ≤ 7
  · rw [voOf_short h7] at h; cases h
  · obtain ⟨a, b, c, p1, p2, p3, p4, x, t, rfl⟩ := eight_of (l := l) (by omega)
    rw [voOf_eight] at h
    split at h
    · injection h with h
      subst h
      have k := fun n (hn : n ∈ a :: b :: c :: p1 :: p2 :: p3 :: p4 :: x :: t) => hm n hn
      have ka := k a (by simp)
      have kb := k b (by simp)
      have kc := k c (by simp)
      have k1 := k p1 (by simp)
      have k2 := k p2 (by simp)
      have k3 := k p3 (by simp)
      have k4 := k p4 (by simp)
      unfold maxN at ka kb kc k1 k2 k3 k4
      refine ⟨by simp only []; omega, by simp [toI], by simp [toI] at hl ⊢; omega, toI_lt (fun n hn => hm n ?_)⟩
      rcases List.mem_cons.1 hn with rfl | hn
      · simp
      · simp [hn]
    · cases h
theorem ldVo_cost : ∀ (k : Nat) (r r3 : Rdr) (L V : List Vo), (∀ v ∈ L, VoB v) → ldVo r L k = some (V, r3) → V.length ≤ L.length + k ∧ (∀ v ∈ V, VoB v) ∧ r3.b.length ≤ r.b.length ∧ ((∀ c ∈ r.b, c < 256) → ∀ c ∈ r3.b, c < 256)
  | 0, r, r3, L, V, h, e => by
    simp only [ldVo, Option.some.injEq, Prod.mk.injEq] at e
    obtain ⟨rfl, rfl⟩ := e
    exact ⟨by omega, h, Nat.le_refl _, id⟩
  | k + 1, r, r3, L, V, h, e => by
    unfold ldVo at e
    split at e
    · cases e
    · rename_i v hv
      obtain ⟨h1, h2, h3, h4⟩ := ldVo_cost k _ r3 _ V (fun x hx => by
        rcases ins_mem_or hx with e | hx
        · rw [e]; exact voOf_B (list_mem r) (list_le r) hv
        · exact h x hx) e
      have h5 := ins_len_le Vo.id v L
      exact ⟨by omega, h2, Nat.le_trans h3 (list_len r), fun hb => h4 (list_byte hb)⟩
theorem ldCk_cost : ∀ (k : Nat) (r r4 : Rdr) (L C : List Ck), (∀ c ∈ r.b, c < 256) → (∀ v ∈ L, CkB v) → ldCk r L k = some (C, r4) → 4 * C.length + r4.b.length ≤ 4 * L.length + r.b.length ∧ ∀ v ∈ C, CkB v
  | 0, r, r4, L, C, hb, h, e => by
    simp only [ldCk, Option.some.injEq, Prod.mk.injEq] at e
    obtain ⟨rfl, rfl⟩ := e
    exact ⟨by omega, h⟩
  | k + 1, r, r4, L, C, hb, h, e => by
    unfold ldCk at e
    split at e
    · rename_i he
      split at e
      · rename_i a b c hl
        have hm := list_mem r
        have hc := list_cost hb he
        rw [hl] at hm hc
        have ka := hm a (by simp)
        have kb := hm b (by simp)
        have kc := hm c (by simp)
        unfold maxN at ka kb kc
        obtain ⟨h1, h2⟩ := ldCk_cost k _ r4 _ C (list_byte (list_byte (list_byte hb))) (fun x hx => by
          rcases ins_mem_or hx with e | hx
          · rw [e]
            refine ⟨by simp only []; omega, ⟨toI_lt (list_mem _), toI_lt (list_mem _)⟩, ?_, ?_⟩
            · show (toI _).length ≤ 512
              unfold toI; rw [List.length_map]; exact list_le _
            · show (toI _).length ≤ 512
              unfold toI; rw [List.length_map]; exact list_le _
          · exact h x hx) e
        have h5 := ins_len_le Ck.id (⟨a, b, c, toI r.list.2.list.1, toI r.list.2.list.2.list.1⟩ : Ck) L
        have h6 := list_len r.list.2
        have h7 := list_len r.list.2.list.2
        simp only [List.length_cons, List.length_nil] at hc
        exact ⟨by omega, h2⟩
      · cases e
    · cases e
theorem bytes_le (S : Vst) (a b c : Nat) (ha : S.sv.length ≤ 16) (hb : S.vs.length ≤ a) (hc : S.cs.length ≤ b) (hv : ∀ v ∈ S.vs, v.ch.length ≤ c) (m : Nat) (hk : ∀ k ∈ S.cs, k.me.length + k.jo.length ≤ m) (hs : ∀ n ∈ S.ser, n < 2 ^ 63) : S.bytes.length ≤ 9 * (52 + a * (8 + c) + b * (6 + m)) := by
  have h1 := encs_len S.ser hs
  have h2 : (cat svNums S.sv).length ≤ S.sv.length * 3 := cat_len (fun x _ => by simp [svNums, lst])
  have h3 : (cat (fun v => lst (Vo.nums v)) S.vs).length ≤ S.vs.length * (8 + c) := cat_len (fun x hx => by
    have := hv x hx
    simp [Vo.nums, lst, toN]; omega)
  have h4 : (cat Ck.nums S.cs).length ≤ S.cs.length * (6 + m) := cat_len (fun x hx => by
    have := hk x hx
    simp [Ck.nums, lst, toN]; omega)
  have h5 : S.ser.length = 2 + (cat svNums S.sv).length + 1 + (cat (fun v => lst (Vo.nums v)) S.vs).length + 1 + (cat Ck.nums S.cs).length := by
    unfold Vst.ser
    simp only [List.length_append, List.length_cons, List.length_nil]
  have h6 := Nat.mul_le_mul_right (8 + c) hb
  have h7 := Nat.mul_le_mul_right (6 + m) hc
  unfold Vst.bytes
  omega
theorem cat_mem {α : Type} {f : α → List Nat} {n : Nat} : ∀ {L : List α}, n ∈ cat f L → ∃ x ∈ L, n ∈ f x
  | [], h => by simp [cat] at h
  | x :: t, h => by
    unfold cat at h
    rcases List.mem_append.1 h with h | h
    · exact ⟨x, by simp, h⟩
    · obtain ⟨y, hy, hn⟩ := cat_mem h
      exact ⟨y, List.mem_cons_of_mem _ hy, hn⟩
theorem toN_lt {l : List Int} (h : ∀ x ∈ l, x < 2 ^ 63) : ∀ n ∈ toN l, n < 2 ^ 63 := by
  intro n hn
  obtain ⟨x, hx, rfl⟩ := List.mem_map.1 hn
  have := h x hx
  omega
theorem ser_lt {S : Vst} (nx : S.nx < 2 ^ 63) (ls : S.sv.length ≤ 1000) (lv : S.vs.length ≤ 1000) (lc : S.cs.length ≤ 1000000) (sv : ∀ x ∈ S.sv, x.1 < 2 ^ 63 ∧ x.2 < 2 ^ 63) (vs : ∀ v ∈ S.vs, VoB v) (cs : ∀ c ∈ S.cs, CkB c) : ∀ n ∈ S.ser, n < 2 ^ 63 := by
  intro n hn
  unfold Vst.ser at hn
  simp only [List.mem_append, List.mem_cons, List.not_mem_nil, or_false] at hn
  rcases hn with (((((rfl | rfl) | hn) | rfl) | hn) | rfl) | hn
  · omega
  · omega
  · obtain ⟨x, hx, h⟩ := cat_mem hn
    have := sv x hx
    simp [svNums, lst] at h
    omega
  · omega
  · obtain ⟨v, hv, h⟩ := cat_mem hn
    obtain ⟨h1, h2, h3, h4⟩ := vs v hv
    rcases List.mem_cons.1 h with rfl | h
    · simp [Vo.nums, toN]; omega
    · unfold Vo.nums at h
      rcases List.mem_append.1 h with h | h
      · simp at h; omega
      · exact toN_lt h4 n h
  · omega
  · obtain ⟨c, hc, h⟩ := cat_mem hn
    obtain ⟨h1, ⟨h2, h3⟩, h4, h5⟩ := cs c hc
    unfold Ck.nums at h
    simp only [List.mem_append] at h
    rcases h with (h | h) | h
    · simp [lst] at h; omega
    · rcases List.mem_cons.1 h with rfl | h
      · simp [toN]; omega
      · exact toN_lt h2 n h
    · rcases List.mem_cons.1 h with rfl | h
      · simp [toN]; omega
      · exact toN_lt h3 n h
theorem bytOk_of {S : Vst} (nx : S.nx < 2 ^ 63) (ls : S.sv.length ≤ 16) (lv : S.vs.length ≤ 64) (lc : S.cs.length ≤ 1000000) (sv : ∀ x ∈ S.sv, x.1 < 2 ^ 63 ∧ x.2 < 2 ^ 63) (vs : ∀ v ∈ S.vs, VoB v) (cs : ∀ c ∈ S.cs, CkB c) (hl : S.bytes.length ≤ 800000) : BytOk S :=
  ⟨nx, by omega, by omega, lc, sv, fun v hv => ⟨(vs v hv).1, (vs v hv).2.1, by have := (vs v hv).2.2.1; omega, (vs v hv).2.2.2⟩, fun c hc => ⟨(cs c hc).1, (cs c hc).2.1.1, (cs c hc).2.1.2⟩, hl⟩
/-- few bytes hold little -/
theorem ldOk_small {b : List Nat} (hb : ∀ c ∈ b, c < 256) (hl : b.length ≤ 200) : LdOk b := by
  intro V r3 C r4 h1 h2 _
  have hx : ∀ c ∈ (ldS b).2.b, c < 256 := ldSv_byte _ _ _ (Rdr.num_byte (Rdr.num_byte (r := ⟨b, 0⟩) hb _) _)
  have hy : (ldS b).2.b.length ≤ b.length := Nat.le_trans (ldSv_len _ _ _) (Nat.le_trans (Rdr.num_len _) (Rdr.num_len (r := ⟨b, 0⟩) _))
  obtain ⟨s1, s2⟩ := ldSv_cost ((ldN b).2.num 16).1 ((ldN b).2.num 16).2 [] (by simp)
  obtain ⟨v1, v2, v3, v4⟩ := ldVo_cost _ _ _ _ _ (by simp) h1
  obtain ⟨c1, c2⟩ := ldCk_cost _ _ _ _ _ (Rdr.num_byte (v4 (Rdr.num_byte hx _)) _) (by simp) h2
  have n1 : ((ldN b).1 : Nat) ≤ maxN := Rdr.num_le _
  unfold maxN at n1
  have n2 : ((ldN b).2.num 16).1 ≤ 16 := Rdr.num_le _
  have n3 : ((ldS b).2.num 64).1 ≤ 64 := Rdr.num_le _
  have n4 := Rdr.num_len (r := (ldS b).2) 64
  have n5 := Rdr.num_len (r := r3) maxN
  have hS : (ldS b).1.length ≤ 16 := by
    have : (ldS b).1.length ≤ [].length + ((ldN b).2.num 16).1 := s1
    simp only [List.length_nil] at this
    omega
  simp only [List.length_nil] at v1 c1
  have hC : C.length ≤ 50 := by omega
  refine bytOk_of (by simp only []; omega) hS (by simp only []; omega) (by simp only []; omega) s2 v2 c2 ?_
  have := bytes_le ⟨(ldS b).1, V, C, ((ldN b).1 : Nat)⟩ 64 50 512 hS (by simp only []; omega) hC (fun v hv => (v2 v hv).2.2.1) 1024 (fun k hk => by have := (c2 k hk).2.2; omega)
    (ser_lt (by simp only []; omega) (by simp only []; omega) (by simp only []; omega) (by simp only []; omega) s2 v2 c2)
  omega
theorem ldOk_ser {S : Vst} (h : SerOk S) (hB : BytOk S) : LdOk S.bytes := by
  intro V r3 C r4 h1 h2 h3
  have e := loadP_ser h
  rw [loadP_some2 h1, ld3_some h2] at e
  split at e
  · injection e with e
    rw [e]; exact hB
  · cases e
/-- what commands leave can be written -/
theorem VOk.byt {S : Vst} {n : Nat} (ok : VOk S n) (h : SerOk S) (hn : n ≤ 60) : BytOk S := by
  obtain ⟨l1, l2, l3, l4⟩ := ok.lens (by omega)
  have e : (maxN : Int) = 4611686018427387904 := rfl
  have hx2 := ok.nx2
  have hC := rise_len (a := 1) (b := S.nx) ok.csr (fun x hx => by have := ok.csa x hx; omega)
  have sv : ∀ x ∈ S.sv, x.1 < 2 ^ 63 ∧ x.2 < 2 ^ 63 := fun x hx => by have := h.sv x hx; omega
  have vs : ∀ v ∈ S.vs, VoB v := fun v hv => by
    obtain ⟨k1, k2, k3, k4, k5⟩ := h.vs v hv
    have k6 := right_iff.1 k2
    exact ⟨by omega, k3, by omega, fun x hx => by have := k5 x hx; omega⟩
  have cs : ∀ c ∈ S.cs, CkB c := fun c hc => by
    obtain ⟨k1, k2, k3, k4, k5⟩ := h.cs c hc
    exact ⟨by omega, ⟨fun x hx => by have := k4 x hx; omega, fun x hx => by have := k5 x hx; omega⟩, k2, k3⟩
  have hnx : S.nx < 2 ^ 63 := by omega
  have hc2 : S.cs.length ≤ 3840 := by omega
  refine bytOk_of hnx l1 l2 (by omega) sv vs cs ?_
  have := bytes_le S 64 3840 64 l1 l2 hc2 (fun v hv => by have := ok.vsa v hv; omega) 4 (fun k hk => by have := ok.csa k hk; omega) (ser_lt hnx (by omega) (by omega) (by omega) sv vs cs)
  omega
end Go.Proofs.YtanfdnpnkdiiiaaGreat
