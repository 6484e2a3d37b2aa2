/- One text of: Byt Bok. -/
import Derived.Test.YtcahcjfgmdpdoaaGreatQPack
import Derived.Test.YtcahcjfgmdpdoaaGreatQVO
namespace Go.Proofs.YtcahcjfgmdpdoaaGreat
open Go.RowKit Go.Proofs Go.Maps
set_option linter.unusedVariables false
set_option linter.unusedSimpArgs false

def maxN : Nat := 4611686018427387904
def Rdr.items (r : Rdr) : Nat → List Nat × Rdr
 |0 => ([], r)
 |k + 1 => if r.e = 0 then ((r.num maxN).1 :: ((r.num maxN).2.items k).1, ((r.num maxN).2.items k).2) else ([], r)
def Rdr.list (r : Rdr) : List Nat × Rdr := (r.num 512).2.items (r.num 512).1
def lst (l : List Nat) : List Nat := l.length :: l
theorem items_enc (t : List Nat) : ∀ l : List Nat, (∀ n ∈ l, n ≤ maxN) → (⟨encs l ++ t, 0⟩ : Rdr).items l.length = (l, ⟨t, 0⟩)
 |[], _ => rfl
 |n :: l, h => by
  have h1 := h n (List.mem_cons_self ..); have h2 : (⟨enc n ++ (encs l ++ t), 0⟩ : Rdr).num maxN = (n, ⟨encs l ++ t, 0⟩) := Rdr.num_enc _ (by unfold maxN at h1; omega) h1; have ih := items_enc t l (fun x hx => h x (List.mem_cons_of_mem _ hx))
  show (⟨encs (n :: l) ++ t, 0⟩ : Rdr).items (l.length + 1) = _
  rw [encs_cons, List.append_assoc]; unfold Rdr.items; rw [if_pos rfl, h2]; simp only [ih]
theorem list_enc (t l : List Nat) (h : ∀ n ∈ l, n ≤ maxN) (hl : l.length ≤ 512) : (⟨encs (lst l) ++ t, 0⟩ : Rdr).list = (l, ⟨t, 0⟩) := by
 unfold Rdr.list lst; rw [encs_cons, List.append_assoc, Rdr.num_enc (most := 512) _ (by omega) hl]
 exact items_enc t l h
theorem items_bad {r : Rdr} (h : r.e ≠ 0) (k : Nat) : r.items k = ([], r) := by
 cases k with
 |zero => rfl
 |succ k => unfold Rdr.items; rw [if_neg h]
theorem items_le (r : Rdr) : ∀ k, (r.items k).1.length ≤ k := by
 intro k
 induction k generalizing r with
 |zero => exact Nat.le_refl _
 |succ k ih =>
  unfold Rdr.items
  split
  ·simp only [List.length_cons]
   have := ih (r.num maxN).2
   omega
  ·simp
theorem list_le (r : Rdr) : r.list.1.length ≤ 512 := Nat.le_trans (items_le _ _) (Rdr.num_le _)
theorem items_mem (r : Rdr) (k : Nat) : ∀ n ∈ (r.items k).1, n ≤ maxN := by
 induction k generalizing r with
 |zero => intro n hn; cases hn
 |succ k ih =>
  unfold Rdr.items
  split
  ·intro n hn
   rcases List.mem_cons.1 hn with rfl | hn
   ·exact Rdr.num_le _
   ·exact ih _ n hn
  ·intro n hn; cases hn
theorem list_mem (r : Rdr) : ∀ n ∈ r.list.1, n ≤ maxN := items_mem _ _
theorem items_len (r : Rdr) (k : Nat) : (r.items k).2.b.length ≤ r.b.length := by
 induction k generalizing r with
 |zero => exact Nat.le_refl _
 |succ k ih =>
  unfold Rdr.items
  split
  ·exact Nat.le_trans (ih _) (Rdr.num_len _)
  ·exact Nat.le_refl _
theorem list_len (r : Rdr) : r.list.2.b.length ≤ r.b.length := Nat.le_trans (items_len _ _) (Rdr.num_len _)
theorem num_less {r : Rdr} (most : Nat) (h : (r.num most).2.e = 0) (hb : ∀ c ∈ r.b, c < 256) : (r.num most).2.b.length < r.b.length := by
 obtain ⟨v, r', hv⟩ : ∃ v r', r.num most = (v, r') := ⟨_, _, rfl⟩; rw [hv] at h ⊢; obtain ⟨h0, h1, _, _⟩ := Rdr.num_ok hb hv h; simp only []; rw [h1, List.length_append]; have := enc_pos v
 omega
theorem items_e {r : Rdr} (k : Nat) (h : (r.items k).2.e = 0) : r.e = 0 := by
 cases k with
 |zero => exact h
 |succ k =>
  unfold Rdr.items at h
  split at h
  ·assumption
  ·exact h
theorem list_less {r : Rdr} (h : r.list.2.e = 0) (hb : ∀ c ∈ r.b, c < 256) : r.list.2.b.length < r.b.length := by
 have h1 := items_e _ h; have h2 := num_less 512 h1 hb; have := items_len (r.num 512).2 (r.num 512).1; unfold Rdr.list
 omega

def toI (l : List Nat) : List Int := l.map fun n : Nat => (n : Int)
def toN (l : List Int) : List Nat := l.map Int.toNat
theorem toI_toN {l : List Int} (h : ∀ x ∈ l, 0 ≤ x) : toI (toN l) = l := by
 unfold toI toN; rw [List.map_map]
 conv => rhs; rw [← List.map_id l]
 apply List.map_congr_left
 intro x hx
 have := h x hx; simp only [Function.comp, id]
 omega
theorem toN_le {l : List Int} (h : ∀ x ∈ l, x ≤ maxN) : ∀ n ∈ toN l, n ≤ maxN := by
 intro n hn
 obtain ⟨x, hx, rfl⟩ := List.mem_map.1 hn; have := h x hx
 omega
def Vo.nums (v : Vo) : List Nat := [v.id.toNat, v.bl.toNat, v.ver.toNat, v.p.r.toNat, v.p.w.toNat, v.p.l.toNat, v.p.b.toNat] ++ toN v.ch
def Ck.nums (c : Ck) : List Nat := lst [c.id.toNat, c.vol.toNat, c.ep.toNat] ++ lst (toN c.me) ++ lst (toN c.jo)
def svNums (x : Int × Int) : List Nat := lst [x.1.toNat, x.2.toNat]
def cat {α : Type} (f : α → List Nat) : List α → List Nat
 |[] => []
 |x :: t => f x ++ cat f t
theorem cat_app {α : Type} (f : α → List Nat) (a b : List α) : cat f (a ++ b) = cat f a ++ cat f b := by
 induction a with
 |nil => rfl
 |cons x t ih => simp only [List.cons_append, cat, ih, List.append_assoc]
theorem cat_snoc {α : Type} (f : α → List Nat) (L : List α) (k : Nat) (h : k < L.length) : cat f (L.take (k + 1)) = cat f (L.take k) ++ f L[k] := by
 rw [List.take_succ_eq_append_getElem h, cat_app]
 simp [cat]
def Vst.ser (S : Vst) : List Nat := [S.nx.toNat, S.sv.length] ++ cat svNums S.sv ++ [S.vs.length] ++ cat (fun v => lst (Vo.nums v)) S.vs ++ [S.cs.length] ++ cat Ck.nums S.cs
def Vst.bytes (S : Vst) : List Nat := encs S.ser

def ldSv (r : Rdr) (L : List (Int × Int)) : Nat → List (Int × Int) × Rdr
 |0 => (L, r)
 |k + 1 => ldSv r.list.2 (match r.list.1 with | [a, b] => ins Prod.fst ((a : Int), (b : Int)) L | _ => L) k
def voOf (l : List Nat) : Option Vo :=
 match l with
 |a :: b :: c :: p1 :: p2 :: p3 :: p4 :: h :: t => if right (p1 : Int) p2 p3 p4 then some ⟨a, b, ⟨p1, p2, p3, p4⟩, c, toI (h :: t)⟩ else none
 |_ => none
def ldVo (r : Rdr) (L : List Vo) : Nat → Option (List Vo × Rdr)
 |0 => some (L, r)
 |k + 1 => match voOf r.list.1 with
  |none => none
  |some v => ldVo r.list.2 (ins Vo.id v L) k
def ldCk (r : Rdr) (L : List Ck) : Nat → Option (List Ck × Rdr)
 |0 => some (L, r)
 |k + 1 => if r.list.2.e = 0 then
   match r.list.1 with
   |[a, b, c] => ldCk r.list.2.list.2.list.2 (ins Ck.id ⟨a, b, c, toI r.list.2.list.1, toI r.list.2.list.2.list.1⟩ L) k
   |_ => none
  else none
def ld3 (b : List Nat) (nx : Nat) (sv : List (Int × Int)) (V : List Vo) (r : Rdr) : Option Vst :=
 match ldCk (r.num maxN).2 [] (r.num maxN).1 with
 |none => none
 |some (C, r4) => if r4.fin = 0 ∧ (⟨sv, V, C, nx⟩ : Vst).bytes = b then some ⟨sv, V, C, nx⟩ else none
def ld2 (b : List Nat) (nx : Nat) (sv : List (Int × Int)) (r : Rdr) : Option Vst :=
 match ldVo (r.num 64).2 [] (r.num 64).1 with
 |none => none
 |some (V, r3) => ld3 b nx sv V r3
def ld1 (b : List Nat) (nx : Nat) (r : Rdr) : Option Vst := ld2 b nx (ldSv (r.num 16).2 [] (r.num 16).1).1 (ldSv (r.num 16).2 [] (r.num 16).1).2
def loadP (b : List Nat) : Option Vst := ld1 b ((⟨b, 0⟩ : Rdr).num maxN).1 ((⟨b, 0⟩ : Rdr).num maxN).2

structure SerOk (S : Vst) : Prop where
 svr : Rise Prod.fst S.sv
 vsr : Rise Vo.id S.vs
 csr : Rise Ck.id S.cs
 nx : 0 ≤ S.nx ∧ S.nx ≤ maxN
 ls : S.sv.length ≤ 16
 lv : S.vs.length ≤ 64
 lc : S.cs.length ≤ maxN
 sv : ∀ x ∈ S.sv, 0 ≤ x.1 ∧ x.1 ≤ maxN ∧ 0 ≤ x.2 ∧ x.2 ≤ maxN
 vs : ∀ v ∈ S.vs, (0 ≤ v.id ∧ v.id ≤ maxN ∧ 0 ≤ v.bl ∧ v.bl ≤ maxN ∧ 0 ≤ v.ver ∧ v.ver ≤ maxN) ∧ v.p.ok = true ∧ v.ch ≠ [] ∧ v.ch.length ≤ 500 ∧ ∀ x ∈ v.ch, 0 ≤ x ∧ x ≤ maxN
 cs : ∀ c ∈ S.cs, (0 ≤ c.id ∧ c.id ≤ maxN ∧ 0 ≤ c.vol ∧ c.vol ≤ maxN ∧ 0 ≤ c.ep ∧ c.ep ≤ maxN) ∧ c.me.length ≤ 512 ∧ c.jo.length ≤ 512 ∧ (∀ x ∈ c.me, 0 ≤ x ∧ x ≤ maxN) ∧ ∀ x ∈ c.jo, 0 ≤ x ∧ x ≤ maxN
theorem rise_snoc {α : Type} {key : α → Int} {L1 : List α} {x : α} {L2 : List α} (h : Rise key (L1 ++ x :: L2)) : ins key x L1 = L1 ++ [x] := by
 have h2 := (List.pairwise_append.1 h).2.2; clear h
 induction L1 with
 |nil => rfl
 |cons y t ih =>
  have h3 := h2 y (List.mem_cons_self ..) x (List.mem_cons_self ..); unfold ins; rw [if_pos h3, ih (fun a ha => h2 a (List.mem_cons_of_mem _ ha))]
  rfl
theorem ldSv_enc (t : List Nat) : ∀ (L2 L1 : List (Int × Int)), Rise Prod.fst (L1 ++ L2) → (∀ x ∈ L2, 0 ≤ x.1 ∧ x.1 ≤ maxN ∧ 0 ≤ x.2 ∧ x.2 ≤ maxN) → ldSv ⟨encs (cat svNums L2) ++ t, 0⟩ L1 L2.length = (L1 ++ L2, ⟨t, 0⟩)
 |[], L1, _, _ => by simp [ldSv, cat, encs]
 |x :: L2, L1, hr, h => by
  have hx := h x (List.mem_cons_self ..)
  have h1 : (⟨encs (cat svNums (x :: L2)) ++ t, 0⟩ : Rdr).list = ([x.1.toNat, x.2.toNat], ⟨encs (cat svNums L2) ++ t, 0⟩) := by
   show (⟨encs (lst [x.1.toNat, x.2.toNat] ++ cat svNums L2) ++ t, 0⟩ : Rdr).list = _
   rw [encs_app, List.append_assoc]
   exact list_enc _ _ (fun n hn => by simp at hn; omega) (by simp)
  show ldSv _ L1 (L2.length + 1) = _
  unfold ldSv; rw [h1]; simp only []; have e : (((x.1.toNat : Nat) : Int), ((x.2.toNat : Nat) : Int)) = x := Prod.ext (by simp only []; omega) (by simp only []; omega); rw [e, rise_snoc hr, ldSv_enc t L2 (L1 ++ [x]) (by rw [List.append_assoc]; exact hr) (fun y hy => h y (List.mem_cons_of_mem _ hy))]
  simp
theorem voOf_nums {v : Vo} (h : (0 ≤ v.id ∧ v.id ≤ maxN ∧ 0 ≤ v.bl ∧ v.bl ≤ maxN ∧ 0 ≤ v.ver ∧ v.ver ≤ maxN) ∧ v.p.ok = true ∧ v.ch ≠ [] ∧ v.ch.length ≤ 500 ∧ ∀ x ∈ v.ch, 0 ≤ x ∧ x ≤ maxN) : voOf v.nums = some v := by
 obtain ⟨⟨a1, a2, a3, a4, a5, a6⟩, hp, hn, hl, hc⟩ := h; obtain ⟨id, bl, ⟨r, w, l, b⟩, ver, ch⟩ := v; simp only [] at a1 a2 a3 a4 a5 a6 hp hn hl hc; have hq := right_iff.1 hp; simp only [] at hq
 cases ch with
 |nil => exact absurd rfl hn
 |cons k t =>
  have hk := toI_toN (l := k :: t) (fun x hx => (hc x hx).1); unfold toN at hk; simp only [List.map_cons] at hk; unfold Vo.nums voOf toN; simp only [List.map_cons, List.cons_append, List.nil_append]
  have e1 : ((r.toNat : Nat) : Int) = r := by omega
  have e2 : ((w.toNat : Nat) : Int) = w := by omega
  have e3 : ((l.toNat : Nat) : Int) = l := by omega
  have e4 : ((b.toNat : Nat) : Int) = b := by omega
  have e5 : ((id.toNat : Nat) : Int) = id := by omega
  have e6 : ((bl.toNat : Nat) : Int) = bl := by omega
  have e7 : ((ver.toNat : Nat) : Int) = ver := by omega
  rw [e1, e2, e3, e4, e5, e6, e7, hk, if_pos (show right r w l b = true from hp)]
theorem Vo.nums_le {v : Vo} (h : (0 ≤ v.id ∧ v.id ≤ maxN ∧ 0 ≤ v.bl ∧ v.bl ≤ maxN ∧ 0 ≤ v.ver ∧ v.ver ≤ maxN) ∧ v.p.ok = true ∧ v.ch ≠ [] ∧ v.ch.length ≤ 500 ∧ ∀ x ∈ v.ch, 0 ≤ x ∧ x ≤ maxN) : (∀ n ∈ v.nums, n ≤ maxN) ∧ v.nums.length ≤ 512 := by
 obtain ⟨⟨a1, a2, a3, a4, a5, a6⟩, hp, hn, hl, hc⟩ := h; have hq := right_iff.1 hp
 refine ⟨fun n hn => ?_, by simp [Vo.nums, toN]; omega⟩
 unfold Vo.nums at hn
 rcases List.mem_append.1 hn with hn | hn
 ·simp only [List.mem_cons, List.mem_nil_iff, or_false] at hn
  have e : maxN = 4611686018427387904 := rfl
  rcases hn with rfl | rfl | rfl | rfl | rfl | rfl | rfl <;> omega
 ·exact toN_le (fun x hx => (hc x hx).2) n hn
theorem ldVo_enc (t : List Nat) : ∀ (L2 L1 : List Vo), Rise Vo.id (L1 ++ L2) → (∀ v ∈ L2, (0 ≤ v.id ∧ v.id ≤ maxN ∧ 0 ≤ v.bl ∧ v.bl ≤ maxN ∧ 0 ≤ v.ver ∧ v.ver ≤ maxN) ∧ v.p.ok = true ∧ v.ch ≠ [] ∧ v.ch.length ≤ 500 ∧ ∀ x ∈ v.ch, 0 ≤ x ∧ x ≤ maxN) →
  ldVo ⟨encs (cat (fun v => lst (Vo.nums v)) L2) ++ t, 0⟩ L1 L2.length = some (L1 ++ L2, ⟨t, 0⟩)
 |[], L1, _, _ => by simp [ldVo, cat, encs]
 |x :: L2, L1, hr, h => by
  have hx := h x (List.mem_cons_self ..); have hl := Vo.nums_le hx
  have h1 : (⟨encs (cat (fun v => lst (Vo.nums v)) (x :: L2)) ++ t, 0⟩ : Rdr).list = (x.nums, ⟨encs (cat (fun v => lst (Vo.nums v)) L2) ++ t, 0⟩) := by
   show (⟨encs (lst x.nums ++ cat (fun v => lst (Vo.nums v)) L2) ++ t, 0⟩ : Rdr).list = _
   rw [encs_app, List.append_assoc]
   exact list_enc _ _ hl.1 hl.2
  show ldVo _ L1 (L2.length + 1) = _
  unfold ldVo; rw [h1]; simp only [voOf_nums hx]; rw [rise_snoc hr, ldVo_enc t L2 (L1 ++ [x]) (by rw [List.append_assoc]; exact hr) (fun y hy => h y (List.mem_cons_of_mem _ hy))]
  simp
theorem ldCk_enc (t : List Nat) : ∀ (L2 L1 : List Ck), Rise Ck.id (L1 ++ L2) → (∀ c ∈ L2, (0 ≤ c.id ∧ c.id ≤ maxN ∧ 0 ≤ c.vol ∧ c.vol ≤ maxN ∧ 0 ≤ c.ep ∧ c.ep ≤ maxN) ∧ c.me.length ≤ 512 ∧ c.jo.length ≤ 512 ∧ (∀ x ∈ c.me, 0 ≤ x ∧ x ≤ maxN) ∧ ∀ x ∈ c.jo, 0 ≤ x ∧ x ≤ maxN) →
  ldCk ⟨encs (cat Ck.nums L2) ++ t, 0⟩ L1 L2.length = some (L1 ++ L2, ⟨t, 0⟩)
 |[], L1, _, _ => by simp [ldCk, cat, encs]
 |x :: L2, L1, hr, h => by
  obtain ⟨⟨a1, a2, a3, a4, a5, a6⟩, b1, b2, b3, b4⟩ := h x (List.mem_cons_self ..)
  have h1 : (⟨encs (cat Ck.nums (x :: L2)) ++ t, 0⟩ : Rdr).list = ([x.id.toNat, x.vol.toNat, x.ep.toNat], ⟨encs (lst (toN x.me)) ++ (encs (lst (toN x.jo)) ++ (encs (cat Ck.nums L2) ++ t)), 0⟩) := by
   show (⟨encs (lst [x.id.toNat, x.vol.toNat, x.ep.toNat] ++ lst (toN x.me) ++ lst (toN x.jo) ++ cat Ck.nums L2) ++ t, 0⟩ : Rdr).list = _
   rw [encs_app, encs_app, encs_app, List.append_assoc, List.append_assoc, List.append_assoc]
   exact list_enc _ _ (fun n hn => by simp at hn; omega) (by simp)
  have h2 := list_enc (encs (lst (toN x.jo)) ++ (encs (cat Ck.nums L2) ++ t)) (toN x.me) (toN_le fun y hy => (b3 y hy).2) (by simpa [toN] using b1); have h3 := list_enc (encs (cat Ck.nums L2) ++ t) (toN x.jo) (toN_le fun y hy => (b4 y hy).2) (by simpa [toN] using b2)
  show ldCk _ L1 (L2.length + 1) = _
  unfold ldCk; rw [h1]; simp only [h2, h3, if_true]; rw [toI_toN (fun y hy => (b3 y hy).1), toI_toN (fun y hy => (b4 y hy).1)]
  have e : (⟨((x.id.toNat : Nat) : Int), ((x.vol.toNat : Nat) : Int), ((x.ep.toNat : Nat) : Int), x.me, x.jo⟩ : Ck) = x := by
   obtain ⟨i, v, e, m, j⟩ := x; simp only [] at a1 a2 a3 a4 a5 a6 ⊢; rw [show ((i.toNat : Nat) : Int) = i by omega, show ((v.toNat : Nat) : Int) = v by omega, show ((e.toNat : Nat) : Int) = e by omega]
  rw [e, rise_snoc hr, ldCk_enc t L2 (L1 ++ [x]) (by rw [List.append_assoc]; exact hr) (fun y hy => h y (List.mem_cons_of_mem _ hy))]
  simp
theorem loadP_ser {S : Vst} (h : SerOk S) : loadP S.bytes = some S := by
 have e : maxN = 4611686018427387904 := rfl; obtain ⟨n1, n2⟩ := h.nx; have hlv := h.lv; have hls := h.ls; have hlc := h.lc
 have s0 : S.bytes = enc S.nx.toNat ++ (enc S.sv.length ++ (encs (cat svNums S.sv) ++ (enc S.vs.length ++ (encs (cat (fun v => lst (Vo.nums v)) S.vs) ++ (enc S.cs.length ++ (encs (cat Ck.nums S.cs) ++ [])))))) := by
  unfold Vst.bytes Vst.ser; simp only [List.cons_append, List.nil_append, encs_cons, encs_app, List.append_assoc, List.append_nil, show encs [] = [] from rfl]
 have s1 := Rdr.num_enc (n := S.nx.toNat) (most := maxN) (enc S.sv.length ++ (encs (cat svNums S.sv) ++ (enc S.vs.length ++ (encs (cat (fun v => lst (Vo.nums v)) S.vs) ++ (enc S.cs.length ++ (encs (cat Ck.nums S.cs) ++ [])))))) (by omega) (by omega); have s2 := Rdr.num_enc (n := S.sv.length) (most := 16) (encs (cat svNums S.sv) ++ (enc S.vs.length ++ (encs (cat (fun v => lst (Vo.nums v)) S.vs) ++ (enc S.cs.length ++ (encs (cat Ck.nums S.cs) ++ []))))) (by omega) hls; have s3 := ldSv_enc (enc S.vs.length ++ (encs (cat (fun v => lst (Vo.nums v)) S.vs) ++ (enc S.cs.length ++ (encs (cat Ck.nums S.cs) ++ [])))) S.sv [] h.svr h.sv; have s4 := Rdr.num_enc (n := S.vs.length) (most := 64) (encs (cat (fun v => lst (Vo.nums v)) S.vs) ++ (enc S.cs.length ++ (encs (cat Ck.nums S.cs) ++ []))) (by omega) hlv; have s5 := ldVo_enc (enc S.cs.length ++ (encs (cat Ck.nums S.cs) ++ [])) S.vs [] h.vsr h.vs; have s6 := Rdr.num_enc (n := S.cs.length) (most := maxN) (encs (cat Ck.nums S.cs) ++ []) (by omega) hlc; have s7 := ldCk_enc [] S.cs [] h.csr h.cs; have hb : ∃ b, S.bytes = b := ⟨_, rfl⟩; obtain ⟨b, hb⟩ := hb; rw [hb]; unfold loadP; rw [← hb, s0, s1]; unfold ld1; simp only [s2, s3]; unfold ld2; simp only [s4, s5, List.nil_append]; unfold ld3; simp only [s6, s7, List.nil_append]; rw [if_pos]
 ·rw [show ((S.nx.toNat : Nat) : Int) = S.nx by omega]
 ·refine ⟨by simp [Rdr.fin], ?_⟩
  rw [← s0, show ((S.nx.toNat : Nat) : Int) = S.nx by omega]

def memOk (c : Ck) : Prop := ∀ s ∈ c.me ++ c.jo, 0 ≤ s ∧ s ≤ 15
structure VBy (S : Vst) : Prop where
 pol : ∀ v ∈ S.vs, v.p.ok = true
 mem : ∀ c ∈ S.cs, memOk c
theorem VBy.start : VBy ⟨[], [], [], 1⟩ := ⟨(fun v hv => by cases hv), (fun v hv => by cases hv)⟩
theorem VBy.grow {S : Vst} {v : Vo} {cp : Int} (hp : v.p.ok = true) (h1 : ∀ v ∈ S.vs, v.p.ok = true) (sva : ∀ x ∈ S.sv, 0 ≤ x.1 ∧ x.1 ≤ 15 ∧ 1 ≤ x.2 ∧ x.2 ≤ 64) (vsr : Rise Vo.id S.vs) (csr : Rise Ck.id S.cs)
  (hlt : ∀ c ∈ S.cs, c.id < S.nx) (h2 : ∀ c ∈ S.cs, memOk c) : VBy (S.grow v cp) := by
 have hg := growN_all (P := memOk) (S := S) (id := v.id) (cp := cp) (lack v.bl v.ch) v.ch csr hlt h2 (fun X hX _ _ s hs => by
  simp only [List.append_nil] at hs; have h3 := chosen_sub hs; rw [loads_ids, hX] at h3; obtain ⟨x, hx, rfl⟩ := List.mem_map.1 h3; have := sva x hx
  omega)
 have hs := growN_sv (lack v.bl v.ch) S v.id v.ch cp; unfold Vst.grow
 refine ⟨fun u hu => ?_, hg.2.2.1⟩
 simp only [] at hu; rw [hs.2.1] at hu
 rcases (mem_ins vsr).1 hu with rfl | ⟨hu, _⟩
 ·exact hp
 ·exact h1 u hu
theorem VBy.turn {S : Vst} {k : Ck} (h : VBy S) (csr : Rise Ck.id S.cs) (hk : memOk k) : VBy (S.turn k) := by
 unfold Vst.turn
 refine ⟨h.pol, fun c hc => ?_⟩
 rcases (mem_ins csr).1 hc with rfl | ⟨hc, _⟩
 ·exact hk
 ·exact h.mem c hc
theorem wout_sub {l : List Int} {s x : Int} (h : x ∈ wout l s) : x ∈ l := by unfold wout at h; exact (List.mem_filter.1 h).1
theorem VBy.act {S : Vst} {n : Nat} (h : VBy S) (ok : VOk S n) (q : Cmd) : VBy (S.act q).1 := by
 have hlt : ∀ c ∈ S.cs, c.id < S.nx := fun c hc => (ok.csa c hc).2.1
 unfold Vst.act
 split
 ·unfold Vst.server
  split
  ·exact ⟨h.pol, h.mem⟩
  ·exact h
 split
 ·unfold Vst.create
  split
  ·rename_i hq
   split
   ·exact h
   ·split
    ·exact h
    ·exact VBy.grow hq.2.2.2.2.2.2 h.pol ok.sva ok.vsr ok.csr hlt h.mem
  ·exact h
 split
 ·unfold Vst.remove
  split
  ·exact h
  ·exact ⟨fun v hv => h.pol v (mem_out.1 hv).1, fun c hc => h.mem c (mem_outs.1 hc).1⟩
 split
 ·unfold Vst.resize
  split
  ·split
   ·exact h
   ·rename_i v hv
    exact VBy.grow (h.pol v (fd_some hv).1) h.pol ok.sva ok.vsr (outs_rise ok.csr) (fun c hc => hlt c (mem_outs.1 hc).1) (fun c hc => h.mem c (mem_outs.1 hc).1)
  ·exact h
 split
 ·unfold Vst.policy
  split
  ·rename_i hp
   split
   ·exact h
   ·rename_i v hv
    refine ⟨fun u hu => ?_, h.mem⟩
    rcases (mem_ins ok.vsr).1 hu with rfl | ⟨hu, _⟩
    ·exact hp
    ·exact h.pol u hu
  ·exact h
 split
 ·unfold Vst.drop
  split
  ·exact h
  ·rename_i k hk
   have hk1 := h.mem k (fd_some (at_ok hk).1).1
   split
   ·exact h
   ·split
    ·exact h
    ·refine h.turn ok.csr (fun s hs => hk1 s ?_)
     rcases List.mem_append.1 hs with hs | hs
     ·exact List.mem_append.2 (Or.inl (wout_sub hs))
     ·exact List.mem_append.2 (Or.inr (wout_sub hs))
 split
 ·unfold Vst.join
  split
  ·exact h
  ·rename_i hsv
   split
   ·exact h
   ·rename_i k hk
    have hk1 := h.mem k (fd_some (at_ok hk).1).1
    split
    ·exact h
    ·split
     ·exact h
     ·refine h.turn ok.csr (fun s hs => ?_)
      simp only [List.mem_append, List.mem_singleton] at hs
      rcases hs with hs | hs | hs
      ·exact hk1 s (List.mem_append.2 (Or.inl hs))
      ·exact hk1 s (List.mem_append.2 (Or.inr hs))
      ·have h5 : (fd Prod.fst S.sv q.c).isSome = true := by cases hf : fd Prod.fst S.sv q.c with | none => rw [hf] at hsv; simp at hsv | some x => rfl
       obtain ⟨x, hx⟩ := Option.isSome_iff_exists.1 h5; have := ok.sva x (fd_some hx).1; have e := (fd_some hx).2; rw [hs]
       omega
 split
 ·unfold Vst.promote
  split
  ·exact h
  ·rename_i k hk
   have hk1 := h.mem k (fd_some (at_ok hk).1).1
   split
   ·exact h
   ·rename_i hc
    have hc2 : q.c ∈ k.jo := by
     have : k.jo.contains q.c = true := by simpa using hc
     exact List.contains_iff_mem.1 this
    refine h.turn ok.csr (fun s hs => ?_)
    simp only [List.mem_append, List.mem_singleton] at hs
    rcases hs with (hs | hs) | hs
    ·exact hk1 s (List.mem_append.2 (Or.inl hs))
    ·rw [hs]; exact hk1 _ (List.mem_append.2 (Or.inr hc2))
    ·exact hk1 s (List.mem_append.2 (Or.inr (wout_sub hs)))
 ·exact h
theorem VBy.apply {S : Vst} {n : Nat} (h : VBy S) (ok : VOk S n) (q : Cmd) : VBy (S.apply q).1 := by
 unfold Vst.apply; simp only []
 split
 ·split
  ·exact h.act ok q
  ·exact h
 ·exact h
theorem VBy.ser {S : Vst} {n : Nat} (h : VBy S) (ok : VOk S n) (hi : VIn S) (hn : n ≤ 1001) : SerOk S := by
 have e : maxN = 4611686018427387904 := rfl; have hl := ok.lens hn; have h1 := ok.nx1
 refine ⟨ok.svr, ok.vsr, ok.csr, by omega, hl.1, hl.2.1, by omega, fun x hx => by have := ok.sva x hx; omega, fun v hv => ?_, fun c hc => ?_⟩
 ·have hv1 := ok.vsa v hv
  refine ⟨by omega, h.pol v hv, fun hx => ?_, by omega, fun k hk => ?_⟩
  ·rw [hx] at hv1; simp only [List.length_nil] at hv1; omega
  ·obtain ⟨c, hc, e1, _⟩ := hi.vc v hv k hk
   have := ok.csa c hc
   omega
 ·have hc1 := ok.csa c hc
  obtain ⟨v, hv, e1, _⟩ := hi.cv c hc; have hv1 := ok.vsa v hv; have hm := h.mem c hc
  refine ⟨by omega, by omega, by omega, fun x hx => ?_, fun x hx => ?_⟩
  ·have := hm x (List.mem_append.2 (Or.inl hx)); omega
  ·have := hm x (List.mem_append.2 (Or.inr hx)); omega
end Go.Proofs.YtcahcjfgmdpdoaaGreat
