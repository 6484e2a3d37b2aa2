/- One text of: Dev Bas. -/
import Derived.Deep.QuietTactic
import Derived.BigQuiet
import Derived.Deep.CutRange
import Derived.Deep.CutBlock
import Derived.WalkArith
import Derived.Deep.AppendLies
import Derived.Deep.AppendSrc
import Derived.Deep.Upon
import Derived.Test.YtcahcjfgmdpdoaaGreatQPack
import Derived.Test.YtcahcjfgmdpdoaaGreatQBask
import Derived.Test.YtcahcjfgmdpdoaaGreatQRG
namespace Go.Proofs.YtcahcjfgmdpdoaaGreat
set_option linter.unusedVariables false
set_option linter.unusedSimpArgs false

structure Wr where
 i : Nat
 was : List Nat
 now : List Nat
structure Dev where
 l : List (List Nat)
 waits : List Wr
 fuse : Int
 off : Bool
def Dev.burn (D : Dev) : Bool × Dev :=
 if D.off then (true, D) else if D.fuse = 0 then (true, { D with off := true }) else if 0 < D.fuse then (false, { D with fuse := D.fuse - 1 }) else (false, D)
def Dev.write (D : Dev) (i : Int) (b : List Nat) : Nat × Dev :=
 let r := D.burn
 if r.1 then (16, r.2) else if i < 0 ∨ (D.l.length : Int) ≤ i ∨ b.length ≠ 64 then (1, r.2)
 else (0, { r.2 with waits := D.waits ++ [⟨i.toNat, D.l.getD i.toNat [], b⟩], l := D.l.set i.toNat b })
def Dev.flush (D : Dev) : Nat × Dev := let r := D.burn; if r.1 then (16, r.2) else (0, { r.2 with waits := [] })
def Dev.read (D : Dev) (i : Int) : Nat × List Nat := if D.off then (17, []) else if i < 0 ∨ (D.l.length : Int) ≤ i then (1, []) else (0, D.l.getD i.toNat [])
def Dev.new (n : Nat) : Dev := ⟨List.replicate n (List.replicate 64 0), [], -1, false⟩
structure DevOk (D : Dev) : Prop where
 l : ∀ s ∈ D.l, s.length = 64 ∧ ∀ c ∈ s, c < 256
 w : ∀ x ∈ D.waits, x.i < D.l.length ∧ x.was.length = 64 ∧ x.now.length = 64 ∧ (∀ c ∈ x.was, c < 256) ∧ ∀ c ∈ x.now, c < 256

def crcB (x : Nat) : Nat := if x % 2 = 1 then (x / 2) ^^^ 0xedb88320 else x / 2
def crcT (c : Nat) : Nat := crcB (crcB (crcB (crcB (crcB (crcB (crcB (crcB c)))))))
def crcS (x c : Nat) : Nat := (x / 256) ^^^ crcT ((x % 256) ^^^ c)
def crcL (x : Nat) (l : List Nat) : Nat := l.foldl crcS x
def crc (l : List Nat) : Nat := 4294967295 - crcL 4294967295 l
def crcTail (x : Nat) : List Nat := [x % 256, x / 256 % 256, x / 65536 % 256, x / 16777216 % 256]
def seal_ (l : List Nat) : List Nat := l ++ crcTail (crc l)
def opened (l : List Nat) : Option (List Nat) := if 4 ≤ l.length ∧ seal_ (l.take (l.length - 4)) = l then some (l.take (l.length - 4)) else none
theorem seal_len (l : List Nat) : (seal_ l).length = l.length + 4 := by simp [seal_, crcTail]
def encT (b : List Nat) : List Nat := enc b.length ++ b
def Rdr.text (r : Rdr) (most : Nat) : List Nat × Rdr :=
 let q := r.num most
 if q.2.e ≠ 0 then ([], q.2) else if q.2.b.length < q.1 then ([], ⟨q.2.b, 2⟩) else (q.2.b.take q.1, ⟨q.2.b.drop q.1, 0⟩)

def jsize (k : Nat) : Nat := (k + 3 + 63) / 64
def jbody (gen n : Nat) (b : List Nat) : List Nat := seal_ (enc gen ++ enc n ++ encT b)
def jform (gen n : Nat) (b : List Nat) : Nat × List Nat :=
 if 1099511627776 < gen ∨ 1099511627776 < n then (5, []) else
 let rest := jbody gen n b
 let size := jsize rest.length
 if 16 < size then (15, []) else (0, 1 :: (rest.length % 256) :: (rest.length / 256 % 256) :: (rest ++ List.replicate (size * 64 - 3 - rest.length) 0))
def jread (b : List Nat) (gen n : Nat) : Option (List Nat × Nat) :=
 if b.length < 3 ∨ b.getD 0 0 ≠ 1 then none else
 let long := b.getD 1 0 + b.getD 2 0 * 256
 let size := jsize long
 if 16 < size ∨ b.length < size * 64 then none else
 match opened ((b.drop 3).take long) with
 |none => none
 |some rest =>
  if ((b.take (size * 64)).drop (3 + long)).any (fun c => c != 0) then none else
  let r0 : Rdr := ⟨rest, 0⟩
  let r1 := r0.num 1099511627776
  let r2 := r1.2.num 1099511627776
  let r3 := r2.2.text rest.length
  if r3.2.fin = 0 ∧ r1.1 = gen ∧ r2.1 = n then some (r3.1, size) else none
def jscanF (b : List Nat) (gen : Nat) : Nat → List (List Nat) → Nat → List (List Nat) × Nat
 |0, out, used => (out, used)
 |f + 1, out, used => match jread (b.drop (used * 64)) gen out.length with
  |none => (out, used)
  |some (t, s) => jscanF b gen f (out ++ [t]) (used + s)

abbrev zero64 : List Nat := List.replicate 64 0
def Dev.bytes (D : Dev) (from_ many : Nat) : Nat × List Nat := if D.off = true ∧ 0 < many then (17, []) else (0, ((D.l.drop from_).take many).flatten)
def jscan (D : Dev) (from_ many gen : Nat) : Nat × List (List Nat) × Nat :=
 if D.l.length < from_ + many ∨ 1099511627776 < gen then (1, [], 0) else
 let r := D.bytes from_ many
 if r.1 ≠ 0 then (r.1, [], 0) else (0, jscanF r.2 gen (many + 1) [] 0)
def wipeF : List (List Nat) → Dev → Nat → Bool → Nat × Bool × Dev
 |[], D, _, any => (0, any, D)
 |s :: t, D, i, any => if s = zero64 then wipeF t D (i + 1) any else let r := D.write i zero64; if r.1 ≠ 0 then (r.1, true, r.2) else wipeF t r.2 (i + 1) true
def jsweep (D : Dev) (from_ many : Nat) : Nat × Dev :=
 if D.off = true ∧ 0 < many then (17, D) else
 let r := wipeF ((D.l.drop from_).take many) D from_ false
 if r.1 ≠ 0 then (r.1, r.2.2) else if r.2.1 then r.2.2.flush else (0, r.2.2)
structure Jrn where
 from_ : Nat
 many : Nat
 gen : Nat
 used : Nat
 n : Nat
 waits : List (Nat × List Nat)
 gone : Bool
def jopen (D : Dev) (from_ many gen : Nat) : Nat × Jrn × List (List Nat) × Dev :=
 let s := jscan D from_ many gen
 let no : Jrn := ⟨0, 0, 0, 0, 0, [], false⟩
 if s.1 ≠ 0 then (s.1, no, [], D) else
 let r := jsweep D (from_ + s.2.2) (many - s.2.2)
 if r.1 ≠ 0 then (r.1, no, [], r.2) else (0, ⟨from_, many, gen, s.2.2, s.2.1.length, [], false⟩, s.2.1, r.2)
def laysF : Nat → Dev → Nat → List Nat → Nat × Dev
 |0, D, _, _ => (0, D)
 |k + 1, D, i, b => let r := D.write i (b.take 64); if r.1 ≠ 0 then (r.1, r.2) else laysF k r.2 (i + 1) (b.drop 64)
def Jrn.add (J : Jrn) (D : Dev) (b : List Nat) : Nat × Jrn × Dev :=
 if J.gone then (16, J, D) else
 let f := jform J.gen J.n b
 if f.1 ≠ 0 then (f.1, J, D) else
 let size := f.2.length / 64
 if J.many < J.used + size then (6, J, D) else
 let r := laysF size D (J.from_ + J.used) (f.2.set 0 0)
 if r.1 ≠ 0 then (r.1, { J with gone := true }, r.2) else (0, { J with waits := J.waits ++ [(J.from_ + J.used, f.2.take 64)], used := J.used + size, n := J.n + 1 }, r.2)
def beginsF : List (Nat × List Nat) → Dev → Nat → Nat × Dev
 |[], D, e => (e, D)
 |(i, b) :: t, D, e => if e = 0 then let r := D.write i b; beginsF t r.2 r.1 else beginsF t D e
def Jrn.flush (J : Jrn) (D : Dev) : Nat × Jrn × Dev :=
 if J.gone then (16, J, D) else
 let r := D.flush
 let s := beginsF J.waits r.2 r.1
 let u := if s.1 = 0 ∧ 0 < J.waits.length then s.2.flush else s
 (u.1, { J with waits := [], gone := u.1 != 0 }, u.2)

structure Kv where
 k : Nat
 v : List Nat
abbrev KV := List Kv
def kvGet (l : KV) (k : Nat) : Option (List Nat) := (l.find? fun x => x.k == k).map Kv.v
def kvPut (x : Kv) : KV → KV
 |[] => [x]
 |y :: t => if x.k < y.k then x :: y :: t else if x.k = y.k then x :: t else y :: kvPut x t
def kvOut (k : Nat) (l : KV) : KV := l.filter fun x => x.k != k
def kvRecs (l : KV) : List (List Nat) := enc l.length :: l.map fun x => enc x.k ++ encT x.v
def sectorsF (gen : Nat) : Nat → List (List Nat) → Nat
 |_, [] => 0
 |i, b :: t => (jform gen i b).2.length / 64 + sectorsF gen (i + 1) t
def kvReadF : List (List Nat) → Int → KV → Option KV
 |[], _, l => some l
 |b :: t, last, l =>
  let r1 := (⟨b, 0⟩ : Rdr).num 1099511627776
  let r2 := r1.2.text 900
  if r2.2.fin ≠ 0 ∨ (r1.1 : Int) ≤ last then none else kvReadF t r1.1 (kvPut ⟨r1.1, r2.1⟩ l)
def kvRead (recs : List (List Nat)) : Option KV :=
 match recs with
 |[] => none
 |c :: t =>
  let r := (⟨c, 0⟩ : Rdr).num 1099511627776
  if r.2.fin ≠ 0 ∨ t.length < r.1 then none else kvReadF (t.take r.1) (-1) []
def kvGen (head : List Nat) : Nat := ((⟨head.drop 3, 0⟩ : Rdr).num 1099511627776).1
def kvCheck (D : Dev) (from_ n : Nat) : Nat × Nat × KV :=
 let h := D.read from_
 if h.1 ≠ 0 then (h.1, 0, []) else
 let gen := kvGen h.2
 if gen < 1 then (0, 0, []) else
 let s := jscan D from_ n gen
 if s.1 ≠ 0 then (s.1, 0, []) else
 match kvRead s.2.1 with
 |none => (0, 0, [])
 |some l => (0, gen, l)
def kvChange (l : KV) (b : List Nat) : Option KV :=
 let r1 := (⟨b, 0⟩ : Rdr).num 1099511627776
 let r2 := r1.2.num 1
 if r2.1 = 0 then (if r2.2.fin ≠ 0 then none else some (kvOut r1.1 l)) else
 let r3 := r2.2.text 900
 if r3.2.fin ≠ 0 then none else some (kvPut ⟨r1.1, r3.1⟩ l)
def kvChanges : List (List Nat) → KV → KV
 |[], l => l
 |b :: t, l => match kvChange l b with | none => l | some l' => kvChanges t l'
structure Vlt where
 D : Dev
 n : Nat
 gen : Nat
 l : KV
 J : Jrn
 gone : Bool
def Vlt.part (D : Dev) (n gen : Nat) : Nat × Jrn × List (List Nat) × Dev := jopen D (2 * n) (D.l.length - 2 * n) gen
def vopen (D : Dev) : Nat × Vlt :=
 let n := D.l.length / 4
 let no : Vlt := ⟨D, n, 0, [], ⟨0, 0, 0, 0, 0, [], false⟩, false⟩
 if D.l.length < 8 then (1, no) else
 let a := kvCheck D 0 n
 if a.1 ≠ 0 then (a.1, no) else
 let b := kvCheck D n n
 if b.1 ≠ 0 then (b.1, no) else
 let c := if a.2.1 < b.2.1 then b.2 else a.2
 let j := Vlt.part D n c.1
 if j.1 ≠ 0 then (j.1, { no with D := j.2.2.2 }) else (0, ⟨j.2.2.2, n, c.1, kvChanges j.2.2.1 c.2, j.2.1, false⟩)
def addsF : List (List Nat) → Jrn → Dev → Nat × Jrn × Dev
 |[], J, D => (0, J, D)
 |b :: t, J, D => let r := J.add D b; if r.1 ≠ 0 then r else addsF t r.2.1 r.2.2
def Vlt.lay (V : Vlt) (at_ gen : Nat) (recs : List (List Nat)) : Nat × Dev :=
 let a := jsweep V.D at_ V.n
 if a.1 ≠ 0 then a else
 let j := jopen a.2 at_ V.n gen
 if j.1 ≠ 0 then (j.1, j.2.2.2) else
 let r := addsF recs j.2.1 j.2.2.2
 if r.1 ≠ 0 then (r.1, r.2.2) else let f := r.2.1.flush r.2.2; (f.1, f.2.2)
def Vlt.turn (V : Vlt) (l : KV) : Nat × Vlt :=
 let gen := V.gen + 1
 let recs := kvRecs l
 if V.n < sectorsF gen 0 recs then (6, V) else
 let a := V.lay ((gen + 1) % 2 * V.n) gen recs
 if a.1 ≠ 0 then (a.1, { V with D := a.2, gone := true }) else
 let j := Vlt.part a.2 V.n gen
 (j.1, ⟨j.2.2.2, V.n, gen, l, j.2.1, V.gone || j.1 != 0⟩)
def Vlt.keep (V : Vlt) (b : List Nat) : Nat × Vlt :=
 if V.gone then (16, V) else
 let l := (kvChange V.l b).getD V.l
 let a := V.J.add V.D b
 if a.1 = 6 then ({ V with J := a.2.1, D := a.2.2 } : Vlt).turn l else
 if a.1 ≠ 0 then (a.1, { V with J := a.2.1, D := a.2.2, gone := true }) else
 let f := a.2.1.flush a.2.2
 if f.1 ≠ 0 then (f.1, { V with J := f.2.1, D := f.2.2, gone := true }) else (0, { V with J := f.2.1, D := f.2.2, l := l })
def Vlt.put (V : Vlt) (k : Int) (b : List Nat) : Nat × Vlt :=
 if k < 0 ∨ 1099511627776 < k then (5, V) else if 900 < b.length then (15, V) else V.keep (enc k.toNat ++ enc 1 ++ encT b)
def Vlt.drop (V : Vlt) (k : Int) : Nat × Vlt := if k < 0 ∨ kvGet V.l k.toNat = none then (7, V) else V.keep (enc k.toNat ++ enc 0)
end Go.Proofs.YtcahcjfgmdpdoaaGreat

namespace Go.Proofs.YtcahcjfgmdpdoaaGreat
open Go.RowKit Go.Proofs Go.Maps
set_option linter.unusedVariables false
set_option linter.unusedSimpArgs false

theorem belowA {a b c : World} (k : Below b.heap.size b c) (h : Below a.heap.size a b) : Below a.heap.size a c := h.trans (k.mono h.size)
theorem belowL {a b : World} (h : Below a.heap.size a b) (o : Obj) : Below a.heap.size a (b.alloc o) := h.alloc h.size o
theorem Blk.drewT {w : World} {b : Nat} {t : TypeId} {cs : List Value} (h : Blk w b t cs) : Blk w.drew b t cs := h.keep rfl
theorem Blk.rb {w : World} {b c : Nat} {L no : List Nat} (h : Blk w b 5 (bys L)) (hc : L.length ≤ c) (hn : b ∉ no) : Rb w no (some ⟨b, 0, none⟩) c L :=
 ⟨hc, ⟨by simp [bys], fun _ => ⟨b, 0, rfl, h.lt, fun j u hu => by rw [Nat.zero_add, h.cell j]; exact hu⟩⟩, fun a ha => by cases ha; exact ⟨rfl, hn, h.lt⟩⟩
theorem ownsRow_nil (w : World) (e : TypeId) (s : Nat) : w.ownsRow 0 e s (.slice none 0 0) 0 [] := ⟨by simp, Or.inl ⟨rfl, rfl⟩⟩
theorem OwnB.nil (w w' : World) (A : Option Addr) (c : Nat) (hA : A = none) (hc : c = 0) : OwnB w w' A c [] := by
 subst hA; subst hc
 exact ⟨ownsRow_nil _ _ _, fun g hg => by cases hg⟩
section
variable {P : Program} (w : World)
theorem wp_append_rd {o : Oper} {a : Act} {K : Act → World → Prop} {Q : Exit → Act → World → Prop} (s x : Operand) (t : TypeId)
  (ho : o.op = .call { callee := .builtin .append, args := #[s, x], argTypes := #[t, t] })
  (e : TypeId) (i : TypeInfo) (z : Value) (size bytes : Nat) (ht : P.underlying t = some (.slice e)) (hi : P.info? e = some i) (hz : i.zero = some z)
  (hsize : i.size = size) (hby : i.bytes = bytes) (hzs : z.cells.size = size) (hsz : 0 < size)
  (v : Value) (n : Nat) (xs : List Value) (hs : a.eval s = v) (hown : w.ownsRow 0 e size v n xs)
  (A : Option Addr) (m c B : Nat) (news : List Value) (hx : a.eval x = .slice A m c) (hR : Reads w B size A m news) (h1 : ∀ u ∈ news, u.oneCell' = true)
  (h63 : n + m ≤ maxLen) (hbytes : (n + m) * bytes ≤ 140737488355328)
  (h : ∀ v' w', w'.ownsRow 0 e size v' (n + m) (xs ++ news) → Chg v.ownBlock.toList w w' → (∀ g, v'.ownBlock = some g → v.ownBlock = some g ∨ g = w.heap.size) →
   K (a.put o.dst v') w') : o.wp P a w K Q := by
 by_cases hm : 0 < m
 ·obtain ⟨b, q, rfl, _, hc⟩ := hR.at_ hm
  refine wp_append_lies w s x t ho 0 e i z size bytes ht hi hz hsize hby hzs hsz v n xs hs hown ⟨b, q, none⟩ m c news hx hR.1 (fun j u hu => by rw [add_addr]; exact hc j u hu) h1 hm h63 hbytes (Nat.zero_le _) _ rfl
   fun g cap w' h2 h3 h4 h5 => h (.slice (some ⟨g, 0, none⟩) (n + m) cap) w' h2 (Chg.of_grown h3) fun g' hg' => ?_
  have e : g = g' := by simpa [Value.ownBlock] using hg'
  rw [← e]
  exact h4
 ·have hm0 : m = 0 := by omega
  subst hm0; have hn : news = [] := List.eq_nil_of_length_eq_zero (by simpa using hR.1); subst hn; obtain ⟨A', cap, rfl, hle, _⟩ := own_view hown
  have hsr : Src P i.size t (.slice A 0 c) 0 [] w := by
   cases A with
   |none => exact Src.ofNil w ht c
   |some a => exact Src.ofSlice w ht a 0 c [] (by simp) (by simp) (by simp)
  have hr := run_append_nothing w t t o.type e i ht hi A' n cap hle _ hsr; unfold Oper.wp execOp; simp only [ho, resolve, invoke, builtin, Sem.run_bind, Sem.run_pure, Result.andThen_ok, List.map_toArray, List.map_cons, List.map_nil, hs, hx, hr]
  exact h _ w (by simpa using hown) (Chg.refl _ _) (fun g hg => Or.inl hg)
end
theorem wpList_append_rd {P : Program} {ops : Array Oper} {rest : List Oper} {o : Oper} {a : Act} {Q : Exit → Act → World → Prop} {w : World} (hgd : o.guard = none) (s x : Operand) (t : TypeId)
  (ho : o.op = .call { callee := .builtin .append, args := #[s, x], argTypes := #[t, t] })
  (e : TypeId) (i : TypeInfo) (z : Value) (size bytes : Nat) (ht : P.underlying t = some (.slice e)) (hi : P.info? e = some i) (hz : i.zero = some z)
  (hsize : i.size = size) (hby : i.bytes = bytes) (hzs : z.cells.size = size) (hsz : 0 < size)
  (v : Value) (n : Nat) (xs : List Value) (hs : a.eval s = v) (hown : w.ownsRow 0 e size v n xs)
  (A : Option Addr) (m c B : Nat) (news : List Value) (hx : a.eval x = .slice A m c) (hR : Reads w B size A m news) (h1 : ∀ u ∈ news, u.oneCell' = true)
  (h63 : n + m ≤ maxLen) (hbytes : (n + m) * bytes ≤ 140737488355328)
  (h : ∀ v' w', w'.ownsRow 0 e size v' (n + m) (xs ++ news) → Chg v.ownBlock.toList w w' → (∀ g, v'.ownBlock = some g → v.ownBlock = some g ∨ g = w.heap.size) →
   wpList P ops Q rest (a.put o.dst v') w') : wpList P ops Q (o :: rest) a w :=
 wpList_plain hgd fun _ hK => wp_append_rd w s x t ho e i z size bytes ht hi hz hsize hby hzs hsz v n xs hs hown A m c B news hx hR h1 h63 hbytes fun v' w' h2 h3 h4 => hK _ _ (h v' w' h2 h3 h4)
end Go.Proofs.YtcahcjfgmdpdoaaGreat
