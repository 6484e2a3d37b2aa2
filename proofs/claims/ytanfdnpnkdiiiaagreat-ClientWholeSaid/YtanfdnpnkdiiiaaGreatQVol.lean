/- One text of: Vol. -/
import Derived.Test.YtanfdnpnkdiiiaaGreatQBask
import Derived.Test.YtanfdnpnkdiiiaaGreatQPol2
import Derived.Test.YtanfdnpnkdiiiaaGreatQPlace2
namespace Go.Proofs.YtanfdnpnkdiiiaaGreat
open Go.RowKit Go.Proofs Go.Maps
set_option linter.unusedVariables false

structure Vo where
  id : Int
  bl : Int
  p : Pol
  ver : Int
  ch : List Int
structure Ck where
  id : Int
  vol : Int
  ep : Int
  me : List Int
  jo : List Int
structure Vst where
  sv : List (Int × Int)
  vs : List Vo
  cs : List Ck
  nx : Int
structure Cmd where
  k : Int
  a : Int
  b : Int
  c : Int
  p : Pol
def Cmd.cells (c : Cmd) : List Value := [.int .i64 c.k, .int .i64 c.a, .int .i64 c.b, .int .i64 c.c, .int .i64 c.p.r, .int .i64 c.p.w, .int .i64 c.p.l, .int .i64 c.p.b]
def Cmd.val (c : Cmd) : Value := .agg c.cells.toArray
def Ck.has (c : Ck) (s : Int) : Bool := c.me.contains s || c.jo.contains s
/-- the chunk of a number; none: nobody has it -/
def hasAt (cs : List Ck) (k s : Int) : Bool := match fd Ck.id cs k with | some c => c.has s | none => false
def Vst.polOf (S : Vst) (s : Int) : List Pol := (S.vs.filter fun v => v.ch.any fun k => hasAt S.cs k s).map Vo.p
def Vst.admits (S : Vst) : Bool := S.sv.all fun x => Go.Proofs.YtanfdnpnkdiiiaaGreat.admits x.2 (S.polOf x.1)
def Vst.cnt (S : Vst) (s : Int) : Nat := (S.cs.filter fun c => c.has s).length
def Vst.loads (S : Vst) : List Ld := S.sv.map fun x => ⟨x.1, S.cnt x.1⟩
def lack (bl : Int) (ch : List Int) : Nat := ((bl + 7) / 8).toNat - ch.length
/-- chunks that a volume lacks -/
def growN : Nat → Vst → Int → List Int → Int → Vst × List Int
  | 0, S, _, ch, _ => (S, ch)
  | n + 1, S, id, ch, copies => growN n { S with cs := ins Ck.id ⟨S.nx, id, 1, chosen S.loads (min copies S.sv.length), []⟩ S.cs, nx := S.nx + 1 } id (ch ++ [S.nx]) copies
def Vst.grow (S : Vst) (v : Vo) (copies : Int) : Vst :=
  let r := growN (lack v.bl v.ch) S v.id v.ch copies
  { r.1 with vs := ins Vo.id { v with ch := r.2 } r.1.vs }
def outs (cs : List Ck) : List Int → List Ck
  | [] => cs
  | k :: ks => outs (out Ck.id cs k) ks
def Vst.turn (S : Vst) (k : Ck) : Vst := { S with cs := ins Ck.id { k with ep := k.ep + 1 } S.cs }
def wout (l : List Int) (s : Int) : List Int := l.filter fun k => k != s
/-- what a command about a chunk meets -/
def Vst.at_ (S : Vst) (a b : Int) : Except Int Ck := match fd Ck.id S.cs a with | none => .error 7 | some k => if k.ep = b then .ok k else .error 10
def Vst.server (S : Vst) (c : Cmd) : Vst × Int :=
  if 0 ≤ c.a ∧ c.a ≤ 15 ∧ 1 ≤ c.b ∧ c.b ≤ 64 then ({ S with sv := ins Prod.fst (c.a, c.b) S.sv }, 0) else (S, 1)
def Vst.create (S : Vst) (c : Cmd) : Vst × Int :=
  if 0 ≤ c.a ∧ c.a ≤ 63 ∧ 1 ≤ c.b ∧ c.b ≤ 512 ∧ 1 ≤ c.c ∧ c.c ≤ 3 ∧ c.p.ok then
    if (fd Vo.id S.vs c.a).isSome then (S, 8) else if S.sv.length < c.c then (S, 7) else (S.grow ⟨c.a, c.b, c.p, 1, []⟩ c.c, 0)
  else (S, 1)
def Vst.remove (S : Vst) (c : Cmd) : Vst × Int :=
  match fd Vo.id S.vs c.a with
  | none => (S, 7)
  | some v => ({ S with cs := outs S.cs v.ch, vs := out Vo.id S.vs c.a }, 0)
def copiesOf (cs : List Ck) (ch : List Int) : Int := match ch with | [] => 0 | k :: _ => match fd Ck.id cs k with | some c => c.me.length | none => 0
def Vst.resize (S : Vst) (c : Cmd) : Vst × Int :=
  if 1 ≤ c.b ∧ c.b ≤ 512 then
    match fd Vo.id S.vs c.a with
    | none => (S, 7)
    | some v =>
      let keep := ((c.b + 7) / 8).toNat
      ({ S with cs := outs S.cs (v.ch.drop keep) }.grow { v with bl := c.b, ch := v.ch.take keep } (copiesOf S.cs v.ch), 0)
  else (S, 1)
def Vst.policy (S : Vst) (c : Cmd) : Vst × Int :=
  if c.p.ok then
    match fd Vo.id S.vs c.a with
    | none => (S, 7)
    | some v => ({ S with vs := ins Vo.id { v with p := c.p, ver := v.ver + 1 } S.vs }, 0)
  else (S, 1)
def Vst.drop (S : Vst) (c : Cmd) : Vst × Int :=
  match S.at_ c.a c.b with
  | .error e => (S, e)
  | .ok k => if !k.has c.c then (S, 1) else if k.me = [c.c] then (S, 9) else (S.turn { k with me := wout k.me c.c, jo := wout k.jo c.c }, 0)
def Vst.join (S : Vst) (c : Cmd) : Vst × Int :=
  if !(fd Prod.fst S.sv c.c).isSome then (S, 7)
  else match S.at_ c.a c.b with
    | .error e => (S, e)
    | .ok k => if k.has c.c then (S, 8) else if 4 ≤ k.me.length + k.jo.length then (S, 6) else (S.turn { k with jo := k.jo ++ [c.c] }, 0)
def Vst.promote (S : Vst) (c : Cmd) : Vst × Int :=
  match S.at_ c.a c.b with
  | .error e => (S, e)
  | .ok k => if !k.jo.contains c.c then (S, 1) else (S.turn { k with me := k.me ++ [c.c], jo := wout k.jo c.c }, 0)
def Vst.act (S : Vst) (c : Cmd) : Vst × Int :=
  if c.k = 1 then S.server c else if c.k = 2 then S.create c else if c.k = 3 then S.remove c else if c.k = 4 then S.resize c
  else if c.k = 5 then S.policy c else if c.k = 6 then S.drop c else if c.k = 7 then S.join c else if c.k = 8 then S.promote c else (S, 22)
def Vst.apply (S : Vst) (c : Cmd) : Vst × Int :=
  let r := S.act c
  if r.2 = 0 then if r.1.admits then r else (S, 14) else (S, r.2)

/-- what holds of every state that n commands have made -/
structure VOk (S : Vst) (n : Nat) : Prop where
  svr : Rise Prod.fst S.sv
  sva : ∀ x ∈ S.sv, 0 ≤ x.1 ∧ x.1 ≤ 15 ∧ 1 ≤ x.2 ∧ x.2 ≤ 64
  vsr : Rise Vo.id S.vs
  csr : Rise Ck.id S.cs
  vsa : ∀ v ∈ S.vs, 0 ≤ v.id ∧ v.id ≤ 63 ∧ 1 ≤ v.bl ∧ v.bl ≤ 512 ∧ v.ch.length = ((v.bl + 7) / 8).toNat ∧ 1 ≤ v.ver ∧ v.ver ≤ 1 + n ∧ ∀ k ∈ v.ch, i64ok k
  csa : ∀ c ∈ S.cs, 1 ≤ c.id ∧ c.id < S.nx ∧ 1 ≤ c.ep ∧ c.ep ≤ 1 + n ∧ c.me.length + c.jo.length ≤ 4
  nx1 : 1 ≤ S.nx
  nx2 : S.nx ≤ 1 + 64 * n
end Go.Proofs.YtanfdnpnkdiiiaaGreat
