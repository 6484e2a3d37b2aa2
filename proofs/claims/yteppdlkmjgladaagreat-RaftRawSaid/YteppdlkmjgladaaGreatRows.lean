/-
  No cell of these rows narrows 'for every input' (looked for: loops, veiled, ifaces, maps, wideKeys, modest, calm, conditions, laid).
  DERIVED. THE GIVEN ROWS OF THIS SEAT. 4 by the template 'for every input the law returns true; each argument reads behind the call as it read before'; 0 by the template 'total and deterministic' (their statements: YteppdlkmjgladaaGreatTotals.lean).
  GIVEN WITH THE SEED: the statements are not yours to turn. If you find one false, say at which input.
  Laid BY PROGRAM, IN A SANDBOX (cutbox-rows.mjs): the forced cells as the released guide's own fill.sh prints them over the translation 670fd15b2e6d12d6… (all of the seat's roots in one cut). By AI agents, Wed Nov 11 2026. No macro, syntax, notation, axiom, sorry.
-/
import Derived.Test.YteppdlkmjgladaaGreatChecked
import GoSem.Claim
import GoSem.ClaimJoined
import GoSem.ClaimMapViews
import Derived.JoinedTies
import Derived.KernelRfl
namespace Go.Proofs.YteppdlkmjgladaaGreat
/- THE CELL 'sum', in the pinned program and in every row, IS THE sha256 OF THE DUMP (.gsa) THAT YteppdlkmjgladaaGreatProg.lean LOADS. Nothing in Lean hashes anything: it is a label: what it is worth is what the hold of that sum in a sandbox is worth. -/
noncomputable def Tryz.pinned : Pinned := { name := "yteppdlkmjgladaagreat", sum := "670fd15b2e6d12d6f0c46f41296963cd9bc84208334b6828ede15bf82424229f", checked := Tryz.checked }
namespace Rows
def none {H : Type} : Left H := { results := [], args := [] }

/-- 'dotterellaw17.RaftNews': WHATEVER THE INPUT: true; the input reads as it did. -/
def raftNewsSpec : ChangeSpec := { name := "raftNews", fn := fun _ => fun
  | [d1, d2] => { results := [.lit (.bool true)], args := [d1, d2] }
  | _ => none }
def raftNewsRow : OpenClaim := { program := "yteppdlkmjgladaagreat", sum := "670fd15b2e6d12d6f0c46f41296963cd9bc84208334b6828ede15bf82424229f", func := "dotterel/dotterellaw17.RaftNews", spec := "raftNews", inPlace := ["maps.clone"], unfollowed := true, recurses := true, apart := false }
def RaftNewsSaid : Prop := raftNewsRow.holds Tryz.pinned (OpenSpec.ofChange raftNewsSpec)

/-- ITS FALSE NEIGHBOUR: 'it returns false'. Refute it at one input. -/
def raftNewsWrong : ChangeSpec := { name := "raftNews", fn := fun _ => fun
  | [d1, d2] => { results := [.lit (.bool false)], args := [d1, d2] }
  | _ => none }
def RaftNewsWrongFalsely : Prop := raftNewsRow.holds Tryz.pinned (OpenSpec.ofChange raftNewsWrong)

/-- 'dotterellaw17.RaftRaw': WHATEVER THE INPUT: true; the input reads as it did. -/
def raftRawSpec : ChangeSpec := { name := "raftRaw", fn := fun _ => fun
  | [d1, d2] => { results := [.lit (.bool true)], args := [d1, d2] }
  | _ => none }
def raftRawRow : OpenClaim := { program := "yteppdlkmjgladaagreat", sum := "670fd15b2e6d12d6f0c46f41296963cd9bc84208334b6828ede15bf82424229f", func := "dotterel/dotterellaw17.RaftRaw", spec := "raftRaw", inPlace := ["maps.clone"], unfollowed := true, recurses := true, apart := false }
def RaftRawSaid : Prop := raftRawRow.holds Tryz.pinned (OpenSpec.ofChange raftRawSpec)

/-- ITS FALSE NEIGHBOUR: 'it returns false'. Refute it at one input. -/
def raftRawWrong : ChangeSpec := { name := "raftRaw", fn := fun _ => fun
  | [d1, d2] => { results := [.lit (.bool false)], args := [d1, d2] }
  | _ => none }
def RaftRawWrongFalsely : Prop := raftRawRow.holds Tryz.pinned (OpenSpec.ofChange raftRawWrong)

/-- 'dotterellaw17.RaftSafe': WHATEVER THE INPUT: true; the input reads as it did. -/
def raftSafeSpec : ChangeSpec := { name := "raftSafe", fn := fun _ => fun
  | [d1, d2] => { results := [.lit (.bool true)], args := [d1, d2] }
  | _ => none }
def raftSafeRow : OpenClaim := { program := "yteppdlkmjgladaagreat", sum := "670fd15b2e6d12d6f0c46f41296963cd9bc84208334b6828ede15bf82424229f", func := "dotterel/dotterellaw17.RaftSafe", spec := "raftSafe", inPlace := ["maps.clone"], unfollowed := true, recurses := true, apart := false }
def RaftSafeSaid : Prop := raftSafeRow.holds Tryz.pinned (OpenSpec.ofChange raftSafeSpec)

/-- ITS FALSE NEIGHBOUR: 'it returns false'. Refute it at one input. -/
def raftSafeWrong : ChangeSpec := { name := "raftSafe", fn := fun _ => fun
  | [d1, d2] => { results := [.lit (.bool false)], args := [d1, d2] }
  | _ => none }
def RaftSafeWrongFalsely : Prop := raftSafeRow.holds Tryz.pinned (OpenSpec.ofChange raftSafeWrong)

/-- 'dotterellaw17.RaftLive': WHATEVER THE INPUT: true; the input reads as it did. -/
def raftLiveSpec : ChangeSpec := { name := "raftLive", fn := fun _ => fun
  | [d1, d2] => { results := [.lit (.bool true)], args := [d1, d2] }
  | _ => none }
def raftLiveRow : OpenClaim := { program := "yteppdlkmjgladaagreat", sum := "670fd15b2e6d12d6f0c46f41296963cd9bc84208334b6828ede15bf82424229f", func := "dotterel/dotterellaw17.RaftLive", spec := "raftLive", inPlace := ["maps.clone"], unfollowed := true, recurses := true, apart := false }
def RaftLiveSaid : Prop := raftLiveRow.holds Tryz.pinned (OpenSpec.ofChange raftLiveSpec)

/-- ITS FALSE NEIGHBOUR: 'it returns false'. Refute it at one input. -/
def raftLiveWrong : ChangeSpec := { name := "raftLive", fn := fun _ => fun
  | [d1, d2] => { results := [.lit (.bool false)], args := [d1, d2] }
  | _ => none }
def RaftLiveWrongFalsely : Prop := raftLiveRow.holds Tryz.pinned (OpenSpec.ofChange raftLiveWrong)

/- THE SECOND FORM. 'bulk': how many values and letters a reading holds, each counted each time it is reached (what is shared counts as often as it is met; a slice's spare places count too). A statement '..UptoSaid' is the law's where the arguments, and the package variables that the reading takes, are together of bulk at most 1048576: NARROWER than '..Said'. Prove '..Said' where nothing that the law and all that it calls make is longer than what came in: it says more and counts as full. Else prove '..UptoSaid'. A law counts once. -/
mutual
def uptoBulk {H : Type} : DataW H → Nat
  | .lit (.string bytes) => bytes.length + 1
  | .lit _ => 1
  | .nil => 1
  | .ptr d => uptoBulk d + 1
  | .slice elems spare => uptoBulkAll elems + uptoBulkAll spare + 1
  | .agg parts => uptoBulkAll parts + 1
  | .iface _ d => uptoBulk d + 1
  | .map entries => uptoBulkEntries entries + 1
  | .held _ => 1
def uptoBulkAll {H : Type} : List (DataW H) → Nat
  | [] => 0
  | d :: r => uptoBulk d + uptoBulkAll r
def uptoBulkEntries {H : Type} : List (Lit × DataW H) → Nat
  | [] => 0
  | x :: r => uptoBulkEntry x + uptoBulkEntries r
def uptoBulkEntry {H : Type} : Lit × DataW H → Nat
  | (.string bytes, d) => bytes.length + uptoBulk d + 1
  | (_, d) => uptoBulk d + 1
 end
def uptoSmall : (H : Type) → List (DataW H) → Bool := fun _ ds => decide (uptoBulkAll ds ≤ 1048576)
def OpenSpec.upto (s : _root_.Go.ChangeSpec) : _root_.Go.OpenSpec := { _root_.Go.OpenSpec.ofChange s with cond := some uptoSmall }

/-- 'dotterellaw17.RaftNews', WHERE WHAT IT READS IS OF BULK AT MOST 1048576: true; the input reads as it did. -/
def raftNewsUptoRow : OpenClaim := { program := "yteppdlkmjgladaagreat", sum := "670fd15b2e6d12d6f0c46f41296963cd9bc84208334b6828ede15bf82424229f", func := "dotterel/dotterellaw17.RaftNews", spec := "raftNews", inPlace := ["maps.clone"], unfollowed := true, recurses := true, apart := false, narrowed := true }
def RaftNewsUptoSaid : Prop := raftNewsUptoRow.holds Tryz.pinned (OpenSpec.upto raftNewsSpec)

/-- 'dotterellaw17.RaftRaw', WHERE WHAT IT READS IS OF BULK AT MOST 1048576: true; the input reads as it did. -/
def raftRawUptoRow : OpenClaim := { program := "yteppdlkmjgladaagreat", sum := "670fd15b2e6d12d6f0c46f41296963cd9bc84208334b6828ede15bf82424229f", func := "dotterel/dotterellaw17.RaftRaw", spec := "raftRaw", inPlace := ["maps.clone"], unfollowed := true, recurses := true, apart := false, narrowed := true }
def RaftRawUptoSaid : Prop := raftRawUptoRow.holds Tryz.pinned (OpenSpec.upto raftRawSpec)

/-- 'dotterellaw17.RaftSafe', WHERE WHAT IT READS IS OF BULK AT MOST 1048576: true; the input reads as it did. -/
def raftSafeUptoRow : OpenClaim := { program := "yteppdlkmjgladaagreat", sum := "670fd15b2e6d12d6f0c46f41296963cd9bc84208334b6828ede15bf82424229f", func := "dotterel/dotterellaw17.RaftSafe", spec := "raftSafe", inPlace := ["maps.clone"], unfollowed := true, recurses := true, apart := false, narrowed := true }
def RaftSafeUptoSaid : Prop := raftSafeUptoRow.holds Tryz.pinned (OpenSpec.upto raftSafeSpec)

/-- 'dotterellaw17.RaftLive', WHERE WHAT IT READS IS OF BULK AT MOST 1048576: true; the input reads as it did. -/
def raftLiveUptoRow : OpenClaim := { program := "yteppdlkmjgladaagreat", sum := "670fd15b2e6d12d6f0c46f41296963cd9bc84208334b6828ede15bf82424229f", func := "dotterel/dotterellaw17.RaftLive", spec := "raftLive", inPlace := ["maps.clone"], unfollowed := true, recurses := true, apart := false, narrowed := true }
def RaftLiveUptoSaid : Prop := raftLiveUptoRow.holds Tryz.pinned (OpenSpec.upto raftLiveSpec)

end Rows
end Go.Proofs.YteppdlkmjgladaaGreat
