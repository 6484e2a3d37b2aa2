/-
  No cell of these rows narrows 'for every input' (looked for: loops, veiled, ifaces, maps, wideKeys, modest, calm, conditions, laid).
  DERIVED. THE GIVEN ROWS OF THIS SEAT. 3 by the template 'for every input the law returns true; each argument reads behind the call as it read before'; 0 by the template 'total and deterministic' (their statements: YtanfdnpnkdiiiaaGreatTotals.lean).
  GIVEN WITH THE SEED: the statements are not yours to turn. If you find one false, say at which input.
  Laid BY PROGRAM, IN A SANDBOX (cutbox-rows.mjs): the forced cells as the released guide's own fill.sh prints them over the translation 19bd9324db33d86b… (all of the seat's roots in one cut). By AI agents, Wed Nov 11 2026. No macro, syntax, notation, axiom, sorry.
-/
import Derived.Test.YtanfdnpnkdiiiaaGreatChecked
import GoSem.Claim
import GoSem.ClaimJoined
import GoSem.ClaimMapViews
import Derived.JoinedTies
import Derived.KernelRfl
namespace Go.Proofs.YtanfdnpnkdiiiaaGreat
/- THE CELL 'sum', in the pinned program and in every row, IS THE sha256 OF THE DUMP (.gsa) THAT YtanfdnpnkdiiiaaGreatProg.lean LOADS. Nothing in Lean hashes anything: it is a label: what it is worth is what the hold of that sum in a sandbox is worth. -/
noncomputable def Tryz.pinned : Pinned := { name := "ytanfdnpnkdiiiaagreat", sum := "19bd9324db33d86b04566f35ae93036813017d0c6eba7332c4384ff614417cee", checked := Tryz.checked }
namespace Rows
def none {H : Type} : Left H := { results := [], args := [] }

/-- 'dotterellaw27.ClientTracks': WHATEVER THE INPUT: true; the input reads as it did. -/
def clientTracksSpec : ChangeSpec := { name := "clientTracks", fn := fun _ => fun
  | [d1, d2] => { results := [.lit (.bool true)], args := [d1, d2] }
  | _ => none }
def clientTracksRow : OpenClaim := { program := "ytanfdnpnkdiiiaagreat", sum := "19bd9324db33d86b04566f35ae93036813017d0c6eba7332c4384ff614417cee", func := "dotterel/dotterellaw27.ClientTracks", spec := "clientTracks", inPlace := ["maps.clone"], unfollowed := true, recurses := true, apart := false }
def ClientTracksSaid : Prop := clientTracksRow.holds Tryz.pinned (OpenSpec.ofChange clientTracksSpec)

/-- ITS FALSE NEIGHBOUR: 'it returns false'. Refute it at one input. -/
def clientTracksWrong : ChangeSpec := { name := "clientTracks", fn := fun _ => fun
  | [d1, d2] => { results := [.lit (.bool false)], args := [d1, d2] }
  | _ => none }
def ClientTracksWrongFalsely : Prop := clientTracksRow.holds Tryz.pinned (OpenSpec.ofChange clientTracksWrong)

/-- 'dotterellaw27.ClientFlush': WHATEVER THE INPUT: true; the input reads as it did. -/
def clientFlushSpec : ChangeSpec := { name := "clientFlush", fn := fun _ => fun
  | [d1, d2] => { results := [.lit (.bool true)], args := [d1, d2] }
  | _ => none }
def clientFlushRow : OpenClaim := { program := "ytanfdnpnkdiiiaagreat", sum := "19bd9324db33d86b04566f35ae93036813017d0c6eba7332c4384ff614417cee", func := "dotterel/dotterellaw27.ClientFlush", spec := "clientFlush", inPlace := ["maps.clone"], unfollowed := true, recurses := true, apart := false }
def ClientFlushSaid : Prop := clientFlushRow.holds Tryz.pinned (OpenSpec.ofChange clientFlushSpec)

/-- ITS FALSE NEIGHBOUR: 'it returns false'. Refute it at one input. -/
def clientFlushWrong : ChangeSpec := { name := "clientFlush", fn := fun _ => fun
  | [d1, d2] => { results := [.lit (.bool false)], args := [d1, d2] }
  | _ => none }
def ClientFlushWrongFalsely : Prop := clientFlushRow.holds Tryz.pinned (OpenSpec.ofChange clientFlushWrong)

/-- 'dotterellaw27.ClientWhole': WHATEVER THE INPUT: true; the input reads as it did. -/
def clientWholeSpec : ChangeSpec := { name := "clientWhole", fn := fun _ => fun
  | [d1, d2] => { results := [.lit (.bool true)], args := [d1, d2] }
  | _ => none }
def clientWholeRow : OpenClaim := { program := "ytanfdnpnkdiiiaagreat", sum := "19bd9324db33d86b04566f35ae93036813017d0c6eba7332c4384ff614417cee", func := "dotterel/dotterellaw27.ClientWhole", spec := "clientWhole", inPlace := ["maps.clone"], unfollowed := true, recurses := true, apart := false }
def ClientWholeSaid : Prop := clientWholeRow.holds Tryz.pinned (OpenSpec.ofChange clientWholeSpec)

/-- ITS FALSE NEIGHBOUR: 'it returns false'. Refute it at one input. -/
def clientWholeWrong : ChangeSpec := { name := "clientWhole", fn := fun _ => fun
  | [d1, d2] => { results := [.lit (.bool false)], args := [d1, d2] }
  | _ => none }
def ClientWholeWrongFalsely : Prop := clientWholeRow.holds Tryz.pinned (OpenSpec.ofChange clientWholeWrong)

/- THE SECOND FORM. 'bulk': how many values and letters a reading holds, each counted each time it is reached (what is shared counts as often as it is met; a slice's spare places count too). A statement '..UptoSaid' is the law's where the arguments, and the package variables that the reading takes, are together of bulk at most 1048576: NARROWER than '..Said'. Prove '..Said' where nothing that the law and all that it calls make is longer than what came in: it says more and counts as full. Else prove '..UptoSaid'. A law counts once. -/
mutual
def uptoBulk {H : Type} : DataW H → Nat
  | .lit (.string bytes) => bytes.length + 1
  | .lit _ => 1
  | .nil => 1
  | .ptr d => uptoBulk d + 1
  | .slice elems spare => uptoBulkAll elems + uptoBulkAll spare + 1
  | .agg parts => uptoBulkAll parts + 1
  | .iface _ d => uptoBulk d + 1
  | .map entries => uptoBulkEntries entries + 1
  | .held _ => 1
def uptoBulkAll {H : Type} : List (DataW H) → Nat
  | [] => 0
  | d :: r => uptoBulk d + uptoBulkAll r
def uptoBulkEntries {H : Type} : List (Lit × DataW H) → Nat
  | [] => 0
  | x :: r => uptoBulkEntry x + uptoBulkEntries r
def uptoBulkEntry {H : Type} : Lit × DataW H → Nat
  | (.string bytes, d) => bytes.length + uptoBulk d + 1
  | (_, d) => uptoBulk d + 1
 end
def uptoSmall : (H : Type) → List (DataW H) → Bool := fun _ ds => decide (uptoBulkAll ds ≤ 1048576)
def OpenSpec.upto (s : _root_.Go.ChangeSpec) : _root_.Go.OpenSpec := { _root_.Go.OpenSpec.ofChange s with cond := some uptoSmall }

/-- 'dotterellaw27.ClientTracks', WHERE WHAT IT READS IS OF BULK AT MOST 1048576: true; the input reads as it did. -/
def clientTracksUptoRow : OpenClaim := { program := "ytanfdnpnkdiiiaagreat", sum := "19bd9324db33d86b04566f35ae93036813017d0c6eba7332c4384ff614417cee", func := "dotterel/dotterellaw27.ClientTracks", spec := "clientTracks", inPlace := ["maps.clone"], unfollowed := true, recurses := true, apart := false, narrowed := true }
def ClientTracksUptoSaid : Prop := clientTracksUptoRow.holds Tryz.pinned (OpenSpec.upto clientTracksSpec)

/-- 'dotterellaw27.ClientFlush', WHERE WHAT IT READS IS OF BULK AT MOST 1048576: true; the input reads as it did. -/
def clientFlushUptoRow : OpenClaim := { program := "ytanfdnpnkdiiiaagreat", sum := "19bd9324db33d86b04566f35ae93036813017d0c6eba7332c4384ff614417cee", func := "dotterel/dotterellaw27.ClientFlush", spec := "clientFlush", inPlace := ["maps.clone"], unfollowed := true, recurses := true, apart := false, narrowed := true }
def ClientFlushUptoSaid : Prop := clientFlushUptoRow.holds Tryz.pinned (OpenSpec.upto clientFlushSpec)

/-- 'dotterellaw27.ClientWhole', WHERE WHAT IT READS IS OF BULK AT MOST 1048576: true; the input reads as it did. -/
def clientWholeUptoRow : OpenClaim := { program := "ytanfdnpnkdiiiaagreat", sum := "19bd9324db33d86b04566f35ae93036813017d0c6eba7332c4384ff614417cee", func := "dotterel/dotterellaw27.ClientWhole", spec := "clientWhole", inPlace := ["maps.clone"], unfollowed := true, recurses := true, apart := false, narrowed := true }
def ClientWholeUptoSaid : Prop := clientWholeUptoRow.holds Tryz.pinned (OpenSpec.upto clientWholeSpec)

end Rows
end Go.Proofs.YtanfdnpnkdiiiaaGreat
