/-
  No cell of these rows narrows 'for every input' (looked for: loops, veiled, ifaces, maps, wideKeys, modest, calm, conditions, laid).
  DERIVED. THE GIVEN ROWS OF THIS SEAT. 3 by the template 'for every input the law returns true; each argument reads behind the call as it read before'; 0 by the template 'total and deterministic' (their statements: YtcgecalbgkkinaaTotals.lean).
  GIVEN WITH THE SEED: the statements are not yours to turn. If you find one false, say at which input.
  Laid BY PROGRAM, IN A SANDBOX (cutbox-rows.mjs): the forced cells as the released guide's own fill.sh prints them over the translation 16ab5f3127a0c995… (all of the seat's roots in one cut). By AI agents, Wed Nov 11 2026. No macro, syntax, notation, axiom, sorry.
-/
import Derived.Test.YtcgecalbgkkinaaChecked
import GoSem.Claim
import GoSem.ClaimJoined
import GoSem.ClaimMapViews
import Derived.JoinedTies
import Derived.KernelRfl
namespace Go.Proofs.Ytcgecalbgkkinaa
/- THE CELL 'sum', in the pinned program and in every row, IS THE sha256 OF THE DUMP (.gsa) THAT YtcgecalbgkkinaaProg.lean LOADS. Nothing in Lean hashes anything: it is a label: what it is worth is what the hold of that sum in a sandbox is worth. -/
noncomputable def Try.pinned : Pinned := { name := "ytcgecalbgkkinaa", sum := "16ab5f3127a0c99550423a10873481f09e99f8e6913b5d0bb942855d9a048ff9", checked := Try.checked }
namespace Rows
def none {H : Type} : Left H := { results := [], args := [] }

/-- 'dotterellaw18.VolumePolicies': WHATEVER THE INPUT: true; the input reads as it did. -/
def volumePoliciesSpec : ChangeSpec := { name := "volumePolicies", fn := fun _ => fun
  | [d1, d2] => { results := [.lit (.bool true)], args := [d1, d2] }
  | _ => none }
def volumePoliciesRow : OpenClaim := { program := "ytcgecalbgkkinaa", sum := "16ab5f3127a0c99550423a10873481f09e99f8e6913b5d0bb942855d9a048ff9", func := "dotterel/dotterellaw18.VolumePolicies", spec := "volumePolicies", inPlace := ["maps.clone"], unfollowed := true, recurses := true, apart := false }
def VolumePoliciesSaid : Prop := volumePoliciesRow.holds Try.pinned (OpenSpec.ofChange volumePoliciesSpec)

/-- ITS FALSE NEIGHBOUR: 'it returns false'. Refute it at one input. -/
def volumePoliciesWrong : ChangeSpec := { name := "volumePolicies", fn := fun _ => fun
  | [d1, d2] => { results := [.lit (.bool false)], args := [d1, d2] }
  | _ => none }
def VolumePoliciesWrongFalsely : Prop := volumePoliciesRow.holds Try.pinned (OpenSpec.ofChange volumePoliciesWrong)

/-- 'dotterellaw18.VolumeGrows': WHATEVER THE INPUT: true; the input reads as it did. -/
def volumeGrowsSpec : ChangeSpec := { name := "volumeGrows", fn := fun _ => fun
  | [d1, d2] => { results := [.lit (.bool true)], args := [d1, d2] }
  | _ => none }
def volumeGrowsRow : OpenClaim := { program := "ytcgecalbgkkinaa", sum := "16ab5f3127a0c99550423a10873481f09e99f8e6913b5d0bb942855d9a048ff9", func := "dotterel/dotterellaw18.VolumeGrows", spec := "volumeGrows", inPlace := ["maps.clone"], unfollowed := true, recurses := true, apart := false }
def VolumeGrowsSaid : Prop := volumeGrowsRow.holds Try.pinned (OpenSpec.ofChange volumeGrowsSpec)

/-- ITS FALSE NEIGHBOUR: 'it returns false'. Refute it at one input. -/
def volumeGrowsWrong : ChangeSpec := { name := "volumeGrows", fn := fun _ => fun
  | [d1, d2] => { results := [.lit (.bool false)], args := [d1, d2] }
  | _ => none }
def VolumeGrowsWrongFalsely : Prop := volumeGrowsRow.holds Try.pinned (OpenSpec.ofChange volumeGrowsWrong)

/-- 'dotterellaw18.VolumeHolds': WHATEVER THE INPUT: true; the input reads as it did. -/
def volumeHoldsSpec : ChangeSpec := { name := "volumeHolds", fn := fun _ => fun
  | [d] => { results := [.lit (.bool true)], args := [d] }
  | _ => none }
def volumeHoldsRow : OpenClaim := { program := "ytcgecalbgkkinaa", sum := "16ab5f3127a0c99550423a10873481f09e99f8e6913b5d0bb942855d9a048ff9", func := "dotterel/dotterellaw18.VolumeHolds", spec := "volumeHolds", inPlace := ["maps.clone"], unfollowed := true, recurses := true, apart := false }
def VolumeHoldsSaid : Prop := volumeHoldsRow.holds Try.pinned (OpenSpec.ofChange volumeHoldsSpec)

/-- ITS FALSE NEIGHBOUR: 'it returns false'. Refute it at one input. -/
def volumeHoldsWrong : ChangeSpec := { name := "volumeHolds", fn := fun _ => fun
  | [d] => { results := [.lit (.bool false)], args := [d] }
  | _ => none }
def VolumeHoldsWrongFalsely : Prop := volumeHoldsRow.holds Try.pinned (OpenSpec.ofChange volumeHoldsWrong)

/- THE SECOND FORM. 'bulk': how many values and letters a reading holds, each counted each time it is reached (what is shared counts as often as it is met; a slice's spare places count too). A statement '..UptoSaid' is the law's where the arguments, and the package variables that the reading takes, are together of bulk at most 1048576: NARROWER than '..Said'. Prove '..Said' where nothing that the law and all that it calls make is longer than what came in: it says more and counts as full. Else prove '..UptoSaid'. A law counts once. -/
mutual
def uptoBulk {H : Type} : DataW H → Nat
  | .lit (.string bytes) => bytes.length + 1
  | .lit _ => 1
  | .nil => 1
  | .ptr d => uptoBulk d + 1
  | .slice elems spare => uptoBulkAll elems + uptoBulkAll spare + 1
  | .agg parts => uptoBulkAll parts + 1
  | .iface _ d => uptoBulk d + 1
  | .map entries => uptoBulkEntries entries + 1
  | .held _ => 1
def uptoBulkAll {H : Type} : List (DataW H) → Nat
  | [] => 0
  | d :: r => uptoBulk d + uptoBulkAll r
def uptoBulkEntries {H : Type} : List (Lit × DataW H) → Nat
  | [] => 0
  | x :: r => uptoBulkEntry x + uptoBulkEntries r
def uptoBulkEntry {H : Type} : Lit × DataW H → Nat
  | (.string bytes, d) => bytes.length + uptoBulk d + 1
  | (_, d) => uptoBulk d + 1
 end
def uptoSmall : (H : Type) → List (DataW H) → Bool := fun _ ds => decide (uptoBulkAll ds ≤ 1048576)
def OpenSpec.upto (s : _root_.Go.ChangeSpec) : _root_.Go.OpenSpec := { _root_.Go.OpenSpec.ofChange s with cond := some uptoSmall }

/-- 'dotterellaw18.VolumePolicies', WHERE WHAT IT READS IS OF BULK AT MOST 1048576: true; the input reads as it did. -/
def volumePoliciesUptoRow : OpenClaim := { program := "ytcgecalbgkkinaa", sum := "16ab5f3127a0c99550423a10873481f09e99f8e6913b5d0bb942855d9a048ff9", func := "dotterel/dotterellaw18.VolumePolicies", spec := "volumePolicies", inPlace := ["maps.clone"], unfollowed := true, recurses := true, apart := false, narrowed := true }
def VolumePoliciesUptoSaid : Prop := volumePoliciesUptoRow.holds Try.pinned (OpenSpec.upto volumePoliciesSpec)

/-- 'dotterellaw18.VolumeGrows', WHERE WHAT IT READS IS OF BULK AT MOST 1048576: true; the input reads as it did. -/
def volumeGrowsUptoRow : OpenClaim := { program := "ytcgecalbgkkinaa", sum := "16ab5f3127a0c99550423a10873481f09e99f8e6913b5d0bb942855d9a048ff9", func := "dotterel/dotterellaw18.VolumeGrows", spec := "volumeGrows", inPlace := ["maps.clone"], unfollowed := true, recurses := true, apart := false, narrowed := true }
def VolumeGrowsUptoSaid : Prop := volumeGrowsUptoRow.holds Try.pinned (OpenSpec.upto volumeGrowsSpec)

/-- 'dotterellaw18.VolumeHolds', WHERE WHAT IT READS IS OF BULK AT MOST 1048576: true; the input reads as it did. -/
def volumeHoldsUptoRow : OpenClaim := { program := "ytcgecalbgkkinaa", sum := "16ab5f3127a0c99550423a10873481f09e99f8e6913b5d0bb942855d9a048ff9", func := "dotterel/dotterellaw18.VolumeHolds", spec := "volumeHolds", inPlace := ["maps.clone"], unfollowed := true, recurses := true, apart := false, narrowed := true }
def VolumeHoldsUptoSaid : Prop := volumeHoldsUptoRow.holds Try.pinned (OpenSpec.upto volumeHoldsSpec)

end Rows
end Go.Proofs.Ytcgecalbgkkinaa
