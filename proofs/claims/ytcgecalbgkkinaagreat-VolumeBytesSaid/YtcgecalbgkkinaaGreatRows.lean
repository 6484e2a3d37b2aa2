/-
  No cell of these rows narrows 'for every input' (looked for: loops, veiled, ifaces, maps, wideKeys, modest, calm, conditions, laid).
  DERIVED. THE GIVEN ROWS OF THIS SEAT. 3 by the template 'for every input the law returns true; each argument reads behind the call as it read before'; 0 by the template 'total and deterministic' (their statements: YtcgecalbgkkinaaGreatTotals.lean).
  GIVEN WITH THE SEED: the statements are not yours to turn. If you find one false, say at which input.
  Laid BY PROGRAM, IN A SANDBOX (cutbox-rows.mjs): the forced cells as the released guide's own fill.sh prints them over the translation 056fe6858e33e0c7… (all of the seat's roots in one cut). By AI agents, Wed Nov 11 2026. No macro, syntax, notation, axiom, sorry.
-/
import Derived.Test.YtcgecalbgkkinaaGreatChecked
import GoSem.Claim
import GoSem.ClaimJoined
import GoSem.ClaimMapViews
import Derived.JoinedTies
import Derived.KernelRfl
namespace Go.Proofs.YtcgecalbgkkinaaGreat
/- THE CELL 'sum', in the pinned program and in every row, IS THE sha256 OF THE DUMP (.gsa) THAT YtcgecalbgkkinaaGreatProg.lean LOADS. Nothing in Lean hashes anything: it is a label: what it is worth is what the hold of that sum in a sandbox is worth. -/
noncomputable def Tryz.pinned : Pinned := { name := "ytcgecalbgkkinaagreat", sum := "056fe6858e33e0c764949153d0e88328adb31c649843a5074d6d917f4bdea9a7", checked := Tryz.checked }
namespace Rows
def none {H : Type} : Left H := { results := [], args := [] }

/-- 'dotterellaw18.VolumePlays': WHATEVER THE INPUT: true; the input reads as it did. -/
def volumePlaysSpec : ChangeSpec := { name := "volumePlays", fn := fun _ => fun
  | [d] => { results := [.lit (.bool true)], args := [d] }
  | _ => none }
def volumePlaysRow : OpenClaim := { program := "ytcgecalbgkkinaagreat", sum := "056fe6858e33e0c764949153d0e88328adb31c649843a5074d6d917f4bdea9a7", func := "dotterel/dotterellaw18.VolumePlays", spec := "volumePlays", inPlace := ["maps.clone"], unfollowed := true, recurses := true, apart := false }
def VolumePlaysSaid : Prop := volumePlaysRow.holds Tryz.pinned (OpenSpec.ofChange volumePlaysSpec)

/-- ITS FALSE NEIGHBOUR: 'it returns false'. Refute it at one input. -/
def volumePlaysWrong : ChangeSpec := { name := "volumePlays", fn := fun _ => fun
  | [d] => { results := [.lit (.bool false)], args := [d] }
  | _ => none }
def VolumePlaysWrongFalsely : Prop := volumePlaysRow.holds Tryz.pinned (OpenSpec.ofChange volumePlaysWrong)

/-- 'dotterellaw18.VolumeCommands': WHATEVER THE INPUT: true; the input reads as it did. -/
def volumeCommandsSpec : ChangeSpec := { name := "volumeCommands", fn := fun _ => fun
  | [d1, d2] => { results := [.lit (.bool true)], args := [d1, d2] }
  | _ => none }
def volumeCommandsRow : OpenClaim := { program := "ytcgecalbgkkinaagreat", sum := "056fe6858e33e0c764949153d0e88328adb31c649843a5074d6d917f4bdea9a7", func := "dotterel/dotterellaw18.VolumeCommands", spec := "volumeCommands", inPlace := ["maps.clone"], unfollowed := true, recurses := true, apart := false }
def VolumeCommandsSaid : Prop := volumeCommandsRow.holds Tryz.pinned (OpenSpec.ofChange volumeCommandsSpec)

/-- ITS FALSE NEIGHBOUR: 'it returns false'. Refute it at one input. -/
def volumeCommandsWrong : ChangeSpec := { name := "volumeCommands", fn := fun _ => fun
  | [d1, d2] => { results := [.lit (.bool false)], args := [d1, d2] }
  | _ => none }
def VolumeCommandsWrongFalsely : Prop := volumeCommandsRow.holds Tryz.pinned (OpenSpec.ofChange volumeCommandsWrong)

/-- 'dotterellaw18.VolumeBytes': WHATEVER THE INPUT: true; the input reads as it did. -/
def volumeBytesSpec : ChangeSpec := { name := "volumeBytes", fn := fun _ => fun
  | [d1, d2, d3] => { results := [.lit (.bool true)], args := [d1, d2, d3] }
  | _ => none }
def volumeBytesRow : OpenClaim := { program := "ytcgecalbgkkinaagreat", sum := "056fe6858e33e0c764949153d0e88328adb31c649843a5074d6d917f4bdea9a7", func := "dotterel/dotterellaw18.VolumeBytes", spec := "volumeBytes", inPlace := ["maps.clone"], unfollowed := true, recurses := true, apart := false }
def VolumeBytesSaid : Prop := volumeBytesRow.holds Tryz.pinned (OpenSpec.ofChange volumeBytesSpec)

/-- ITS FALSE NEIGHBOUR: 'it returns false'. Refute it at one input. -/
def volumeBytesWrong : ChangeSpec := { name := "volumeBytes", fn := fun _ => fun
  | [d1, d2, d3] => { results := [.lit (.bool false)], args := [d1, d2, d3] }
  | _ => none }
def VolumeBytesWrongFalsely : Prop := volumeBytesRow.holds Tryz.pinned (OpenSpec.ofChange volumeBytesWrong)

/- THE SECOND FORM. 'bulk': how many values and letters a reading holds, each counted each time it is reached (what is shared counts as often as it is met; a slice's spare places count too). A statement '..UptoSaid' is the law's where the arguments, and the package variables that the reading takes, are together of bulk at most 1048576: NARROWER than '..Said'. Prove '..Said' where nothing that the law and all that it calls make is longer than what came in: it says more and counts as full. Else prove '..UptoSaid'. A law counts once. -/
mutual
def uptoBulk {H : Type} : DataW H → Nat
  | .lit (.string bytes) => bytes.length + 1
  | .lit _ => 1
  | .nil => 1
  | .ptr d => uptoBulk d + 1
  | .slice elems spare => uptoBulkAll elems + uptoBulkAll spare + 1
  | .agg parts => uptoBulkAll parts + 1
  | .iface _ d => uptoBulk d + 1
  | .map entries => uptoBulkEntries entries + 1
  | .held _ => 1
def uptoBulkAll {H : Type} : List (DataW H) → Nat
  | [] => 0
  | d :: r => uptoBulk d + uptoBulkAll r
def uptoBulkEntries {H : Type} : List (Lit × DataW H) → Nat
  | [] => 0
  | x :: r => uptoBulkEntry x + uptoBulkEntries r
def uptoBulkEntry {H : Type} : Lit × DataW H → Nat
  | (.string bytes, d) => bytes.length + uptoBulk d + 1
  | (_, d) => uptoBulk d + 1
 end
def uptoSmall : (H : Type) → List (DataW H) → Bool := fun _ ds => decide (uptoBulkAll ds ≤ 1048576)
def OpenSpec.upto (s : _root_.Go.ChangeSpec) : _root_.Go.OpenSpec := { _root_.Go.OpenSpec.ofChange s with cond := some uptoSmall }

/-- 'dotterellaw18.VolumePlays', WHERE WHAT IT READS IS OF BULK AT MOST 1048576: true; the input reads as it did. -/
def volumePlaysUptoRow : OpenClaim := { program := "ytcgecalbgkkinaagreat", sum := "056fe6858e33e0c764949153d0e88328adb31c649843a5074d6d917f4bdea9a7", func := "dotterel/dotterellaw18.VolumePlays", spec := "volumePlays", inPlace := ["maps.clone"], unfollowed := true, recurses := true, apart := false, narrowed := true }
def VolumePlaysUptoSaid : Prop := volumePlaysUptoRow.holds Tryz.pinned (OpenSpec.upto volumePlaysSpec)

/-- 'dotterellaw18.VolumeCommands', WHERE WHAT IT READS IS OF BULK AT MOST 1048576: true; the input reads as it did. -/
def volumeCommandsUptoRow : OpenClaim := { program := "ytcgecalbgkkinaagreat", sum := "056fe6858e33e0c764949153d0e88328adb31c649843a5074d6d917f4bdea9a7", func := "dotterel/dotterellaw18.VolumeCommands", spec := "volumeCommands", inPlace := ["maps.clone"], unfollowed := true, recurses := true, apart := false, narrowed := true }
def VolumeCommandsUptoSaid : Prop := volumeCommandsUptoRow.holds Tryz.pinned (OpenSpec.upto volumeCommandsSpec)

/-- 'dotterellaw18.VolumeBytes', WHERE WHAT IT READS IS OF BULK AT MOST 1048576: true; the input reads as it did. -/
def volumeBytesUptoRow : OpenClaim := { program := "ytcgecalbgkkinaagreat", sum := "056fe6858e33e0c764949153d0e88328adb31c649843a5074d6d917f4bdea9a7", func := "dotterel/dotterellaw18.VolumeBytes", spec := "volumeBytes", inPlace := ["maps.clone"], unfollowed := true, recurses := true, apart := false, narrowed := true }
def VolumeBytesUptoSaid : Prop := volumeBytesUptoRow.holds Tryz.pinned (OpenSpec.upto volumeBytesSpec)

end Rows
end Go.Proofs.YtcgecalbgkkinaaGreat
