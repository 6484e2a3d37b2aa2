/-
  No cell of these rows narrows 'for every input' (looked for: loops, veiled, ifaces, maps, wideKeys, modest, calm, conditions, laid).
  DERIVED. THE GIVEN ROWS OF THIS SEAT. 12 by the template 'for every input the law returns true; each argument reads behind the call as it read before'; 0 by the template 'total and deterministic' (their statements: YtpjckplokolcnaaTotals.lean).
  GIVEN WITH THE SEED: the statements are not yours to turn. If you find one false, say at which input.
  Laid BY PROGRAM, IN A SANDBOX (cutbox-rows.mjs): the forced cells as the released guide's own fill.sh prints them over the translation 0d2bfec56b78ea7a… (all of the seat's roots in one cut). By AI agents, Wed Nov 11 2026. No macro, syntax, notation, axiom, sorry.
-/
import Derived.Test.YtpjckplokolcnaaChecked
import GoSem.Claim
import GoSem.ClaimJoined
import GoSem.ClaimMapViews
import Derived.JoinedTies
import Derived.KernelRfl
namespace Go.Proofs.Ytpjckplokolcnaa
/- THE CELL 'sum', in the pinned program and in every row, IS THE sha256 OF THE DUMP (.gsa) THAT YtpjckplokolcnaaProg.lean LOADS. Nothing in Lean hashes anything: it is a label: what it is worth is what the hold of that sum in a sandbox is worth. -/
noncomputable def Try.pinned : Pinned := { name := "ytpjckplokolcnaa", sum := "0d2bfec56b78ea7a991a6f086e68fb5509629467afe047cdaca819a444bf15b4", checked := Try.checked }
namespace Rows
def none {H : Type} : Left H := { results := [], args := [] }

/-- 'dotterellaw01.FixnumRooms': WHATEVER THE INPUT: true; the input reads as it did. -/
def fixnumRoomsSpec : ChangeSpec := { name := "fixnumRooms", fn := fun _ => fun
  | [d] => { results := [.lit (.bool true)], args := [d] }
  | _ => none }
def fixnumRoomsRow : OpenClaim := { program := "ytpjckplokolcnaa", sum := "0d2bfec56b78ea7a991a6f086e68fb5509629467afe047cdaca819a444bf15b4", func := "dotterel/dotterellaw01.FixnumRooms", spec := "fixnumRooms", apart := false }
def FixnumRoomsSaid : Prop := fixnumRoomsRow.holds Try.pinned (OpenSpec.ofChange fixnumRoomsSpec)

/-- ITS FALSE NEIGHBOUR: 'it returns false'. Refute it at one input. -/
def fixnumRoomsWrong : ChangeSpec := { name := "fixnumRooms", fn := fun _ => fun
  | [d] => { results := [.lit (.bool false)], args := [d] }
  | _ => none }
def FixnumRoomsWrongFalsely : Prop := fixnumRoomsRow.holds Try.pinned (OpenSpec.ofChange fixnumRoomsWrong)

/-- 'dotterellaw01.FixnumGrows': WHATEVER THE INPUT: true; the input reads as it did. -/
def fixnumGrowsSpec : ChangeSpec := { name := "fixnumGrows", fn := fun _ => fun
  | [d1, d2, d3] => { results := [.lit (.bool true)], args := [d1, d2, d3] }
  | _ => none }
def fixnumGrowsRow : OpenClaim := { program := "ytpjckplokolcnaa", sum := "0d2bfec56b78ea7a991a6f086e68fb5509629467afe047cdaca819a444bf15b4", func := "dotterel/dotterellaw01.FixnumGrows", spec := "fixnumGrows", apart := false }
def FixnumGrowsSaid : Prop := fixnumGrowsRow.holds Try.pinned (OpenSpec.ofChange fixnumGrowsSpec)

/-- ITS FALSE NEIGHBOUR: 'it returns false'. Refute it at one input. -/
def fixnumGrowsWrong : ChangeSpec := { name := "fixnumGrows", fn := fun _ => fun
  | [d1, d2, d3] => { results := [.lit (.bool false)], args := [d1, d2, d3] }
  | _ => none }
def FixnumGrowsWrongFalsely : Prop := fixnumGrowsRow.holds Try.pinned (OpenSpec.ofChange fixnumGrowsWrong)

/-- 'dotterellaw01.FixnumAdds': WHATEVER THE INPUT: true; the input reads as it did. -/
def fixnumAddsSpec : ChangeSpec := { name := "fixnumAdds", fn := fun _ => fun
  | [d1, d2, d3, d4] => { results := [.lit (.bool true)], args := [d1, d2, d3, d4] }
  | _ => none }
def fixnumAddsRow : OpenClaim := { program := "ytpjckplokolcnaa", sum := "0d2bfec56b78ea7a991a6f086e68fb5509629467afe047cdaca819a444bf15b4", func := "dotterel/dotterellaw01.FixnumAdds", spec := "fixnumAdds", apart := false }
def FixnumAddsSaid : Prop := fixnumAddsRow.holds Try.pinned (OpenSpec.ofChange fixnumAddsSpec)

/-- ITS FALSE NEIGHBOUR: 'it returns false'. Refute it at one input. -/
def fixnumAddsWrong : ChangeSpec := { name := "fixnumAdds", fn := fun _ => fun
  | [d1, d2, d3, d4] => { results := [.lit (.bool false)], args := [d1, d2, d3, d4] }
  | _ => none }
def FixnumAddsWrongFalsely : Prop := fixnumAddsRow.holds Try.pinned (OpenSpec.ofChange fixnumAddsWrong)

/-- 'dotterellaw01.FixnumTells': WHATEVER THE INPUT: true; the input reads as it did. -/
def fixnumTellsSpec : ChangeSpec := { name := "fixnumTells", fn := fun _ => fun
  | [d1, d2] => { results := [.lit (.bool true)], args := [d1, d2] }
  | _ => none }
def fixnumTellsRow : OpenClaim := { program := "ytpjckplokolcnaa", sum := "0d2bfec56b78ea7a991a6f086e68fb5509629467afe047cdaca819a444bf15b4", func := "dotterel/dotterellaw01.FixnumTells", spec := "fixnumTells", apart := false }
def FixnumTellsSaid : Prop := fixnumTellsRow.holds Try.pinned (OpenSpec.ofChange fixnumTellsSpec)

/-- ITS FALSE NEIGHBOUR: 'it returns false'. Refute it at one input. -/
def fixnumTellsWrong : ChangeSpec := { name := "fixnumTells", fn := fun _ => fun
  | [d1, d2] => { results := [.lit (.bool false)], args := [d1, d2] }
  | _ => none }
def FixnumTellsWrongFalsely : Prop := fixnumTellsRow.holds Try.pinned (OpenSpec.ofChange fixnumTellsWrong)

/-- 'dotterellaw10.PolicyTells': WHATEVER THE INPUT: true; the input reads as it did. -/
def policyTellsSpec : ChangeSpec := { name := "policyTells", fn := fun _ => fun
  | [d1, d2] => { results := [.lit (.bool true)], args := [d1, d2] }
  | _ => none }
def policyTellsRow : OpenClaim := { program := "ytpjckplokolcnaa", sum := "0d2bfec56b78ea7a991a6f086e68fb5509629467afe047cdaca819a444bf15b4", func := "dotterel/dotterellaw10.PolicyTells", spec := "policyTells", apart := false }
def PolicyTellsSaid : Prop := policyTellsRow.holds Try.pinned (OpenSpec.ofChange policyTellsSpec)

/-- ITS FALSE NEIGHBOUR: 'it returns false'. Refute it at one input. -/
def policyTellsWrong : ChangeSpec := { name := "policyTells", fn := fun _ => fun
  | [d1, d2] => { results := [.lit (.bool false)], args := [d1, d2] }
  | _ => none }
def PolicyTellsWrongFalsely : Prop := policyTellsRow.holds Try.pinned (OpenSpec.ofChange policyTellsWrong)

/-- 'dotterellaw10.PolicyParts': WHATEVER THE INPUT: true; the input reads as it did. -/
def policyPartsSpec : ChangeSpec := { name := "policyParts", fn := fun _ => fun
  | [d1, d2, d3] => { results := [.lit (.bool true)], args := [d1, d2, d3] }
  | _ => none }
def policyPartsRow : OpenClaim := { program := "ytpjckplokolcnaa", sum := "0d2bfec56b78ea7a991a6f086e68fb5509629467afe047cdaca819a444bf15b4", func := "dotterel/dotterellaw10.PolicyParts", spec := "policyParts", apart := false }
def PolicyPartsSaid : Prop := policyPartsRow.holds Try.pinned (OpenSpec.ofChange policyPartsSpec)

/-- ITS FALSE NEIGHBOUR: 'it returns false'. Refute it at one input. -/
def policyPartsWrong : ChangeSpec := { name := "policyParts", fn := fun _ => fun
  | [d1, d2, d3] => { results := [.lit (.bool false)], args := [d1, d2, d3] }
  | _ => none }
def PolicyPartsWrongFalsely : Prop := policyPartsRow.holds Try.pinned (OpenSpec.ofChange policyPartsWrong)

/-- 'dotterellaw10.PolicyLoads': WHATEVER THE INPUT: true; the input reads as it did. -/
def policyLoadsSpec : ChangeSpec := { name := "policyLoads", fn := fun _ => fun
  | [d1, d2, d3] => { results := [.lit (.bool true)], args := [d1, d2, d3] }
  | _ => none }
def policyLoadsRow : OpenClaim := { program := "ytpjckplokolcnaa", sum := "0d2bfec56b78ea7a991a6f086e68fb5509629467afe047cdaca819a444bf15b4", func := "dotterel/dotterellaw10.PolicyLoads", spec := "policyLoads", apart := false }
def PolicyLoadsSaid : Prop := policyLoadsRow.holds Try.pinned (OpenSpec.ofChange policyLoadsSpec)

/-- ITS FALSE NEIGHBOUR: 'it returns false'. Refute it at one input. -/
def policyLoadsWrong : ChangeSpec := { name := "policyLoads", fn := fun _ => fun
  | [d1, d2, d3] => { results := [.lit (.bool false)], args := [d1, d2, d3] }
  | _ => none }
def PolicyLoadsWrongFalsely : Prop := policyLoadsRow.holds Try.pinned (OpenSpec.ofChange policyLoadsWrong)

/-- 'dotterellaw10.PolicyNums': WHATEVER THE INPUT: true; the input reads as it did. -/
def policyNumsSpec : ChangeSpec := { name := "policyNums", fn := fun _ => fun
  | [d1, d2] => { results := [.lit (.bool true)], args := [d1, d2] }
  | _ => none }
def policyNumsRow : OpenClaim := { program := "ytpjckplokolcnaa", sum := "0d2bfec56b78ea7a991a6f086e68fb5509629467afe047cdaca819a444bf15b4", func := "dotterel/dotterellaw10.PolicyNums", spec := "policyNums", apart := false }
def PolicyNumsSaid : Prop := policyNumsRow.holds Try.pinned (OpenSpec.ofChange policyNumsSpec)

/-- ITS FALSE NEIGHBOUR: 'it returns false'. Refute it at one input. -/
def policyNumsWrong : ChangeSpec := { name := "policyNums", fn := fun _ => fun
  | [d1, d2] => { results := [.lit (.bool false)], args := [d1, d2] }
  | _ => none }
def PolicyNumsWrongFalsely : Prop := policyNumsRow.holds Try.pinned (OpenSpec.ofChange policyNumsWrong)

/-- 'dotterellaw11.ClocksLimit': WHATEVER THE INPUT: true; the input reads as it did. -/
def clocksLimitSpec : ChangeSpec := { name := "clocksLimit", fn := fun _ => fun
  | [d1, d2, d3, d4, d5] => { results := [.lit (.bool true)], args := [d1, d2, d3, d4, d5] }
  | _ => none }
def clocksLimitRow : OpenClaim := { program := "ytpjckplokolcnaa", sum := "0d2bfec56b78ea7a991a6f086e68fb5509629467afe047cdaca819a444bf15b4", func := "dotterel/dotterellaw11.ClocksLimit", spec := "clocksLimit", apart := false }
def ClocksLimitSaid : Prop := clocksLimitRow.holds Try.pinned (OpenSpec.ofChange clocksLimitSpec)

/-- ITS FALSE NEIGHBOUR: 'it returns false'. Refute it at one input. -/
def clocksLimitWrong : ChangeSpec := { name := "clocksLimit", fn := fun _ => fun
  | [d1, d2, d3, d4, d5] => { results := [.lit (.bool false)], args := [d1, d2, d3, d4, d5] }
  | _ => none }
def ClocksLimitWrongFalsely : Prop := clocksLimitRow.holds Try.pinned (OpenSpec.ofChange clocksLimitWrong)

/-- 'dotterellaw11.ClocksSpaces': WHATEVER THE INPUT: true; the input reads as it did. -/
def clocksSpacesSpec : ChangeSpec := { name := "clocksSpaces", fn := fun _ => fun
  | [d1, d2, d3, d4] => { results := [.lit (.bool true)], args := [d1, d2, d3, d4] }
  | _ => none }
def clocksSpacesRow : OpenClaim := { program := "ytpjckplokolcnaa", sum := "0d2bfec56b78ea7a991a6f086e68fb5509629467afe047cdaca819a444bf15b4", func := "dotterel/dotterellaw11.ClocksSpaces", spec := "clocksSpaces", apart := false }
def ClocksSpacesSaid : Prop := clocksSpacesRow.holds Try.pinned (OpenSpec.ofChange clocksSpacesSpec)

/-- ITS FALSE NEIGHBOUR: 'it returns false'. Refute it at one input. -/
def clocksSpacesWrong : ChangeSpec := { name := "clocksSpaces", fn := fun _ => fun
  | [d1, d2, d3, d4] => { results := [.lit (.bool false)], args := [d1, d2, d3, d4] }
  | _ => none }
def ClocksSpacesWrongFalsely : Prop := clocksSpacesRow.holds Try.pinned (OpenSpec.ofChange clocksSpacesWrong)

/-- 'dotterellaw11.ClocksTell': WHATEVER THE INPUT: true; the input reads as it did. -/
def clocksTellSpec : ChangeSpec := { name := "clocksTell", fn := fun _ => fun
  | [d1, d2, d3, d4, d5, d6, d7] => { results := [.lit (.bool true)], args := [d1, d2, d3, d4, d5, d6, d7] }
  | _ => none }
def clocksTellRow : OpenClaim := { program := "ytpjckplokolcnaa", sum := "0d2bfec56b78ea7a991a6f086e68fb5509629467afe047cdaca819a444bf15b4", func := "dotterel/dotterellaw11.ClocksTell", spec := "clocksTell", apart := false }
def ClocksTellSaid : Prop := clocksTellRow.holds Try.pinned (OpenSpec.ofChange clocksTellSpec)

/-- ITS FALSE NEIGHBOUR: 'it returns false'. Refute it at one input. -/
def clocksTellWrong : ChangeSpec := { name := "clocksTell", fn := fun _ => fun
  | [d1, d2, d3, d4, d5, d6, d7] => { results := [.lit (.bool false)], args := [d1, d2, d3, d4, d5, d6, d7] }
  | _ => none }
def ClocksTellWrongFalsely : Prop := clocksTellRow.holds Try.pinned (OpenSpec.ofChange clocksTellWrong)

/-- 'dotterellaw11.ClocksRise': WHATEVER THE INPUT: true; the input reads as it did. -/
def clocksRiseSpec : ChangeSpec := { name := "clocksRise", fn := fun _ => fun
  | [d1, d2, d3, d4, d5, d6, d7] => { results := [.lit (.bool true)], args := [d1, d2, d3, d4, d5, d6, d7] }
  | _ => none }
def clocksRiseRow : OpenClaim := { program := "ytpjckplokolcnaa", sum := "0d2bfec56b78ea7a991a6f086e68fb5509629467afe047cdaca819a444bf15b4", func := "dotterel/dotterellaw11.ClocksRise", spec := "clocksRise", apart := false }
def ClocksRiseSaid : Prop := clocksRiseRow.holds Try.pinned (OpenSpec.ofChange clocksRiseSpec)

/-- ITS FALSE NEIGHBOUR: 'it returns false'. Refute it at one input. -/
def clocksRiseWrong : ChangeSpec := { name := "clocksRise", fn := fun _ => fun
  | [d1, d2, d3, d4, d5, d6, d7] => { results := [.lit (.bool false)], args := [d1, d2, d3, d4, d5, d6, d7] }
  | _ => none }
def ClocksRiseWrongFalsely : Prop := clocksRiseRow.holds Try.pinned (OpenSpec.ofChange clocksRiseWrong)

/- THE SECOND FORM. 'bulk': how many values and letters a reading holds, each counted each time it is reached (what is shared counts as often as it is met; a slice's spare places count too). A statement '..UptoSaid' is the law's where the arguments, and the package variables that the reading takes, are together of bulk at most 1048576: NARROWER than '..Said'. Prove '..Said' where nothing that the law and all that it calls make is longer than what came in: it says more and counts as full. Else prove '..UptoSaid'. A law counts once. -/
mutual
def uptoBulk {H : Type} : DataW H → Nat
  | .lit (.string bytes) => bytes.length + 1
  | .lit _ => 1
  | .nil => 1
  | .ptr d => uptoBulk d + 1
  | .slice elems spare => uptoBulkAll elems + uptoBulkAll spare + 1
  | .agg parts => uptoBulkAll parts + 1
  | .iface _ d => uptoBulk d + 1
  | .map entries => uptoBulkEntries entries + 1
  | .held _ => 1
def uptoBulkAll {H : Type} : List (DataW H) → Nat
  | [] => 0
  | d :: r => uptoBulk d + uptoBulkAll r
def uptoBulkEntries {H : Type} : List (Lit × DataW H) → Nat
  | [] => 0
  | x :: r => uptoBulkEntry x + uptoBulkEntries r
def uptoBulkEntry {H : Type} : Lit × DataW H → Nat
  | (.string bytes, d) => bytes.length + uptoBulk d + 1
  | (_, d) => uptoBulk d + 1
 end
def uptoSmall : (H : Type) → List (DataW H) → Bool := fun _ ds => decide (uptoBulkAll ds ≤ 1048576)
def OpenSpec.upto (s : _root_.Go.ChangeSpec) : _root_.Go.OpenSpec := { _root_.Go.OpenSpec.ofChange s with cond := some uptoSmall }

/-- 'dotterellaw01.FixnumRooms', WHERE WHAT IT READS IS OF BULK AT MOST 1048576: true; the input reads as it did. -/
def fixnumRoomsUptoRow : OpenClaim := { program := "ytpjckplokolcnaa", sum := "0d2bfec56b78ea7a991a6f086e68fb5509629467afe047cdaca819a444bf15b4", func := "dotterel/dotterellaw01.FixnumRooms", spec := "fixnumRooms", apart := false, narrowed := true }
def FixnumRoomsUptoSaid : Prop := fixnumRoomsUptoRow.holds Try.pinned (OpenSpec.upto fixnumRoomsSpec)

/-- 'dotterellaw01.FixnumGrows', WHERE WHAT IT READS IS OF BULK AT MOST 1048576: true; the input reads as it did. -/
def fixnumGrowsUptoRow : OpenClaim := { program := "ytpjckplokolcnaa", sum := "0d2bfec56b78ea7a991a6f086e68fb5509629467afe047cdaca819a444bf15b4", func := "dotterel/dotterellaw01.FixnumGrows", spec := "fixnumGrows", apart := false, narrowed := true }
def FixnumGrowsUptoSaid : Prop := fixnumGrowsUptoRow.holds Try.pinned (OpenSpec.upto fixnumGrowsSpec)

/-- 'dotterellaw01.FixnumAdds', WHERE WHAT IT READS IS OF BULK AT MOST 1048576: true; the input reads as it did. -/
def fixnumAddsUptoRow : OpenClaim := { program := "ytpjckplokolcnaa", sum := "0d2bfec56b78ea7a991a6f086e68fb5509629467afe047cdaca819a444bf15b4", func := "dotterel/dotterellaw01.FixnumAdds", spec := "fixnumAdds", apart := false, narrowed := true }
def FixnumAddsUptoSaid : Prop := fixnumAddsUptoRow.holds Try.pinned (OpenSpec.upto fixnumAddsSpec)

/-- 'dotterellaw01.FixnumTells', WHERE WHAT IT READS IS OF BULK AT MOST 1048576: true; the input reads as it did. -/
def fixnumTellsUptoRow : OpenClaim := { program := "ytpjckplokolcnaa", sum := "0d2bfec56b78ea7a991a6f086e68fb5509629467afe047cdaca819a444bf15b4", func := "dotterel/dotterellaw01.FixnumTells", spec := "fixnumTells", apart := false, narrowed := true }
def FixnumTellsUptoSaid : Prop := fixnumTellsUptoRow.holds Try.pinned (OpenSpec.upto fixnumTellsSpec)

/-- 'dotterellaw10.PolicyTells', WHERE WHAT IT READS IS OF BULK AT MOST 1048576: true; the input reads as it did. -/
def policyTellsUptoRow : OpenClaim := { program := "ytpjckplokolcnaa", sum := "0d2bfec56b78ea7a991a6f086e68fb5509629467afe047cdaca819a444bf15b4", func := "dotterel/dotterellaw10.PolicyTells", spec := "policyTells", apart := false, narrowed := true }
def PolicyTellsUptoSaid : Prop := policyTellsUptoRow.holds Try.pinned (OpenSpec.upto policyTellsSpec)

/-- 'dotterellaw10.PolicyParts', WHERE WHAT IT READS IS OF BULK AT MOST 1048576: true; the input reads as it did. -/
def policyPartsUptoRow : OpenClaim := { program := "ytpjckplokolcnaa", sum := "0d2bfec56b78ea7a991a6f086e68fb5509629467afe047cdaca819a444bf15b4", func := "dotterel/dotterellaw10.PolicyParts", spec := "policyParts", apart := false, narrowed := true }
def PolicyPartsUptoSaid : Prop := policyPartsUptoRow.holds Try.pinned (OpenSpec.upto policyPartsSpec)

/-- 'dotterellaw10.PolicyLoads', WHERE WHAT IT READS IS OF BULK AT MOST 1048576: true; the input reads as it did. -/
def policyLoadsUptoRow : OpenClaim := { program := "ytpjckplokolcnaa", sum := "0d2bfec56b78ea7a991a6f086e68fb5509629467afe047cdaca819a444bf15b4", func := "dotterel/dotterellaw10.PolicyLoads", spec := "policyLoads", apart := false, narrowed := true }
def PolicyLoadsUptoSaid : Prop := policyLoadsUptoRow.holds Try.pinned (OpenSpec.upto policyLoadsSpec)

/-- 'dotterellaw10.PolicyNums', WHERE WHAT IT READS IS OF BULK AT MOST 1048576: true; the input reads as it did. -/
def policyNumsUptoRow : OpenClaim := { program := "ytpjckplokolcnaa", sum := "0d2bfec56b78ea7a991a6f086e68fb5509629467afe047cdaca819a444bf15b4", func := "dotterel/dotterellaw10.PolicyNums", spec := "policyNums", apart := false, narrowed := true }
def PolicyNumsUptoSaid : Prop := policyNumsUptoRow.holds Try.pinned (OpenSpec.upto policyNumsSpec)

/-- 'dotterellaw11.ClocksLimit', WHERE WHAT IT READS IS OF BULK AT MOST 1048576: true; the input reads as it did. -/
def clocksLimitUptoRow : OpenClaim := { program := "ytpjckplokolcnaa", sum := "0d2bfec56b78ea7a991a6f086e68fb5509629467afe047cdaca819a444bf15b4", func := "dotterel/dotterellaw11.ClocksLimit", spec := "clocksLimit", apart := false, narrowed := true }
def ClocksLimitUptoSaid : Prop := clocksLimitUptoRow.holds Try.pinned (OpenSpec.upto clocksLimitSpec)

/-- 'dotterellaw11.ClocksSpaces', WHERE WHAT IT READS IS OF BULK AT MOST 1048576: true; the input reads as it did. -/
def clocksSpacesUptoRow : OpenClaim := { program := "ytpjckplokolcnaa", sum := "0d2bfec56b78ea7a991a6f086e68fb5509629467afe047cdaca819a444bf15b4", func := "dotterel/dotterellaw11.ClocksSpaces", spec := "clocksSpaces", apart := false, narrowed := true }
def ClocksSpacesUptoSaid : Prop := clocksSpacesUptoRow.holds Try.pinned (OpenSpec.upto clocksSpacesSpec)

/-- 'dotterellaw11.ClocksTell', WHERE WHAT IT READS IS OF BULK AT MOST 1048576: true; the input reads as it did. -/
def clocksTellUptoRow : OpenClaim := { program := "ytpjckplokolcnaa", sum := "0d2bfec56b78ea7a991a6f086e68fb5509629467afe047cdaca819a444bf15b4", func := "dotterel/dotterellaw11.ClocksTell", spec := "clocksTell", apart := false, narrowed := true }
def ClocksTellUptoSaid : Prop := clocksTellUptoRow.holds Try.pinned (OpenSpec.upto clocksTellSpec)

/-- 'dotterellaw11.ClocksRise', WHERE WHAT IT READS IS OF BULK AT MOST 1048576: true; the input reads as it did. -/
def clocksRiseUptoRow : OpenClaim := { program := "ytpjckplokolcnaa", sum := "0d2bfec56b78ea7a991a6f086e68fb5509629467afe047cdaca819a444bf15b4", func := "dotterel/dotterellaw11.ClocksRise", spec := "clocksRise", apart := false, narrowed := true }
def ClocksRiseUptoSaid : Prop := clocksRiseUptoRow.holds Try.pinned (OpenSpec.upto clocksRiseSpec)

end Rows
end Go.Proofs.Ytpjckplokolcnaa
