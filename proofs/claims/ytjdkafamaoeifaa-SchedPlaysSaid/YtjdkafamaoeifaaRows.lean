/-
  No cell of these rows narrows 'for every input' (looked for: loops, veiled, ifaces, maps, wideKeys, modest, calm, conditions, laid).
  DERIVED. THE GIVEN ROWS OF THIS SEAT. 7 by the template 'for every input the law returns true; each argument reads behind the call as it read before'; 0 by the template 'total and deterministic' (their statements: YtjdkafamaoeifaaTotals.lean).
  GIVEN WITH THE SEED: the statements are not yours to turn. If you find one false, say at which input.
  Laid BY PROGRAM, IN A SANDBOX (cutbox-rows.mjs): the forced cells as the released guide's own fill.sh prints them over the translation 4c2fbf6fcbee697a… (all of the seat's roots in one cut). By AI agents, Wed Nov 11 2026. No macro, syntax, notation, axiom, sorry.
-/
import Derived.Test.YtjdkafamaoeifaaChecked
import GoSem.Claim
import GoSem.ClaimJoined
import GoSem.ClaimMapViews
import Derived.JoinedTies
import Derived.KernelRfl
namespace Go.Proofs.Ytjdkafamaoeifaa
/- THE CELL 'sum', in the pinned program and in every row, IS THE sha256 OF THE DUMP (.gsa) THAT YtjdkafamaoeifaaProg.lean LOADS. Nothing in Lean hashes anything: it is a label: what it is worth is what the hold of that sum in a sandbox is worth. -/
noncomputable def Try.pinned : Pinned := { name := "ytjdkafamaoeifaa", sum := "4c2fbf6fcbee697ac95a6d508c4ba640492e85adf6fb129316ae7d0cd9fc4266", checked := Try.checked }
namespace Rows
def none {H : Type} : Left H := { results := [], args := [] }

/-- 'dotterellaw12.SchedLimit': WHATEVER THE INPUT: true; the input reads as it did. -/
def schedLimitSpec : ChangeSpec := { name := "schedLimit", fn := fun _ => fun
  | [d1, d2] => { results := [.lit (.bool true)], args := [d1, d2] }
  | _ => none }
def schedLimitRow : OpenClaim := { program := "ytjdkafamaoeifaa", sum := "4c2fbf6fcbee697ac95a6d508c4ba640492e85adf6fb129316ae7d0cd9fc4266", func := "dotterel/dotterellaw12.SchedLimit", spec := "schedLimit", unfollowed := true, recurses := true, apart := false }
def SchedLimitSaid : Prop := schedLimitRow.holds Try.pinned (OpenSpec.ofChange schedLimitSpec)

/-- ITS FALSE NEIGHBOUR: 'it returns false'. Refute it at one input. -/
def schedLimitWrong : ChangeSpec := { name := "schedLimit", fn := fun _ => fun
  | [d1, d2] => { results := [.lit (.bool false)], args := [d1, d2] }
  | _ => none }
def SchedLimitWrongFalsely : Prop := schedLimitRow.holds Try.pinned (OpenSpec.ofChange schedLimitWrong)

/-- 'dotterellaw12.SchedReserve': WHATEVER THE INPUT: true; the input reads as it did. -/
def schedReserveSpec : ChangeSpec := { name := "schedReserve", fn := fun _ => fun
  | [d1, d2, d3, d4] => { results := [.lit (.bool true)], args := [d1, d2, d3, d4] }
  | _ => none }
def schedReserveRow : OpenClaim := { program := "ytjdkafamaoeifaa", sum := "4c2fbf6fcbee697ac95a6d508c4ba640492e85adf6fb129316ae7d0cd9fc4266", func := "dotterel/dotterellaw12.SchedReserve", spec := "schedReserve", unfollowed := true, recurses := true, apart := false }
def SchedReserveSaid : Prop := schedReserveRow.holds Try.pinned (OpenSpec.ofChange schedReserveSpec)

/-- ITS FALSE NEIGHBOUR: 'it returns false'. Refute it at one input. -/
def schedReserveWrong : ChangeSpec := { name := "schedReserve", fn := fun _ => fun
  | [d1, d2, d3, d4] => { results := [.lit (.bool false)], args := [d1, d2, d3, d4] }
  | _ => none }
def SchedReserveWrongFalsely : Prop := schedReserveRow.holds Try.pinned (OpenSpec.ofChange schedReserveWrong)

/-- 'dotterellaw12.SchedShares': WHATEVER THE INPUT: true; the input reads as it did. -/
def schedSharesSpec : ChangeSpec := { name := "schedShares", fn := fun _ => fun
  | [d1, d2, d3] => { results := [.lit (.bool true)], args := [d1, d2, d3] }
  | _ => none }
def schedSharesRow : OpenClaim := { program := "ytjdkafamaoeifaa", sum := "4c2fbf6fcbee697ac95a6d508c4ba640492e85adf6fb129316ae7d0cd9fc4266", func := "dotterel/dotterellaw12.SchedShares", spec := "schedShares", unfollowed := true, recurses := true, apart := false }
def SchedSharesSaid : Prop := schedSharesRow.holds Try.pinned (OpenSpec.ofChange schedSharesSpec)

/-- ITS FALSE NEIGHBOUR: 'it returns false'. Refute it at one input. -/
def schedSharesWrong : ChangeSpec := { name := "schedShares", fn := fun _ => fun
  | [d1, d2, d3] => { results := [.lit (.bool false)], args := [d1, d2, d3] }
  | _ => none }
def SchedSharesWrongFalsely : Prop := schedSharesRow.holds Try.pinned (OpenSpec.ofChange schedSharesWrong)

/-- 'dotterellaw12.SchedOrder': WHATEVER THE INPUT: true; the input reads as it did. -/
def schedOrderSpec : ChangeSpec := { name := "schedOrder", fn := fun _ => fun
  | [d] => { results := [.lit (.bool true)], args := [d] }
  | _ => none }
def schedOrderRow : OpenClaim := { program := "ytjdkafamaoeifaa", sum := "4c2fbf6fcbee697ac95a6d508c4ba640492e85adf6fb129316ae7d0cd9fc4266", func := "dotterel/dotterellaw12.SchedOrder", spec := "schedOrder", unfollowed := true, recurses := true, apart := false }
def SchedOrderSaid : Prop := schedOrderRow.holds Try.pinned (OpenSpec.ofChange schedOrderSpec)

/-- ITS FALSE NEIGHBOUR: 'it returns false'. Refute it at one input. -/
def schedOrderWrong : ChangeSpec := { name := "schedOrder", fn := fun _ => fun
  | [d] => { results := [.lit (.bool false)], args := [d] }
  | _ => none }
def SchedOrderWrongFalsely : Prop := schedOrderRow.holds Try.pinned (OpenSpec.ofChange schedOrderWrong)

/-- 'dotterellaw12.SchedVersions': WHATEVER THE INPUT: true; the input reads as it did. -/
def schedVersionsSpec : ChangeSpec := { name := "schedVersions", fn := fun _ => fun
  | [d1, d2, d3] => { results := [.lit (.bool true)], args := [d1, d2, d3] }
  | _ => none }
def schedVersionsRow : OpenClaim := { program := "ytjdkafamaoeifaa", sum := "4c2fbf6fcbee697ac95a6d508c4ba640492e85adf6fb129316ae7d0cd9fc4266", func := "dotterel/dotterellaw12.SchedVersions", spec := "schedVersions", unfollowed := true, recurses := true, apart := false }
def SchedVersionsSaid : Prop := schedVersionsRow.holds Try.pinned (OpenSpec.ofChange schedVersionsSpec)

/-- ITS FALSE NEIGHBOUR: 'it returns false'. Refute it at one input. -/
def schedVersionsWrong : ChangeSpec := { name := "schedVersions", fn := fun _ => fun
  | [d1, d2, d3] => { results := [.lit (.bool false)], args := [d1, d2, d3] }
  | _ => none }
def SchedVersionsWrongFalsely : Prop := schedVersionsRow.holds Try.pinned (OpenSpec.ofChange schedVersionsWrong)

/-- 'dotterellaw29.FairSched': WHATEVER THE INPUT: true; the input reads as it did. -/
def fairSchedSpec : ChangeSpec := { name := "fairSched", fn := fun _ => fun
  | [d1, d2, d3] => { results := [.lit (.bool true)], args := [d1, d2, d3] }
  | _ => none }
def fairSchedRow : OpenClaim := { program := "ytjdkafamaoeifaa", sum := "4c2fbf6fcbee697ac95a6d508c4ba640492e85adf6fb129316ae7d0cd9fc4266", func := "dotterel/dotterellaw29.FairSched", spec := "fairSched", unfollowed := true, recurses := true, apart := false }
def FairSchedSaid : Prop := fairSchedRow.holds Try.pinned (OpenSpec.ofChange fairSchedSpec)

/-- ITS FALSE NEIGHBOUR: 'it returns false'. Refute it at one input. -/
def fairSchedWrong : ChangeSpec := { name := "fairSched", fn := fun _ => fun
  | [d1, d2, d3] => { results := [.lit (.bool false)], args := [d1, d2, d3] }
  | _ => none }
def FairSchedWrongFalsely : Prop := fairSchedRow.holds Try.pinned (OpenSpec.ofChange fairSchedWrong)

/-- 'dotterellaw12.SchedPlays': WHATEVER THE INPUT: true; the input reads as it did. -/
def schedPlaysSpec : ChangeSpec := { name := "schedPlays", fn := fun _ => fun
  | [d] => { results := [.lit (.bool true)], args := [d] }
  | _ => none }
def schedPlaysRow : OpenClaim := { program := "ytjdkafamaoeifaa", sum := "4c2fbf6fcbee697ac95a6d508c4ba640492e85adf6fb129316ae7d0cd9fc4266", func := "dotterel/dotterellaw12.SchedPlays", spec := "schedPlays", unfollowed := true, recurses := true, apart := false }
def SchedPlaysSaid : Prop := schedPlaysRow.holds Try.pinned (OpenSpec.ofChange schedPlaysSpec)

/-- ITS FALSE NEIGHBOUR: 'it returns false'. Refute it at one input. -/
def schedPlaysWrong : ChangeSpec := { name := "schedPlays", fn := fun _ => fun
  | [d] => { results := [.lit (.bool false)], args := [d] }
  | _ => none }
def SchedPlaysWrongFalsely : Prop := schedPlaysRow.holds Try.pinned (OpenSpec.ofChange schedPlaysWrong)

/- THE SECOND FORM. 'bulk': how many values and letters a reading holds, each counted each time it is reached (what is shared counts as often as it is met; a slice's spare places count too). A statement '..UptoSaid' is the law's where the arguments, and the package variables that the reading takes, are together of bulk at most 1048576: NARROWER than '..Said'. Prove '..Said' where nothing that the law and all that it calls make is longer than what came in: it says more and counts as full. Else prove '..UptoSaid'. A law counts once. -/
mutual
def uptoBulk {H : Type} : DataW H → Nat
  | .lit (.string bytes) => bytes.length + 1
  | .lit _ => 1
  | .nil => 1
  | .ptr d => uptoBulk d + 1
  | .slice elems spare => uptoBulkAll elems + uptoBulkAll spare + 1
  | .agg parts => uptoBulkAll parts + 1
  | .iface _ d => uptoBulk d + 1
  | .map entries => uptoBulkEntries entries + 1
  | .held _ => 1
def uptoBulkAll {H : Type} : List (DataW H) → Nat
  | [] => 0
  | d :: r => uptoBulk d + uptoBulkAll r
def uptoBulkEntries {H : Type} : List (Lit × DataW H) → Nat
  | [] => 0
  | x :: r => uptoBulkEntry x + uptoBulkEntries r
def uptoBulkEntry {H : Type} : Lit × DataW H → Nat
  | (.string bytes, d) => bytes.length + uptoBulk d + 1
  | (_, d) => uptoBulk d + 1
 end
def uptoSmall : (H : Type) → List (DataW H) → Bool := fun _ ds => decide (uptoBulkAll ds ≤ 1048576)
def OpenSpec.upto (s : _root_.Go.ChangeSpec) : _root_.Go.OpenSpec := { _root_.Go.OpenSpec.ofChange s with cond := some uptoSmall }

/-- 'dotterellaw12.SchedLimit', WHERE WHAT IT READS IS OF BULK AT MOST 1048576: true; the input reads as it did. -/
def schedLimitUptoRow : OpenClaim := { program := "ytjdkafamaoeifaa", sum := "4c2fbf6fcbee697ac95a6d508c4ba640492e85adf6fb129316ae7d0cd9fc4266", func := "dotterel/dotterellaw12.SchedLimit", spec := "schedLimit", unfollowed := true, recurses := true, apart := false, narrowed := true }
def SchedLimitUptoSaid : Prop := schedLimitUptoRow.holds Try.pinned (OpenSpec.upto schedLimitSpec)

/-- 'dotterellaw12.SchedReserve', WHERE WHAT IT READS IS OF BULK AT MOST 1048576: true; the input reads as it did. -/
def schedReserveUptoRow : OpenClaim := { program := "ytjdkafamaoeifaa", sum := "4c2fbf6fcbee697ac95a6d508c4ba640492e85adf6fb129316ae7d0cd9fc4266", func := "dotterel/dotterellaw12.SchedReserve", spec := "schedReserve", unfollowed := true, recurses := true, apart := false, narrowed := true }
def SchedReserveUptoSaid : Prop := schedReserveUptoRow.holds Try.pinned (OpenSpec.upto schedReserveSpec)

/-- 'dotterellaw12.SchedShares', WHERE WHAT IT READS IS OF BULK AT MOST 1048576: true; the input reads as it did. -/
def schedSharesUptoRow : OpenClaim := { program := "ytjdkafamaoeifaa", sum := "4c2fbf6fcbee697ac95a6d508c4ba640492e85adf6fb129316ae7d0cd9fc4266", func := "dotterel/dotterellaw12.SchedShares", spec := "schedShares", unfollowed := true, recurses := true, apart := false, narrowed := true }
def SchedSharesUptoSaid : Prop := schedSharesUptoRow.holds Try.pinned (OpenSpec.upto schedSharesSpec)

/-- 'dotterellaw12.SchedOrder', WHERE WHAT IT READS IS OF BULK AT MOST 1048576: true; the input reads as it did. -/
def schedOrderUptoRow : OpenClaim := { program := "ytjdkafamaoeifaa", sum := "4c2fbf6fcbee697ac95a6d508c4ba640492e85adf6fb129316ae7d0cd9fc4266", func := "dotterel/dotterellaw12.SchedOrder", spec := "schedOrder", unfollowed := true, recurses := true, apart := false, narrowed := true }
def SchedOrderUptoSaid : Prop := schedOrderUptoRow.holds Try.pinned (OpenSpec.upto schedOrderSpec)

/-- 'dotterellaw12.SchedVersions', WHERE WHAT IT READS IS OF BULK AT MOST 1048576: true; the input reads as it did. -/
def schedVersionsUptoRow : OpenClaim := { program := "ytjdkafamaoeifaa", sum := "4c2fbf6fcbee697ac95a6d508c4ba640492e85adf6fb129316ae7d0cd9fc4266", func := "dotterel/dotterellaw12.SchedVersions", spec := "schedVersions", unfollowed := true, recurses := true, apart := false, narrowed := true }
def SchedVersionsUptoSaid : Prop := schedVersionsUptoRow.holds Try.pinned (OpenSpec.upto schedVersionsSpec)

/-- 'dotterellaw29.FairSched', WHERE WHAT IT READS IS OF BULK AT MOST 1048576: true; the input reads as it did. -/
def fairSchedUptoRow : OpenClaim := { program := "ytjdkafamaoeifaa", sum := "4c2fbf6fcbee697ac95a6d508c4ba640492e85adf6fb129316ae7d0cd9fc4266", func := "dotterel/dotterellaw29.FairSched", spec := "fairSched", unfollowed := true, recurses := true, apart := false, narrowed := true }
def FairSchedUptoSaid : Prop := fairSchedUptoRow.holds Try.pinned (OpenSpec.upto fairSchedSpec)

/-- 'dotterellaw12.SchedPlays', WHERE WHAT IT READS IS OF BULK AT MOST 1048576: true; the input reads as it did. -/
def schedPlaysUptoRow : OpenClaim := { program := "ytjdkafamaoeifaa", sum := "4c2fbf6fcbee697ac95a6d508c4ba640492e85adf6fb129316ae7d0cd9fc4266", func := "dotterel/dotterellaw12.SchedPlays", spec := "schedPlays", unfollowed := true, recurses := true, apart := false, narrowed := true }
def SchedPlaysUptoSaid : Prop := schedPlaysUptoRow.holds Try.pinned (OpenSpec.upto schedPlaysSpec)

end Rows
end Go.Proofs.Ytjdkafamaoeifaa
