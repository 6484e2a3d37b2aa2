/-
  No cell of these rows narrows 'for every input' (looked for: loops, veiled, ifaces, maps, wideKeys, modest, calm, conditions, laid).
  DERIVED. THE GIVEN ROWS OF THIS SEAT. 10 by the template 'for every input the law returns true; each argument reads behind the call as it read before'; 0 by the template 'total and deterministic' (their statements: YtjdgkdaebkflpaaTotals.lean).
  GIVEN WITH THE SEED: the statements are not yours to turn. If you find one false, say at which input.
  Laid BY PROGRAM, IN A SANDBOX (cutbox-rows.mjs): the forced cells as the released guide's own fill.sh prints them over the translation 3b9d75c0f98430e4… (all of the seat's roots in one cut). By AI agents, Wed Nov 11 2026. No macro, syntax, notation, axiom, sorry.
-/
import Derived.Test.YtjdgkdaebkflpaaChecked
import GoSem.Claim
import GoSem.ClaimJoined
import GoSem.ClaimMapViews
import Derived.JoinedTies
import Derived.KernelRfl
namespace Go.Proofs.Ytjdgkdaebkflpaa
/- THE CELL 'sum', in the pinned program and in every row, IS THE sha256 OF THE DUMP (.gsa) THAT YtjdgkdaebkflpaaProg.lean LOADS. Nothing in Lean hashes anything: it is a label: what it is worth is what the hold of that sum in a sandbox is worth. -/
noncomputable def Try.pinned : Pinned := { name := "ytjdgkdaebkflpaa", sum := "3b9d75c0f98430e44b7fadd208900120155bb51af7aa3d0a278f0f945db3afc6", checked := Try.checked }
namespace Rows
def none {H : Type} : Left H := { results := [], args := [] }

/-- 'dotterellaw29.FairBounds': WHATEVER THE INPUT: true; the input reads as it did. -/
def fairBoundsSpec : ChangeSpec := { name := "fairBounds", fn := fun _ => fun
  | [d1, d2, d3, d4] => { results := [.lit (.bool true)], args := [d1, d2, d3, d4] }
  | _ => none }
def fairBoundsRow : OpenClaim := { program := "ytjdgkdaebkflpaa", sum := "3b9d75c0f98430e44b7fadd208900120155bb51af7aa3d0a278f0f945db3afc6", func := "dotterel/dotterellaw29.FairBounds", spec := "fairBounds", apart := false }
def FairBoundsSaid : Prop := fairBoundsRow.holds Try.pinned (OpenSpec.ofChange fairBoundsSpec)

/-- ITS FALSE NEIGHBOUR: 'it returns false'. Refute it at one input. -/
def fairBoundsWrong : ChangeSpec := { name := "fairBounds", fn := fun _ => fun
  | [d1, d2, d3, d4] => { results := [.lit (.bool false)], args := [d1, d2, d3, d4] }
  | _ => none }
def FairBoundsWrongFalsely : Prop := fairBoundsRow.holds Try.pinned (OpenSpec.ofChange fairBoundsWrong)

/-- 'dotterellaw29.FairNone': WHATEVER THE INPUT: true; the input reads as it did. -/
def fairNoneSpec : ChangeSpec := { name := "fairNone", fn := fun _ => fun
  | [d1, d2, d3, d4] => { results := [.lit (.bool true)], args := [d1, d2, d3, d4] }
  | _ => none }
def fairNoneRow : OpenClaim := { program := "ytjdgkdaebkflpaa", sum := "3b9d75c0f98430e44b7fadd208900120155bb51af7aa3d0a278f0f945db3afc6", func := "dotterel/dotterellaw29.FairNone", spec := "fairNone", apart := false }
def FairNoneSaid : Prop := fairNoneRow.holds Try.pinned (OpenSpec.ofChange fairNoneSpec)

/-- ITS FALSE NEIGHBOUR: 'it returns false'. Refute it at one input. -/
def fairNoneWrong : ChangeSpec := { name := "fairNone", fn := fun _ => fun
  | [d1, d2, d3, d4] => { results := [.lit (.bool false)], args := [d1, d2, d3, d4] }
  | _ => none }
def FairNoneWrongFalsely : Prop := fairNoneRow.holds Try.pinned (OpenSpec.ofChange fairNoneWrong)

/-- 'dotterellaw14.RlogMatch': WHATEVER THE INPUT: true; the input reads as it did. -/
def rlogMatchSpec : ChangeSpec := { name := "rlogMatch", fn := fun _ => fun
  | [d1, d2, d3] => { results := [.lit (.bool true)], args := [d1, d2, d3] }
  | _ => none }
def rlogMatchRow : OpenClaim := { program := "ytjdgkdaebkflpaa", sum := "3b9d75c0f98430e44b7fadd208900120155bb51af7aa3d0a278f0f945db3afc6", func := "dotterel/dotterellaw14.RlogMatch", spec := "rlogMatch", apart := false }
def RlogMatchSaid : Prop := rlogMatchRow.holds Try.pinned (OpenSpec.ofChange rlogMatchSpec)

/-- ITS FALSE NEIGHBOUR: 'it returns false'. Refute it at one input. -/
def rlogMatchWrong : ChangeSpec := { name := "rlogMatch", fn := fun _ => fun
  | [d1, d2, d3] => { results := [.lit (.bool false)], args := [d1, d2, d3] }
  | _ => none }
def RlogMatchWrongFalsely : Prop := rlogMatchRow.holds Try.pinned (OpenSpec.ofChange rlogMatchWrong)

/-- 'dotterellaw14.RlogCuts': WHATEVER THE INPUT: true; the input reads as it did. -/
def rlogCutsSpec : ChangeSpec := { name := "rlogCuts", fn := fun _ => fun
  | [d1, d2, d3] => { results := [.lit (.bool true)], args := [d1, d2, d3] }
  | _ => none }
def rlogCutsRow : OpenClaim := { program := "ytjdgkdaebkflpaa", sum := "3b9d75c0f98430e44b7fadd208900120155bb51af7aa3d0a278f0f945db3afc6", func := "dotterel/dotterellaw14.RlogCuts", spec := "rlogCuts", apart := false }
def RlogCutsSaid : Prop := rlogCutsRow.holds Try.pinned (OpenSpec.ofChange rlogCutsSpec)

/-- ITS FALSE NEIGHBOUR: 'it returns false'. Refute it at one input. -/
def rlogCutsWrong : ChangeSpec := { name := "rlogCuts", fn := fun _ => fun
  | [d1, d2, d3] => { results := [.lit (.bool false)], args := [d1, d2, d3] }
  | _ => none }
def RlogCutsWrongFalsely : Prop := rlogCutsRow.holds Try.pinned (OpenSpec.ofChange rlogCutsWrong)

/-- 'dotterellaw09.HeapRises': WHATEVER THE INPUT: true; the input reads as it did. -/
def heapRisesSpec : ChangeSpec := { name := "heapRises", fn := fun _ => fun
  | [d] => { results := [.lit (.bool true)], args := [d] }
  | _ => none }
def heapRisesRow : OpenClaim := { program := "ytjdgkdaebkflpaa", sum := "3b9d75c0f98430e44b7fadd208900120155bb51af7aa3d0a278f0f945db3afc6", func := "dotterel/dotterellaw09.HeapRises", spec := "heapRises", apart := false }
def HeapRisesSaid : Prop := heapRisesRow.holds Try.pinned (OpenSpec.ofChange heapRisesSpec)

/-- ITS FALSE NEIGHBOUR: 'it returns false'. Refute it at one input. -/
def heapRisesWrong : ChangeSpec := { name := "heapRises", fn := fun _ => fun
  | [d] => { results := [.lit (.bool false)], args := [d] }
  | _ => none }
def HeapRisesWrongFalsely : Prop := heapRisesRow.holds Try.pinned (OpenSpec.ofChange heapRisesWrong)

/-- 'dotterellaw19.PlaceEven': WHATEVER THE INPUT: true; the input reads as it did. -/
def placeEvenSpec : ChangeSpec := { name := "placeEven", fn := fun _ => fun
  | [d1, d2, d3] => { results := [.lit (.bool true)], args := [d1, d2, d3] }
  | _ => none }
def placeEvenRow : OpenClaim := { program := "ytjdgkdaebkflpaa", sum := "3b9d75c0f98430e44b7fadd208900120155bb51af7aa3d0a278f0f945db3afc6", func := "dotterel/dotterellaw19.PlaceEven", spec := "placeEven", unfollowed := true, recurses := true, apart := false }
def PlaceEvenSaid : Prop := placeEvenRow.holds Try.pinned (OpenSpec.ofChange placeEvenSpec)

/-- ITS FALSE NEIGHBOUR: 'it returns false'. Refute it at one input. -/
def placeEvenWrong : ChangeSpec := { name := "placeEven", fn := fun _ => fun
  | [d1, d2, d3] => { results := [.lit (.bool false)], args := [d1, d2, d3] }
  | _ => none }
def PlaceEvenWrongFalsely : Prop := placeEvenRow.holds Try.pinned (OpenSpec.ofChange placeEvenWrong)

/-- 'dotterellaw19.PlaceFront': WHATEVER THE INPUT: true; the input reads as it did. -/
def placeFrontSpec : ChangeSpec := { name := "placeFront", fn := fun _ => fun
  | [d1, d2, d3] => { results := [.lit (.bool true)], args := [d1, d2, d3] }
  | _ => none }
def placeFrontRow : OpenClaim := { program := "ytjdgkdaebkflpaa", sum := "3b9d75c0f98430e44b7fadd208900120155bb51af7aa3d0a278f0f945db3afc6", func := "dotterel/dotterellaw19.PlaceFront", spec := "placeFront", unfollowed := true, recurses := true, apart := false }
def PlaceFrontSaid : Prop := placeFrontRow.holds Try.pinned (OpenSpec.ofChange placeFrontSpec)

/-- ITS FALSE NEIGHBOUR: 'it returns false'. Refute it at one input. -/
def placeFrontWrong : ChangeSpec := { name := "placeFront", fn := fun _ => fun
  | [d1, d2, d3] => { results := [.lit (.bool false)], args := [d1, d2, d3] }
  | _ => none }
def PlaceFrontWrongFalsely : Prop := placeFrontRow.holds Try.pinned (OpenSpec.ofChange placeFrontWrong)

/-- 'dotterellaw19.PlaceTells': WHATEVER THE INPUT: true; the input reads as it did. -/
def placeTellsSpec : ChangeSpec := { name := "placeTells", fn := fun _ => fun
  | [d1, d2] => { results := [.lit (.bool true)], args := [d1, d2] }
  | _ => none }
def placeTellsRow : OpenClaim := { program := "ytjdgkdaebkflpaa", sum := "3b9d75c0f98430e44b7fadd208900120155bb51af7aa3d0a278f0f945db3afc6", func := "dotterel/dotterellaw19.PlaceTells", spec := "placeTells", unfollowed := true, recurses := true, apart := false }
def PlaceTellsSaid : Prop := placeTellsRow.holds Try.pinned (OpenSpec.ofChange placeTellsSpec)

/-- ITS FALSE NEIGHBOUR: 'it returns false'. Refute it at one input. -/
def placeTellsWrong : ChangeSpec := { name := "placeTells", fn := fun _ => fun
  | [d1, d2] => { results := [.lit (.bool false)], args := [d1, d2] }
  | _ => none }
def PlaceTellsWrongFalsely : Prop := placeTellsRow.holds Try.pinned (OpenSpec.ofChange placeTellsWrong)

/-- 'dotterellaw09.HeapSame': WHATEVER THE INPUT: true; the input reads as it did. -/
def heapSameSpec : ChangeSpec := { name := "heapSame", fn := fun _ => fun
  | [d1, d2, d3] => { results := [.lit (.bool true)], args := [d1, d2, d3] }
  | _ => none }
def heapSameRow : OpenClaim := { program := "ytjdgkdaebkflpaa", sum := "3b9d75c0f98430e44b7fadd208900120155bb51af7aa3d0a278f0f945db3afc6", func := "dotterel/dotterellaw09.HeapSame", spec := "heapSame", unfollowed := true, recurses := true, apart := false }
def HeapSameSaid : Prop := heapSameRow.holds Try.pinned (OpenSpec.ofChange heapSameSpec)

/-- ITS FALSE NEIGHBOUR: 'it returns false'. Refute it at one input. -/
def heapSameWrong : ChangeSpec := { name := "heapSame", fn := fun _ => fun
  | [d1, d2, d3] => { results := [.lit (.bool false)], args := [d1, d2, d3] }
  | _ => none }
def HeapSameWrongFalsely : Prop := heapSameRow.holds Try.pinned (OpenSpec.ofChange heapSameWrong)

/-- 'dotterellaw09.HeapPlays': WHATEVER THE INPUT: true; the input reads as it did. -/
def heapPlaysSpec : ChangeSpec := { name := "heapPlays", fn := fun _ => fun
  | [d] => { results := [.lit (.bool true)], args := [d] }
  | _ => none }
def heapPlaysRow : OpenClaim := { program := "ytjdgkdaebkflpaa", sum := "3b9d75c0f98430e44b7fadd208900120155bb51af7aa3d0a278f0f945db3afc6", func := "dotterel/dotterellaw09.HeapPlays", spec := "heapPlays", unfollowed := true, recurses := true, apart := false }
def HeapPlaysSaid : Prop := heapPlaysRow.holds Try.pinned (OpenSpec.ofChange heapPlaysSpec)

/-- ITS FALSE NEIGHBOUR: 'it returns false'. Refute it at one input. -/
def heapPlaysWrong : ChangeSpec := { name := "heapPlays", fn := fun _ => fun
  | [d] => { results := [.lit (.bool false)], args := [d] }
  | _ => none }
def HeapPlaysWrongFalsely : Prop := heapPlaysRow.holds Try.pinned (OpenSpec.ofChange heapPlaysWrong)

/- THE SECOND FORM. 'bulk': how many values and letters a reading holds, each counted each time it is reached (what is shared counts as often as it is met; a slice's spare places count too). A statement '..UptoSaid' is the law's where the arguments, and the package variables that the reading takes, are together of bulk at most 1048576: NARROWER than '..Said'. Prove '..Said' where nothing that the law and all that it calls make is longer than what came in: it says more and counts as full. Else prove '..UptoSaid'. A law counts once. -/
mutual
def uptoBulk {H : Type} : DataW H → Nat
  | .lit (.string bytes) => bytes.length + 1
  | .lit _ => 1
  | .nil => 1
  | .ptr d => uptoBulk d + 1
  | .slice elems spare => uptoBulkAll elems + uptoBulkAll spare + 1
  | .agg parts => uptoBulkAll parts + 1
  | .iface _ d => uptoBulk d + 1
  | .map entries => uptoBulkEntries entries + 1
  | .held _ => 1
def uptoBulkAll {H : Type} : List (DataW H) → Nat
  | [] => 0
  | d :: r => uptoBulk d + uptoBulkAll r
def uptoBulkEntries {H : Type} : List (Lit × DataW H) → Nat
  | [] => 0
  | x :: r => uptoBulkEntry x + uptoBulkEntries r
def uptoBulkEntry {H : Type} : Lit × DataW H → Nat
  | (.string bytes, d) => bytes.length + uptoBulk d + 1
  | (_, d) => uptoBulk d + 1
 end
def uptoSmall : (H : Type) → List (DataW H) → Bool := fun _ ds => decide (uptoBulkAll ds ≤ 1048576)
def OpenSpec.upto (s : _root_.Go.ChangeSpec) : _root_.Go.OpenSpec := { _root_.Go.OpenSpec.ofChange s with cond := some uptoSmall }

/-- 'dotterellaw29.FairBounds', WHERE WHAT IT READS IS OF BULK AT MOST 1048576: true; the input reads as it did. -/
def fairBoundsUptoRow : OpenClaim := { program := "ytjdgkdaebkflpaa", sum := "3b9d75c0f98430e44b7fadd208900120155bb51af7aa3d0a278f0f945db3afc6", func := "dotterel/dotterellaw29.FairBounds", spec := "fairBounds", apart := false, narrowed := true }
def FairBoundsUptoSaid : Prop := fairBoundsUptoRow.holds Try.pinned (OpenSpec.upto fairBoundsSpec)

/-- 'dotterellaw29.FairNone', WHERE WHAT IT READS IS OF BULK AT MOST 1048576: true; the input reads as it did. -/
def fairNoneUptoRow : OpenClaim := { program := "ytjdgkdaebkflpaa", sum := "3b9d75c0f98430e44b7fadd208900120155bb51af7aa3d0a278f0f945db3afc6", func := "dotterel/dotterellaw29.FairNone", spec := "fairNone", apart := false, narrowed := true }
def FairNoneUptoSaid : Prop := fairNoneUptoRow.holds Try.pinned (OpenSpec.upto fairNoneSpec)

/-- 'dotterellaw14.RlogMatch', WHERE WHAT IT READS IS OF BULK AT MOST 1048576: true; the input reads as it did. -/
def rlogMatchUptoRow : OpenClaim := { program := "ytjdgkdaebkflpaa", sum := "3b9d75c0f98430e44b7fadd208900120155bb51af7aa3d0a278f0f945db3afc6", func := "dotterel/dotterellaw14.RlogMatch", spec := "rlogMatch", apart := false, narrowed := true }
def RlogMatchUptoSaid : Prop := rlogMatchUptoRow.holds Try.pinned (OpenSpec.upto rlogMatchSpec)

/-- 'dotterellaw14.RlogCuts', WHERE WHAT IT READS IS OF BULK AT MOST 1048576: true; the input reads as it did. -/
def rlogCutsUptoRow : OpenClaim := { program := "ytjdgkdaebkflpaa", sum := "3b9d75c0f98430e44b7fadd208900120155bb51af7aa3d0a278f0f945db3afc6", func := "dotterel/dotterellaw14.RlogCuts", spec := "rlogCuts", apart := false, narrowed := true }
def RlogCutsUptoSaid : Prop := rlogCutsUptoRow.holds Try.pinned (OpenSpec.upto rlogCutsSpec)

/-- 'dotterellaw09.HeapRises', WHERE WHAT IT READS IS OF BULK AT MOST 1048576: true; the input reads as it did. -/
def heapRisesUptoRow : OpenClaim := { program := "ytjdgkdaebkflpaa", sum := "3b9d75c0f98430e44b7fadd208900120155bb51af7aa3d0a278f0f945db3afc6", func := "dotterel/dotterellaw09.HeapRises", spec := "heapRises", apart := false, narrowed := true }
def HeapRisesUptoSaid : Prop := heapRisesUptoRow.holds Try.pinned (OpenSpec.upto heapRisesSpec)

/-- 'dotterellaw19.PlaceEven', WHERE WHAT IT READS IS OF BULK AT MOST 1048576: true; the input reads as it did. -/
def placeEvenUptoRow : OpenClaim := { program := "ytjdgkdaebkflpaa", sum := "3b9d75c0f98430e44b7fadd208900120155bb51af7aa3d0a278f0f945db3afc6", func := "dotterel/dotterellaw19.PlaceEven", spec := "placeEven", unfollowed := true, recurses := true, apart := false, narrowed := true }
def PlaceEvenUptoSaid : Prop := placeEvenUptoRow.holds Try.pinned (OpenSpec.upto placeEvenSpec)

/-- 'dotterellaw19.PlaceFront', WHERE WHAT IT READS IS OF BULK AT MOST 1048576: true; the input reads as it did. -/
def placeFrontUptoRow : OpenClaim := { program := "ytjdgkdaebkflpaa", sum := "3b9d75c0f98430e44b7fadd208900120155bb51af7aa3d0a278f0f945db3afc6", func := "dotterel/dotterellaw19.PlaceFront", spec := "placeFront", unfollowed := true, recurses := true, apart := false, narrowed := true }
def PlaceFrontUptoSaid : Prop := placeFrontUptoRow.holds Try.pinned (OpenSpec.upto placeFrontSpec)

/-- 'dotterellaw19.PlaceTells', WHERE WHAT IT READS IS OF BULK AT MOST 1048576: true; the input reads as it did. -/
def placeTellsUptoRow : OpenClaim := { program := "ytjdgkdaebkflpaa", sum := "3b9d75c0f98430e44b7fadd208900120155bb51af7aa3d0a278f0f945db3afc6", func := "dotterel/dotterellaw19.PlaceTells", spec := "placeTells", unfollowed := true, recurses := true, apart := false, narrowed := true }
def PlaceTellsUptoSaid : Prop := placeTellsUptoRow.holds Try.pinned (OpenSpec.upto placeTellsSpec)

/-- 'dotterellaw09.HeapSame', WHERE WHAT IT READS IS OF BULK AT MOST 1048576: true; the input reads as it did. -/
def heapSameUptoRow : OpenClaim := { program := "ytjdgkdaebkflpaa", sum := "3b9d75c0f98430e44b7fadd208900120155bb51af7aa3d0a278f0f945db3afc6", func := "dotterel/dotterellaw09.HeapSame", spec := "heapSame", unfollowed := true, recurses := true, apart := false, narrowed := true }
def HeapSameUptoSaid : Prop := heapSameUptoRow.holds Try.pinned (OpenSpec.upto heapSameSpec)

/-- 'dotterellaw09.HeapPlays', WHERE WHAT IT READS IS OF BULK AT MOST 1048576: true; the input reads as it did. -/
def heapPlaysUptoRow : OpenClaim := { program := "ytjdgkdaebkflpaa", sum := "3b9d75c0f98430e44b7fadd208900120155bb51af7aa3d0a278f0f945db3afc6", func := "dotterel/dotterellaw09.HeapPlays", spec := "heapPlays", unfollowed := true, recurses := true, apart := false, narrowed := true }
def HeapPlaysUptoSaid : Prop := heapPlaysUptoRow.holds Try.pinned (OpenSpec.upto heapPlaysSpec)

end Rows
end Go.Proofs.Ytjdgkdaebkflpaa
