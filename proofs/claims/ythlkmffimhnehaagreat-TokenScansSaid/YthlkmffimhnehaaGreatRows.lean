/-
  No cell of these rows narrows 'for every input' (looked for: loops, veiled, ifaces, maps, wideKeys, modest, calm, conditions, laid).
  DERIVED. THE GIVEN ROWS OF THIS SEAT. 7 by the template 'for every input the law returns true; each argument reads behind the call as it read before'; 0 by the template 'total and deterministic' (their statements: YthlkmffimhnehaaGreatTotals.lean).
  GIVEN WITH THE SEED: the statements are not yours to turn. If you find one false, say at which input.
  Laid BY PROGRAM, IN A SANDBOX (cutbox-rows.mjs): the forced cells as the released guide's own fill.sh prints them over the translation be96da762854f1c6… (all of the seat's roots in one cut). By AI agents, Wed Nov 11 2026. No macro, syntax, notation, axiom, sorry.
-/
import Derived.Test.YthlkmffimhnehaaGreatChecked
import GoSem.Claim
import GoSem.ClaimJoined
import GoSem.ClaimMapViews
import Derived.JoinedTies
import Derived.KernelRfl
namespace Go.Proofs.YthlkmffimhnehaaGreat
/- THE CELL 'sum', in the pinned program and in every row, IS THE sha256 OF THE DUMP (.gsa) THAT YthlkmffimhnehaaGreatProg.lean LOADS. Nothing in Lean hashes anything: it is a label: what it is worth is what the hold of that sum in a sandbox is worth. -/
noncomputable def Tryz.pinned : Pinned := { name := "ythlkmffimhnehaagreat", sum := "be96da762854f1c64e843df86b53f1594b32b0e4ad859de1867c7b4b5411ef06", checked := Tryz.checked }
namespace Rows
def none {H : Type} : Left H := { results := [], args := [] }

/-- 'libevolutionlaw01.TokenScans': WHATEVER THE INPUT: true; the input reads as it did. -/
def tokenScansSpec : ChangeSpec := { name := "tokenScans", fn := fun _ => fun
  | [d1, d2] => { results := [.lit (.bool true)], args := [d1, d2] }
  | _ => none }
def tokenScansRow : OpenClaim := { program := "ythlkmffimhnehaagreat", sum := "be96da762854f1c64e843df86b53f1594b32b0e4ad859de1867c7b4b5411ef06", func := "libevolution/libevolutionlaw01.TokenScans", spec := "tokenScans", inPlace := ["internal/bytealg.IndexByteString"], unfollowed := true, recurses := true, apart := false }
def TokenScansSaid : Prop := tokenScansRow.holds Tryz.pinned (OpenSpec.ofChange tokenScansSpec)

/-- ITS FALSE NEIGHBOUR: 'it returns false'. Refute it at one input. -/
def tokenScansWrong : ChangeSpec := { name := "tokenScans", fn := fun _ => fun
  | [d1, d2] => { results := [.lit (.bool false)], args := [d1, d2] }
  | _ => none }
def TokenScansWrongFalsely : Prop := tokenScansRow.holds Tryz.pinned (OpenSpec.ofChange tokenScansWrong)

/-- 'libevolutionlaw08.SinceGuards': WHATEVER THE INPUT: true; the input reads as it did. -/
def sinceGuardsSpec : ChangeSpec := { name := "sinceGuards", fn := fun _ => fun
  | [d1, d2, d3, d4] => { results := [.lit (.bool true)], args := [d1, d2, d3, d4] }
  | _ => none }
def sinceGuardsRow : OpenClaim := { program := "ythlkmffimhnehaagreat", sum := "be96da762854f1c64e843df86b53f1594b32b0e4ad859de1867c7b4b5411ef06", func := "libevolution/libevolutionlaw08.SinceGuards", spec := "sinceGuards", inPlace := ["internal/bytealg.IndexByteString", "internal/bytealg.IndexString"], unfollowed := true, recurses := true, named := ["internal/bytealg.MaxLen"], apart := false }
def SinceGuardsSaid : Prop := sinceGuardsRow.holds Tryz.pinned (OpenSpec.ofChange sinceGuardsSpec)

/-- ITS FALSE NEIGHBOUR: 'it returns false'. Refute it at one input. -/
def sinceGuardsWrong : ChangeSpec := { name := "sinceGuards", fn := fun _ => fun
  | [d1, d2, d3, d4] => { results := [.lit (.bool false)], args := [d1, d2, d3, d4] }
  | _ => none }
def SinceGuardsWrongFalsely : Prop := sinceGuardsRow.holds Tryz.pinned (OpenSpec.ofChange sinceGuardsWrong)

/-- 'libevolutionlaw08.SinceRuns': WHATEVER THE INPUT: true; the input reads as it did. -/
def sinceRunsSpec : ChangeSpec := { name := "sinceRuns", fn := fun _ => fun
  | [d1, d2] => { results := [.lit (.bool true)], args := [d1, d2] }
  | _ => none }
def sinceRunsRow : OpenClaim := { program := "ythlkmffimhnehaagreat", sum := "be96da762854f1c64e843df86b53f1594b32b0e4ad859de1867c7b4b5411ef06", func := "libevolution/libevolutionlaw08.SinceRuns", spec := "sinceRuns", inPlace := ["internal/bytealg.IndexByteString", "internal/bytealg.IndexString"], unfollowed := true, recurses := true, named := ["internal/bytealg.MaxLen"], apart := false }
def SinceRunsSaid : Prop := sinceRunsRow.holds Tryz.pinned (OpenSpec.ofChange sinceRunsSpec)

/-- ITS FALSE NEIGHBOUR: 'it returns false'. Refute it at one input. -/
def sinceRunsWrong : ChangeSpec := { name := "sinceRuns", fn := fun _ => fun
  | [d1, d2] => { results := [.lit (.bool false)], args := [d1, d2] }
  | _ => none }
def SinceRunsWrongFalsely : Prop := sinceRunsRow.holds Tryz.pinned (OpenSpec.ofChange sinceRunsWrong)

/-- 'libevolutionlaw08.SinceOwn': WHATEVER THE INPUT: true; the input reads as it did. -/
def sinceOwnSpec : ChangeSpec := { name := "sinceOwn", fn := fun _ => fun
  | [d1, d2, d3] => { results := [.lit (.bool true)], args := [d1, d2, d3] }
  | _ => none }
def sinceOwnRow : OpenClaim := { program := "ythlkmffimhnehaagreat", sum := "be96da762854f1c64e843df86b53f1594b32b0e4ad859de1867c7b4b5411ef06", func := "libevolution/libevolutionlaw08.SinceOwn", spec := "sinceOwn", inPlace := ["internal/bytealg.IndexByteString", "internal/bytealg.IndexString"], unfollowed := true, recurses := true, named := ["internal/bytealg.MaxLen"], apart := false }
def SinceOwnSaid : Prop := sinceOwnRow.holds Tryz.pinned (OpenSpec.ofChange sinceOwnSpec)

/-- ITS FALSE NEIGHBOUR: 'it returns false'. Refute it at one input. -/
def sinceOwnWrong : ChangeSpec := { name := "sinceOwn", fn := fun _ => fun
  | [d1, d2, d3] => { results := [.lit (.bool false)], args := [d1, d2, d3] }
  | _ => none }
def SinceOwnWrongFalsely : Prop := sinceOwnRow.holds Tryz.pinned (OpenSpec.ofChange sinceOwnWrong)

/-- 'libevolutionlaw08.SinceChecks': WHATEVER THE INPUT: true; the input reads as it did. -/
def sinceChecksSpec : ChangeSpec := { name := "sinceChecks", fn := fun _ => fun
  | [d] => { results := [.lit (.bool true)], args := [d] }
  | _ => none }
def sinceChecksRow : OpenClaim := { program := "ythlkmffimhnehaagreat", sum := "be96da762854f1c64e843df86b53f1594b32b0e4ad859de1867c7b4b5411ef06", func := "libevolution/libevolutionlaw08.SinceChecks", spec := "sinceChecks", inPlace := ["internal/bytealg.IndexByteString", "internal/bytealg.IndexString"], unfollowed := true, recurses := true, named := ["internal/bytealg.MaxLen"], apart := false }
def SinceChecksSaid : Prop := sinceChecksRow.holds Tryz.pinned (OpenSpec.ofChange sinceChecksSpec)

/-- ITS FALSE NEIGHBOUR: 'it returns false'. Refute it at one input. -/
def sinceChecksWrong : ChangeSpec := { name := "sinceChecks", fn := fun _ => fun
  | [d] => { results := [.lit (.bool false)], args := [d] }
  | _ => none }
def SinceChecksWrongFalsely : Prop := sinceChecksRow.holds Tryz.pinned (OpenSpec.ofChange sinceChecksWrong)

/-- 'libevolutionlaw08.SinceNeeds': WHATEVER THE INPUT: true; the input reads as it did. -/
def sinceNeedsSpec : ChangeSpec := { name := "sinceNeeds", fn := fun _ => fun
  | [d] => { results := [.lit (.bool true)], args := [d] }
  | _ => none }
def sinceNeedsRow : OpenClaim := { program := "ythlkmffimhnehaagreat", sum := "be96da762854f1c64e843df86b53f1594b32b0e4ad859de1867c7b4b5411ef06", func := "libevolution/libevolutionlaw08.SinceNeeds", spec := "sinceNeeds", inPlace := ["internal/bytealg.IndexByteString", "internal/bytealg.IndexString"], unfollowed := true, recurses := true, named := ["internal/bytealg.MaxLen"], apart := false }
def SinceNeedsSaid : Prop := sinceNeedsRow.holds Tryz.pinned (OpenSpec.ofChange sinceNeedsSpec)

/-- ITS FALSE NEIGHBOUR: 'it returns false'. Refute it at one input. -/
def sinceNeedsWrong : ChangeSpec := { name := "sinceNeeds", fn := fun _ => fun
  | [d] => { results := [.lit (.bool false)], args := [d] }
  | _ => none }
def SinceNeedsWrongFalsely : Prop := sinceNeedsRow.holds Tryz.pinned (OpenSpec.ofChange sinceNeedsWrong)

/-- 'libevolutionlaw08.SinceRaises': WHATEVER THE INPUT: true; the input reads as it did. -/
def sinceRaisesSpec : ChangeSpec := { name := "sinceRaises", fn := fun _ => fun
  | [d1, d2] => { results := [.lit (.bool true)], args := [d1, d2] }
  | _ => none }
def sinceRaisesRow : OpenClaim := { program := "ythlkmffimhnehaagreat", sum := "be96da762854f1c64e843df86b53f1594b32b0e4ad859de1867c7b4b5411ef06", func := "libevolution/libevolutionlaw08.SinceRaises", spec := "sinceRaises", inPlace := ["internal/bytealg.IndexByteString", "internal/bytealg.IndexString"], unfollowed := true, recurses := true, named := ["internal/bytealg.MaxLen"], apart := false }
def SinceRaisesSaid : Prop := sinceRaisesRow.holds Tryz.pinned (OpenSpec.ofChange sinceRaisesSpec)

/-- ITS FALSE NEIGHBOUR: 'it returns false'. Refute it at one input. -/
def sinceRaisesWrong : ChangeSpec := { name := "sinceRaises", fn := fun _ => fun
  | [d1, d2] => { results := [.lit (.bool false)], args := [d1, d2] }
  | _ => none }
def SinceRaisesWrongFalsely : Prop := sinceRaisesRow.holds Tryz.pinned (OpenSpec.ofChange sinceRaisesWrong)

/- THE SECOND FORM. 'bulk': how many values and letters a reading holds, each counted each time it is reached (what is shared counts as often as it is met; a slice's spare places count too). A statement '..UptoSaid' is the law's where the arguments, and the package variables that the reading takes, are together of bulk at most 1048576: NARROWER than '..Said'. Prove '..Said' where nothing that the law and all that it calls make is longer than what came in: it says more and counts as full. Else prove '..UptoSaid'. A law counts once. -/
mutual
def uptoBulk {H : Type} : DataW H → Nat
  | .lit (.string bytes) => bytes.length + 1
  | .lit _ => 1
  | .nil => 1
  | .ptr d => uptoBulk d + 1
  | .slice elems spare => uptoBulkAll elems + uptoBulkAll spare + 1
  | .agg parts => uptoBulkAll parts + 1
  | .iface _ d => uptoBulk d + 1
  | .map entries => uptoBulkEntries entries + 1
  | .held _ => 1
def uptoBulkAll {H : Type} : List (DataW H) → Nat
  | [] => 0
  | d :: r => uptoBulk d + uptoBulkAll r
def uptoBulkEntries {H : Type} : List (Lit × DataW H) → Nat
  | [] => 0
  | x :: r => uptoBulkEntry x + uptoBulkEntries r
def uptoBulkEntry {H : Type} : Lit × DataW H → Nat
  | (.string bytes, d) => bytes.length + uptoBulk d + 1
  | (_, d) => uptoBulk d + 1
 end
def uptoSmall : (H : Type) → List (DataW H) → Bool := fun _ ds => decide (uptoBulkAll ds ≤ 1048576)
def OpenSpec.upto (s : _root_.Go.ChangeSpec) : _root_.Go.OpenSpec := { _root_.Go.OpenSpec.ofChange s with cond := some uptoSmall }

/-- 'libevolutionlaw01.TokenScans', WHERE WHAT IT READS IS OF BULK AT MOST 1048576: true; the input reads as it did. -/
def tokenScansUptoRow : OpenClaim := { program := "ythlkmffimhnehaagreat", sum := "be96da762854f1c64e843df86b53f1594b32b0e4ad859de1867c7b4b5411ef06", func := "libevolution/libevolutionlaw01.TokenScans", spec := "tokenScans", inPlace := ["internal/bytealg.IndexByteString"], unfollowed := true, recurses := true, apart := false, narrowed := true }
def TokenScansUptoSaid : Prop := tokenScansUptoRow.holds Tryz.pinned (OpenSpec.upto tokenScansSpec)

/-- 'libevolutionlaw08.SinceGuards', WHERE WHAT IT READS IS OF BULK AT MOST 1048576: true; the input reads as it did. -/
def sinceGuardsUptoRow : OpenClaim := { program := "ythlkmffimhnehaagreat", sum := "be96da762854f1c64e843df86b53f1594b32b0e4ad859de1867c7b4b5411ef06", func := "libevolution/libevolutionlaw08.SinceGuards", spec := "sinceGuards", inPlace := ["internal/bytealg.IndexByteString", "internal/bytealg.IndexString"], unfollowed := true, recurses := true, named := ["internal/bytealg.MaxLen"], apart := false, narrowed := true }
def SinceGuardsUptoSaid : Prop := sinceGuardsUptoRow.holds Tryz.pinned (OpenSpec.upto sinceGuardsSpec)

/-- 'libevolutionlaw08.SinceRuns', WHERE WHAT IT READS IS OF BULK AT MOST 1048576: true; the input reads as it did. -/
def sinceRunsUptoRow : OpenClaim := { program := "ythlkmffimhnehaagreat", sum := "be96da762854f1c64e843df86b53f1594b32b0e4ad859de1867c7b4b5411ef06", func := "libevolution/libevolutionlaw08.SinceRuns", spec := "sinceRuns", inPlace := ["internal/bytealg.IndexByteString", "internal/bytealg.IndexString"], unfollowed := true, recurses := true, named := ["internal/bytealg.MaxLen"], apart := false, narrowed := true }
def SinceRunsUptoSaid : Prop := sinceRunsUptoRow.holds Tryz.pinned (OpenSpec.upto sinceRunsSpec)

/-- 'libevolutionlaw08.SinceOwn', WHERE WHAT IT READS IS OF BULK AT MOST 1048576: true; the input reads as it did. -/
def sinceOwnUptoRow : OpenClaim := { program := "ythlkmffimhnehaagreat", sum := "be96da762854f1c64e843df86b53f1594b32b0e4ad859de1867c7b4b5411ef06", func := "libevolution/libevolutionlaw08.SinceOwn", spec := "sinceOwn", inPlace := ["internal/bytealg.IndexByteString", "internal/bytealg.IndexString"], unfollowed := true, recurses := true, named := ["internal/bytealg.MaxLen"], apart := false, narrowed := true }
def SinceOwnUptoSaid : Prop := sinceOwnUptoRow.holds Tryz.pinned (OpenSpec.upto sinceOwnSpec)

/-- 'libevolutionlaw08.SinceChecks', WHERE WHAT IT READS IS OF BULK AT MOST 1048576: true; the input reads as it did. -/
def sinceChecksUptoRow : OpenClaim := { program := "ythlkmffimhnehaagreat", sum := "be96da762854f1c64e843df86b53f1594b32b0e4ad859de1867c7b4b5411ef06", func := "libevolution/libevolutionlaw08.SinceChecks", spec := "sinceChecks", inPlace := ["internal/bytealg.IndexByteString", "internal/bytealg.IndexString"], unfollowed := true, recurses := true, named := ["internal/bytealg.MaxLen"], apart := false, narrowed := true }
def SinceChecksUptoSaid : Prop := sinceChecksUptoRow.holds Tryz.pinned (OpenSpec.upto sinceChecksSpec)

/-- 'libevolutionlaw08.SinceNeeds', WHERE WHAT IT READS IS OF BULK AT MOST 1048576: true; the input reads as it did. -/
def sinceNeedsUptoRow : OpenClaim := { program := "ythlkmffimhnehaagreat", sum := "be96da762854f1c64e843df86b53f1594b32b0e4ad859de1867c7b4b5411ef06", func := "libevolution/libevolutionlaw08.SinceNeeds", spec := "sinceNeeds", inPlace := ["internal/bytealg.IndexByteString", "internal/bytealg.IndexString"], unfollowed := true, recurses := true, named := ["internal/bytealg.MaxLen"], apart := false, narrowed := true }
def SinceNeedsUptoSaid : Prop := sinceNeedsUptoRow.holds Tryz.pinned (OpenSpec.upto sinceNeedsSpec)

/-- 'libevolutionlaw08.SinceRaises', WHERE WHAT IT READS IS OF BULK AT MOST 1048576: true; the input reads as it did. -/
def sinceRaisesUptoRow : OpenClaim := { program := "ythlkmffimhnehaagreat", sum := "be96da762854f1c64e843df86b53f1594b32b0e4ad859de1867c7b4b5411ef06", func := "libevolution/libevolutionlaw08.SinceRaises", spec := "sinceRaises", inPlace := ["internal/bytealg.IndexByteString", "internal/bytealg.IndexString"], unfollowed := true, recurses := true, named := ["internal/bytealg.MaxLen"], apart := false, narrowed := true }
def SinceRaisesUptoSaid : Prop := sinceRaisesUptoRow.holds Tryz.pinned (OpenSpec.upto sinceRaisesSpec)

end Rows
end Go.Proofs.YthlkmffimhnehaaGreat
