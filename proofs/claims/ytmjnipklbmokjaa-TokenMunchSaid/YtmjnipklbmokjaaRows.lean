/-
  No cell of these rows narrows 'for every input' (looked for: loops, veiled, ifaces, maps, wideKeys, modest, calm, conditions, laid).
  DERIVED. THE GIVEN ROWS OF THIS SEAT. 6 by the template 'for every input the law returns true; each argument reads behind the call as it read before'; 0 by the template 'total and deterministic' (their statements: YtmjnipklbmokjaaTotals.lean).
  GIVEN WITH THE SEED: the statements are not yours to turn. If you find one false, say at which input.
  Laid BY PROGRAM, IN A SANDBOX (cutbox-rows.mjs): the forced cells as the released guide's own fill.sh prints them over the translation be3bdf4af69941be… (all of the seat's roots in one cut). By AI agents, Wed Nov 11 2026. No macro, syntax, notation, axiom, sorry.
-/
import Derived.Test.YtmjnipklbmokjaaChecked
import GoSem.Claim
import GoSem.ClaimJoined
import GoSem.ClaimMapViews
import Derived.JoinedTies
import Derived.KernelRfl
namespace Go.Proofs.Ytmjnipklbmokjaa
/- THE CELL 'sum', in the pinned program and in every row, IS THE sha256 OF THE DUMP (.gsa) THAT YtmjnipklbmokjaaProg.lean LOADS. Nothing in Lean hashes anything: it is a label: what it is worth is what the hold of that sum in a sandbox is worth. -/
noncomputable def Try.pinned : Pinned := { name := "ytmjnipklbmokjaa", sum := "be3bdf4af69941bed5a61ae65928a3e7130a3c22db2b7eeb40f119e99eef5fdf", checked := Try.checked }
namespace Rows
def none {H : Type} : Left H := { results := [], args := [] }

/-- 'libevolutionlaw01.TokenReturns': WHATEVER THE INPUT: true; the input reads as it did. -/
def tokenReturnsSpec : ChangeSpec := { name := "tokenReturns", fn := fun _ => fun
  | [d1, d2] => { results := [.lit (.bool true)], args := [d1, d2] }
  | _ => none }
def tokenReturnsRow : OpenClaim := { program := "ytmjnipklbmokjaa", sum := "be3bdf4af69941bed5a61ae65928a3e7130a3c22db2b7eeb40f119e99eef5fdf", func := "libevolution/libevolutionlaw01.TokenReturns", spec := "tokenReturns", inPlace := ["internal/bytealg.IndexByteString"], unfollowed := true, recurses := true, apart := false }
def TokenReturnsSaid : Prop := tokenReturnsRow.holds Try.pinned (OpenSpec.ofChange tokenReturnsSpec)

/-- ITS FALSE NEIGHBOUR: 'it returns false'. Refute it at one input. -/
def tokenReturnsWrong : ChangeSpec := { name := "tokenReturns", fn := fun _ => fun
  | [d1, d2] => { results := [.lit (.bool false)], args := [d1, d2] }
  | _ => none }
def TokenReturnsWrongFalsely : Prop := tokenReturnsRow.holds Try.pinned (OpenSpec.ofChange tokenReturnsWrong)

/-- 'libevolutionlaw01.TokenPlaces': WHATEVER THE INPUT: true; the input reads as it did. -/
def tokenPlacesSpec : ChangeSpec := { name := "tokenPlaces", fn := fun _ => fun
  | [d1, d2] => { results := [.lit (.bool true)], args := [d1, d2] }
  | _ => none }
def tokenPlacesRow : OpenClaim := { program := "ytmjnipklbmokjaa", sum := "be3bdf4af69941bed5a61ae65928a3e7130a3c22db2b7eeb40f119e99eef5fdf", func := "libevolution/libevolutionlaw01.TokenPlaces", spec := "tokenPlaces", inPlace := ["internal/bytealg.IndexByteString"], unfollowed := true, recurses := true, apart := false }
def TokenPlacesSaid : Prop := tokenPlacesRow.holds Try.pinned (OpenSpec.ofChange tokenPlacesSpec)

/-- ITS FALSE NEIGHBOUR: 'it returns false'. Refute it at one input. -/
def tokenPlacesWrong : ChangeSpec := { name := "tokenPlaces", fn := fun _ => fun
  | [d1, d2] => { results := [.lit (.bool false)], args := [d1, d2] }
  | _ => none }
def TokenPlacesWrongFalsely : Prop := tokenPlacesRow.holds Try.pinned (OpenSpec.ofChange tokenPlacesWrong)

/-- 'libevolutionlaw01.TokenLimits': WHATEVER THE INPUT: true; the input reads as it did. -/
def tokenLimitsSpec : ChangeSpec := { name := "tokenLimits", fn := fun _ => fun
  | [d1, d2] => { results := [.lit (.bool true)], args := [d1, d2] }
  | _ => none }
def tokenLimitsRow : OpenClaim := { program := "ytmjnipklbmokjaa", sum := "be3bdf4af69941bed5a61ae65928a3e7130a3c22db2b7eeb40f119e99eef5fdf", func := "libevolution/libevolutionlaw01.TokenLimits", spec := "tokenLimits", inPlace := ["internal/bytealg.IndexByteString"], unfollowed := true, recurses := true, apart := false }
def TokenLimitsSaid : Prop := tokenLimitsRow.holds Try.pinned (OpenSpec.ofChange tokenLimitsSpec)

/-- ITS FALSE NEIGHBOUR: 'it returns false'. Refute it at one input. -/
def tokenLimitsWrong : ChangeSpec := { name := "tokenLimits", fn := fun _ => fun
  | [d1, d2] => { results := [.lit (.bool false)], args := [d1, d2] }
  | _ => none }
def TokenLimitsWrongFalsely : Prop := tokenLimitsRow.holds Try.pinned (OpenSpec.ofChange tokenLimitsWrong)

/-- 'libevolutionlaw01.TokenJoins': WHATEVER THE INPUT: true; the input reads as it did. -/
def tokenJoinsSpec : ChangeSpec := { name := "tokenJoins", fn := fun _ => fun
  | [d1, d2] => { results := [.lit (.bool true)], args := [d1, d2] }
  | _ => none }
def tokenJoinsRow : OpenClaim := { program := "ytmjnipklbmokjaa", sum := "be3bdf4af69941bed5a61ae65928a3e7130a3c22db2b7eeb40f119e99eef5fdf", func := "libevolution/libevolutionlaw01.TokenJoins", spec := "tokenJoins", inPlace := ["internal/bytealg.IndexByteString"], unfollowed := true, recurses := true, apart := false }
def TokenJoinsSaid : Prop := tokenJoinsRow.holds Try.pinned (OpenSpec.ofChange tokenJoinsSpec)

/-- ITS FALSE NEIGHBOUR: 'it returns false'. Refute it at one input. -/
def tokenJoinsWrong : ChangeSpec := { name := "tokenJoins", fn := fun _ => fun
  | [d1, d2] => { results := [.lit (.bool false)], args := [d1, d2] }
  | _ => none }
def TokenJoinsWrongFalsely : Prop := tokenJoinsRow.holds Try.pinned (OpenSpec.ofChange tokenJoinsWrong)

/-- 'libevolutionlaw01.TokenMunch': WHATEVER THE INPUT: true; the input reads as it did. -/
def tokenMunchSpec : ChangeSpec := { name := "tokenMunch", fn := fun _ => fun
  | [d] => { results := [.lit (.bool true)], args := [d] }
  | _ => none }
def tokenMunchRow : OpenClaim := { program := "ytmjnipklbmokjaa", sum := "be3bdf4af69941bed5a61ae65928a3e7130a3c22db2b7eeb40f119e99eef5fdf", func := "libevolution/libevolutionlaw01.TokenMunch", spec := "tokenMunch", inPlace := ["internal/bytealg.IndexByteString"], unfollowed := true, recurses := true, apart := false }
def TokenMunchSaid : Prop := tokenMunchRow.holds Try.pinned (OpenSpec.ofChange tokenMunchSpec)

/-- ITS FALSE NEIGHBOUR: 'it returns false'. Refute it at one input. -/
def tokenMunchWrong : ChangeSpec := { name := "tokenMunch", fn := fun _ => fun
  | [d] => { results := [.lit (.bool false)], args := [d] }
  | _ => none }
def TokenMunchWrongFalsely : Prop := tokenMunchRow.holds Try.pinned (OpenSpec.ofChange tokenMunchWrong)

/-- 'libevolutionlaw01.TokenWords': WHATEVER THE INPUT: true; the input reads as it did. -/
def tokenWordsSpec : ChangeSpec := { name := "tokenWords", fn := fun _ => fun
  | [d1, d2] => { results := [.lit (.bool true)], args := [d1, d2] }
  | _ => none }
def tokenWordsRow : OpenClaim := { program := "ytmjnipklbmokjaa", sum := "be3bdf4af69941bed5a61ae65928a3e7130a3c22db2b7eeb40f119e99eef5fdf", func := "libevolution/libevolutionlaw01.TokenWords", spec := "tokenWords", inPlace := ["internal/bytealg.IndexByteString", "internal/bytealg.IndexString"], unfollowed := true, recurses := true, named := ["internal/bytealg.MaxLen"], apart := false }
def TokenWordsSaid : Prop := tokenWordsRow.holds Try.pinned (OpenSpec.ofChange tokenWordsSpec)

/-- ITS FALSE NEIGHBOUR: 'it returns false'. Refute it at one input. -/
def tokenWordsWrong : ChangeSpec := { name := "tokenWords", fn := fun _ => fun
  | [d1, d2] => { results := [.lit (.bool false)], args := [d1, d2] }
  | _ => none }
def TokenWordsWrongFalsely : Prop := tokenWordsRow.holds Try.pinned (OpenSpec.ofChange tokenWordsWrong)

/- THE SECOND FORM. 'bulk': how many values and letters a reading holds, each counted each time it is reached (what is shared counts as often as it is met; a slice's spare places count too). A statement '..UptoSaid' is the law's where the arguments, and the package variables that the reading takes, are together of bulk at most 1048576: NARROWER than '..Said'. Prove '..Said' where nothing that the law and all that it calls make is longer than what came in: it says more and counts as full. Else prove '..UptoSaid'. A law counts once. -/
mutual
def uptoBulk {H : Type} : DataW H → Nat
  | .lit (.string bytes) => bytes.length + 1
  | .lit _ => 1
  | .nil => 1
  | .ptr d => uptoBulk d + 1
  | .slice elems spare => uptoBulkAll elems + uptoBulkAll spare + 1
  | .agg parts => uptoBulkAll parts + 1
  | .iface _ d => uptoBulk d + 1
  | .map entries => uptoBulkEntries entries + 1
  | .held _ => 1
def uptoBulkAll {H : Type} : List (DataW H) → Nat
  | [] => 0
  | d :: r => uptoBulk d + uptoBulkAll r
def uptoBulkEntries {H : Type} : List (Lit × DataW H) → Nat
  | [] => 0
  | x :: r => uptoBulkEntry x + uptoBulkEntries r
def uptoBulkEntry {H : Type} : Lit × DataW H → Nat
  | (.string bytes, d) => bytes.length + uptoBulk d + 1
  | (_, d) => uptoBulk d + 1
 end
def uptoSmall : (H : Type) → List (DataW H) → Bool := fun _ ds => decide (uptoBulkAll ds ≤ 1048576)
def OpenSpec.upto (s : _root_.Go.ChangeSpec) : _root_.Go.OpenSpec := { _root_.Go.OpenSpec.ofChange s with cond := some uptoSmall }

/-- 'libevolutionlaw01.TokenReturns', WHERE WHAT IT READS IS OF BULK AT MOST 1048576: true; the input reads as it did. -/
def tokenReturnsUptoRow : OpenClaim := { program := "ytmjnipklbmokjaa", sum := "be3bdf4af69941bed5a61ae65928a3e7130a3c22db2b7eeb40f119e99eef5fdf", func := "libevolution/libevolutionlaw01.TokenReturns", spec := "tokenReturns", inPlace := ["internal/bytealg.IndexByteString"], unfollowed := true, recurses := true, apart := false, narrowed := true }
def TokenReturnsUptoSaid : Prop := tokenReturnsUptoRow.holds Try.pinned (OpenSpec.upto tokenReturnsSpec)

/-- 'libevolutionlaw01.TokenPlaces', WHERE WHAT IT READS IS OF BULK AT MOST 1048576: true; the input reads as it did. -/
def tokenPlacesUptoRow : OpenClaim := { program := "ytmjnipklbmokjaa", sum := "be3bdf4af69941bed5a61ae65928a3e7130a3c22db2b7eeb40f119e99eef5fdf", func := "libevolution/libevolutionlaw01.TokenPlaces", spec := "tokenPlaces", inPlace := ["internal/bytealg.IndexByteString"], unfollowed := true, recurses := true, apart := false, narrowed := true }
def TokenPlacesUptoSaid : Prop := tokenPlacesUptoRow.holds Try.pinned (OpenSpec.upto tokenPlacesSpec)

/-- 'libevolutionlaw01.TokenLimits', WHERE WHAT IT READS IS OF BULK AT MOST 1048576: true; the input reads as it did. -/
def tokenLimitsUptoRow : OpenClaim := { program := "ytmjnipklbmokjaa", sum := "be3bdf4af69941bed5a61ae65928a3e7130a3c22db2b7eeb40f119e99eef5fdf", func := "libevolution/libevolutionlaw01.TokenLimits", spec := "tokenLimits", inPlace := ["internal/bytealg.IndexByteString"], unfollowed := true, recurses := true, apart := false, narrowed := true }
def TokenLimitsUptoSaid : Prop := tokenLimitsUptoRow.holds Try.pinned (OpenSpec.upto tokenLimitsSpec)

/-- 'libevolutionlaw01.TokenJoins', WHERE WHAT IT READS IS OF BULK AT MOST 1048576: true; the input reads as it did. -/
def tokenJoinsUptoRow : OpenClaim := { program := "ytmjnipklbmokjaa", sum := "be3bdf4af69941bed5a61ae65928a3e7130a3c22db2b7eeb40f119e99eef5fdf", func := "libevolution/libevolutionlaw01.TokenJoins", spec := "tokenJoins", inPlace := ["internal/bytealg.IndexByteString"], unfollowed := true, recurses := true, apart := false, narrowed := true }
def TokenJoinsUptoSaid : Prop := tokenJoinsUptoRow.holds Try.pinned (OpenSpec.upto tokenJoinsSpec)

/-- 'libevolutionlaw01.TokenMunch', WHERE WHAT IT READS IS OF BULK AT MOST 1048576: true; the input reads as it did. -/
def tokenMunchUptoRow : OpenClaim := { program := "ytmjnipklbmokjaa", sum := "be3bdf4af69941bed5a61ae65928a3e7130a3c22db2b7eeb40f119e99eef5fdf", func := "libevolution/libevolutionlaw01.TokenMunch", spec := "tokenMunch", inPlace := ["internal/bytealg.IndexByteString"], unfollowed := true, recurses := true, apart := false, narrowed := true }
def TokenMunchUptoSaid : Prop := tokenMunchUptoRow.holds Try.pinned (OpenSpec.upto tokenMunchSpec)

/-- 'libevolutionlaw01.TokenWords', WHERE WHAT IT READS IS OF BULK AT MOST 1048576: true; the input reads as it did. -/
def tokenWordsUptoRow : OpenClaim := { program := "ytmjnipklbmokjaa", sum := "be3bdf4af69941bed5a61ae65928a3e7130a3c22db2b7eeb40f119e99eef5fdf", func := "libevolution/libevolutionlaw01.TokenWords", spec := "tokenWords", inPlace := ["internal/bytealg.IndexByteString", "internal/bytealg.IndexString"], unfollowed := true, recurses := true, named := ["internal/bytealg.MaxLen"], apart := false, narrowed := true }
def TokenWordsUptoSaid : Prop := tokenWordsUptoRow.holds Try.pinned (OpenSpec.upto tokenWordsSpec)

end Rows
end Go.Proofs.Ytmjnipklbmokjaa
