/-
  No cell of these rows narrows 'for every input' (looked for: loops, veiled, ifaces, maps, wideKeys, modest, calm, conditions, laid).
  DERIVED. THE GIVEN ROWS OF THIS SEAT. 12 by the template 'for every input the law returns true; each argument reads behind the call as it read before'; 0 by the template 'total and deterministic' (their statements: YtillcdcmhdofbaaTotals.lean).
  GIVEN WITH THE SEED: the statements are not yours to turn. If you find one false, say at which input.
  Laid BY PROGRAM, IN A SANDBOX (cutbox-rows.mjs): the forced cells as the released guide's own fill.sh prints them over the translation fd2b530b3ea6aaf3… (all of the seat's roots in one cut). By AI agents, Wed Nov 11 2026. No macro, syntax, notation, axiom, sorry.
-/
import Derived.Test.YtillcdcmhdofbaaChecked
import GoSem.Claim
import GoSem.ClaimJoined
import GoSem.ClaimMapViews
import Derived.JoinedTies
import Derived.KernelRfl
namespace Go.Proofs.Ytillcdcmhdofbaa
/- THE CELL 'sum', in the pinned program and in every row, IS THE sha256 OF THE DUMP (.gsa) THAT YtillcdcmhdofbaaProg.lean LOADS. Nothing in Lean hashes anything: it is a label: what it is worth is what the hold of that sum in a sandbox is worth. -/
noncomputable def Try.pinned : Pinned := { name := "ytillcdcmhdofbaa", sum := "fd2b530b3ea6aaf30331c6e50ca46ff8e301fd214784c88df0670f85c483ce5d", checked := Try.checked }
namespace Rows
def none {H : Type} : Left H := { results := [], args := [] }

/-- 'linkhouselaw2.LinesFindMatchesSpec': WHATEVER THE INPUT: true; the input reads as it did. -/
def linesFindMatchesSpecSpec : ChangeSpec := { name := "linesFindMatchesSpec", fn := fun _ => fun
  | [d1, d2] => { results := [.lit (.bool true)], args := [d1, d2] }
  | _ => none }
def linesFindMatchesSpecRow : OpenClaim := { program := "ytillcdcmhdofbaa", sum := "fd2b530b3ea6aaf30331c6e50ca46ff8e301fd214784c88df0670f85c483ce5d", func := "linkhouse/linkhouselaw2.LinesFindMatchesSpec", spec := "linesFindMatchesSpec", unfollowed := true, recurses := true, apart := false }
def LinesFindMatchesSpecSaid : Prop := linesFindMatchesSpecRow.holds Try.pinned (OpenSpec.ofChange linesFindMatchesSpecSpec)

/-- ITS FALSE NEIGHBOUR: 'it returns false'. Refute it at one input. -/
def linesFindMatchesSpecWrong : ChangeSpec := { name := "linesFindMatchesSpec", fn := fun _ => fun
  | [d1, d2] => { results := [.lit (.bool false)], args := [d1, d2] }
  | _ => none }
def LinesFindMatchesSpecWrongFalsely : Prop := linesFindMatchesSpecRow.holds Try.pinned (OpenSpec.ofChange linesFindMatchesSpecWrong)

/-- 'linkhouselaw2.LinesPlacesMatchesSpec': WHATEVER THE INPUT: true; the input reads as it did. -/
def linesPlacesMatchesSpecSpec : ChangeSpec := { name := "linesPlacesMatchesSpec", fn := fun _ => fun
  | [d1, d2, d3] => { results := [.lit (.bool true)], args := [d1, d2, d3] }
  | _ => none }
def linesPlacesMatchesSpecRow : OpenClaim := { program := "ytillcdcmhdofbaa", sum := "fd2b530b3ea6aaf30331c6e50ca46ff8e301fd214784c88df0670f85c483ce5d", func := "linkhouse/linkhouselaw2.LinesPlacesMatchesSpec", spec := "linesPlacesMatchesSpec", unfollowed := true, recurses := true, apart := false }
def LinesPlacesMatchesSpecSaid : Prop := linesPlacesMatchesSpecRow.holds Try.pinned (OpenSpec.ofChange linesPlacesMatchesSpecSpec)

/-- ITS FALSE NEIGHBOUR: 'it returns false'. Refute it at one input. -/
def linesPlacesMatchesSpecWrong : ChangeSpec := { name := "linesPlacesMatchesSpec", fn := fun _ => fun
  | [d1, d2, d3] => { results := [.lit (.bool false)], args := [d1, d2, d3] }
  | _ => none }
def LinesPlacesMatchesSpecWrongFalsely : Prop := linesPlacesMatchesSpecRow.holds Try.pinned (OpenSpec.ofChange linesPlacesMatchesSpecWrong)

/-- 'linkhouselaw2.LinesPackMatchesSpec': WHATEVER THE INPUT: true; the input reads as it did. -/
def linesPackMatchesSpecSpec : ChangeSpec := { name := "linesPackMatchesSpec", fn := fun _ => fun
  | [d] => { results := [.lit (.bool true)], args := [d] }
  | _ => none }
def linesPackMatchesSpecRow : OpenClaim := { program := "ytillcdcmhdofbaa", sum := "fd2b530b3ea6aaf30331c6e50ca46ff8e301fd214784c88df0670f85c483ce5d", func := "linkhouse/linkhouselaw2.LinesPackMatchesSpec", spec := "linesPackMatchesSpec", unfollowed := true, recurses := true, apart := false }
def LinesPackMatchesSpecSaid : Prop := linesPackMatchesSpecRow.holds Try.pinned (OpenSpec.ofChange linesPackMatchesSpecSpec)

/-- ITS FALSE NEIGHBOUR: 'it returns false'. Refute it at one input. -/
def linesPackMatchesSpecWrong : ChangeSpec := { name := "linesPackMatchesSpec", fn := fun _ => fun
  | [d] => { results := [.lit (.bool false)], args := [d] }
  | _ => none }
def LinesPackMatchesSpecWrongFalsely : Prop := linesPackMatchesSpecRow.holds Try.pinned (OpenSpec.ofChange linesPackMatchesSpecWrong)

/-- 'linkhouselaw2.LinesPlacesFound': WHATEVER THE INPUT: true; the input reads as it did. -/
def linesPlacesFoundSpec : ChangeSpec := { name := "linesPlacesFound", fn := fun _ => fun
  | [d1, d2] => { results := [.lit (.bool true)], args := [d1, d2] }
  | _ => none }
def linesPlacesFoundRow : OpenClaim := { program := "ytillcdcmhdofbaa", sum := "fd2b530b3ea6aaf30331c6e50ca46ff8e301fd214784c88df0670f85c483ce5d", func := "linkhouse/linkhouselaw2.LinesPlacesFound", spec := "linesPlacesFound", unfollowed := true, recurses := true, apart := false }
def LinesPlacesFoundSaid : Prop := linesPlacesFoundRow.holds Try.pinned (OpenSpec.ofChange linesPlacesFoundSpec)

/-- ITS FALSE NEIGHBOUR: 'it returns false'. Refute it at one input. -/
def linesPlacesFoundWrong : ChangeSpec := { name := "linesPlacesFound", fn := fun _ => fun
  | [d1, d2] => { results := [.lit (.bool false)], args := [d1, d2] }
  | _ => none }
def LinesPlacesFoundWrongFalsely : Prop := linesPlacesFoundRow.holds Try.pinned (OpenSpec.ofChange linesPlacesFoundWrong)

/-- 'linkhouselaw2.UnwindFindMatchesSpec': WHATEVER THE INPUT: true; the input reads as it did. -/
def unwindFindMatchesSpecSpec : ChangeSpec := { name := "unwindFindMatchesSpec", fn := fun _ => fun
  | [d1, d2] => { results := [.lit (.bool true)], args := [d1, d2] }
  | _ => none }
def unwindFindMatchesSpecRow : OpenClaim := { program := "ytillcdcmhdofbaa", sum := "fd2b530b3ea6aaf30331c6e50ca46ff8e301fd214784c88df0670f85c483ce5d", func := "linkhouse/linkhouselaw2.UnwindFindMatchesSpec", spec := "unwindFindMatchesSpec", unfollowed := true, recurses := true, apart := false }
def UnwindFindMatchesSpecSaid : Prop := unwindFindMatchesSpecRow.holds Try.pinned (OpenSpec.ofChange unwindFindMatchesSpecSpec)

/-- ITS FALSE NEIGHBOUR: 'it returns false'. Refute it at one input. -/
def unwindFindMatchesSpecWrong : ChangeSpec := { name := "unwindFindMatchesSpec", fn := fun _ => fun
  | [d1, d2] => { results := [.lit (.bool false)], args := [d1, d2] }
  | _ => none }
def UnwindFindMatchesSpecWrongFalsely : Prop := unwindFindMatchesSpecRow.holds Try.pinned (OpenSpec.ofChange unwindFindMatchesSpecWrong)

/-- 'linkhouselaw2.UnwindMergeMatchesSpec': WHATEVER THE INPUT: true; the input reads as it did. -/
def unwindMergeMatchesSpecSpec : ChangeSpec := { name := "unwindMergeMatchesSpec", fn := fun _ => fun
  | [d] => { results := [.lit (.bool true)], args := [d] }
  | _ => none }
def unwindMergeMatchesSpecRow : OpenClaim := { program := "ytillcdcmhdofbaa", sum := "fd2b530b3ea6aaf30331c6e50ca46ff8e301fd214784c88df0670f85c483ce5d", func := "linkhouse/linkhouselaw2.UnwindMergeMatchesSpec", spec := "unwindMergeMatchesSpec", unfollowed := true, recurses := true, apart := false }
def UnwindMergeMatchesSpecSaid : Prop := unwindMergeMatchesSpecRow.holds Try.pinned (OpenSpec.ofChange unwindMergeMatchesSpecSpec)

/-- ITS FALSE NEIGHBOUR: 'it returns false'. Refute it at one input. -/
def unwindMergeMatchesSpecWrong : ChangeSpec := { name := "unwindMergeMatchesSpec", fn := fun _ => fun
  | [d] => { results := [.lit (.bool false)], args := [d] }
  | _ => none }
def UnwindMergeMatchesSpecWrongFalsely : Prop := unwindMergeMatchesSpecRow.holds Try.pinned (OpenSpec.ofChange unwindMergeMatchesSpecWrong)

/-- 'linkhouselaw2.UnwindMergeKeeps': WHATEVER THE INPUT: true; the input reads as it did. -/
def unwindMergeKeepsSpec : ChangeSpec := { name := "unwindMergeKeeps", fn := fun _ => fun
  | [d1, d2] => { results := [.lit (.bool true)], args := [d1, d2] }
  | _ => none }
def unwindMergeKeepsRow : OpenClaim := { program := "ytillcdcmhdofbaa", sum := "fd2b530b3ea6aaf30331c6e50ca46ff8e301fd214784c88df0670f85c483ce5d", func := "linkhouse/linkhouselaw2.UnwindMergeKeeps", spec := "unwindMergeKeeps", unfollowed := true, recurses := true, apart := false }
def UnwindMergeKeepsSaid : Prop := unwindMergeKeepsRow.holds Try.pinned (OpenSpec.ofChange unwindMergeKeepsSpec)

/-- ITS FALSE NEIGHBOUR: 'it returns false'. Refute it at one input. -/
def unwindMergeKeepsWrong : ChangeSpec := { name := "unwindMergeKeeps", fn := fun _ => fun
  | [d1, d2] => { results := [.lit (.bool false)], args := [d1, d2] }
  | _ => none }
def UnwindMergeKeepsWrongFalsely : Prop := unwindMergeKeepsRow.holds Try.pinned (OpenSpec.ofChange unwindMergeKeepsWrong)

/-- 'linkhouselaw2.UnwindPackMatchesSpec': WHATEVER THE INPUT: true; the input reads as it did. -/
def unwindPackMatchesSpecSpec : ChangeSpec := { name := "unwindPackMatchesSpec", fn := fun _ => fun
  | [d] => { results := [.lit (.bool true)], args := [d] }
  | _ => none }
def unwindPackMatchesSpecRow : OpenClaim := { program := "ytillcdcmhdofbaa", sum := "fd2b530b3ea6aaf30331c6e50ca46ff8e301fd214784c88df0670f85c483ce5d", func := "linkhouse/linkhouselaw2.UnwindPackMatchesSpec", spec := "unwindPackMatchesSpec", unfollowed := true, recurses := true, apart := false }
def UnwindPackMatchesSpecSaid : Prop := unwindPackMatchesSpecRow.holds Try.pinned (OpenSpec.ofChange unwindPackMatchesSpecSpec)

/-- ITS FALSE NEIGHBOUR: 'it returns false'. Refute it at one input. -/
def unwindPackMatchesSpecWrong : ChangeSpec := { name := "unwindPackMatchesSpec", fn := fun _ => fun
  | [d] => { results := [.lit (.bool false)], args := [d] }
  | _ => none }
def UnwindPackMatchesSpecWrongFalsely : Prop := unwindPackMatchesSpecRow.holds Try.pinned (OpenSpec.ofChange unwindPackMatchesSpecWrong)

/-- 'linkhouselaw2.LinesRoundTrip': WHATEVER THE INPUT: true; the input reads as it did. -/
def linesRoundTripSpec : ChangeSpec := { name := "linesRoundTrip", fn := fun _ => fun
  | [d] => { results := [.lit (.bool true)], args := [d] }
  | _ => none }
def linesRoundTripRow : OpenClaim := { program := "ytillcdcmhdofbaa", sum := "fd2b530b3ea6aaf30331c6e50ca46ff8e301fd214784c88df0670f85c483ce5d", func := "linkhouse/linkhouselaw2.LinesRoundTrip", spec := "linesRoundTrip", unfollowed := true, recurses := true, apart := false }
def LinesRoundTripSaid : Prop := linesRoundTripRow.holds Try.pinned (OpenSpec.ofChange linesRoundTripSpec)

/-- ITS FALSE NEIGHBOUR: 'it returns false'. Refute it at one input. -/
def linesRoundTripWrong : ChangeSpec := { name := "linesRoundTrip", fn := fun _ => fun
  | [d] => { results := [.lit (.bool false)], args := [d] }
  | _ => none }
def LinesRoundTripWrongFalsely : Prop := linesRoundTripRow.holds Try.pinned (OpenSpec.ofChange linesRoundTripWrong)

/-- 'linkhouselaw2.LinesUnique': WHATEVER THE INPUT: true; the input reads as it did. -/
def linesUniqueSpec : ChangeSpec := { name := "linesUnique", fn := fun _ => fun
  | [d] => { results := [.lit (.bool true)], args := [d] }
  | _ => none }
def linesUniqueRow : OpenClaim := { program := "ytillcdcmhdofbaa", sum := "fd2b530b3ea6aaf30331c6e50ca46ff8e301fd214784c88df0670f85c483ce5d", func := "linkhouse/linkhouselaw2.LinesUnique", spec := "linesUnique", unfollowed := true, recurses := true, apart := false }
def LinesUniqueSaid : Prop := linesUniqueRow.holds Try.pinned (OpenSpec.ofChange linesUniqueSpec)

/-- ITS FALSE NEIGHBOUR: 'it returns false'. Refute it at one input. -/
def linesUniqueWrong : ChangeSpec := { name := "linesUnique", fn := fun _ => fun
  | [d] => { results := [.lit (.bool false)], args := [d] }
  | _ => none }
def LinesUniqueWrongFalsely : Prop := linesUniqueRow.holds Try.pinned (OpenSpec.ofChange linesUniqueWrong)

/-- 'linkhouselaw2.UnwindRoundTrip': WHATEVER THE INPUT: true; the input reads as it did. -/
def unwindRoundTripSpec : ChangeSpec := { name := "unwindRoundTrip", fn := fun _ => fun
  | [d] => { results := [.lit (.bool true)], args := [d] }
  | _ => none }
def unwindRoundTripRow : OpenClaim := { program := "ytillcdcmhdofbaa", sum := "fd2b530b3ea6aaf30331c6e50ca46ff8e301fd214784c88df0670f85c483ce5d", func := "linkhouse/linkhouselaw2.UnwindRoundTrip", spec := "unwindRoundTrip", unfollowed := true, recurses := true, apart := false }
def UnwindRoundTripSaid : Prop := unwindRoundTripRow.holds Try.pinned (OpenSpec.ofChange unwindRoundTripSpec)

/-- ITS FALSE NEIGHBOUR: 'it returns false'. Refute it at one input. -/
def unwindRoundTripWrong : ChangeSpec := { name := "unwindRoundTrip", fn := fun _ => fun
  | [d] => { results := [.lit (.bool false)], args := [d] }
  | _ => none }
def UnwindRoundTripWrongFalsely : Prop := unwindRoundTripRow.holds Try.pinned (OpenSpec.ofChange unwindRoundTripWrong)

/-- 'linkhouselaw2.UnwindUnique': WHATEVER THE INPUT: true; the input reads as it did. -/
def unwindUniqueSpec : ChangeSpec := { name := "unwindUnique", fn := fun _ => fun
  | [d] => { results := [.lit (.bool true)], args := [d] }
  | _ => none }
def unwindUniqueRow : OpenClaim := { program := "ytillcdcmhdofbaa", sum := "fd2b530b3ea6aaf30331c6e50ca46ff8e301fd214784c88df0670f85c483ce5d", func := "linkhouse/linkhouselaw2.UnwindUnique", spec := "unwindUnique", unfollowed := true, recurses := true, apart := false }
def UnwindUniqueSaid : Prop := unwindUniqueRow.holds Try.pinned (OpenSpec.ofChange unwindUniqueSpec)

/-- ITS FALSE NEIGHBOUR: 'it returns false'. Refute it at one input. -/
def unwindUniqueWrong : ChangeSpec := { name := "unwindUnique", fn := fun _ => fun
  | [d] => { results := [.lit (.bool false)], args := [d] }
  | _ => none }
def UnwindUniqueWrongFalsely : Prop := unwindUniqueRow.holds Try.pinned (OpenSpec.ofChange unwindUniqueWrong)

/- THE SECOND FORM. 'bulk': how many values and letters a reading holds, each counted each time it is reached (what is shared counts as often as it is met; a slice's spare places count too). A statement '..UptoSaid' is the law's where the arguments, and the package variables that the reading takes, are together of bulk at most 1048576: NARROWER than '..Said'. Prove '..Said' where nothing that the law and all that it calls make is longer than what came in: it says more and counts as full. Else prove '..UptoSaid'. A law counts once. -/
mutual
def uptoBulk {H : Type} : DataW H → Nat
  | .lit (.string bytes) => bytes.length + 1
  | .lit _ => 1
  | .nil => 1
  | .ptr d => uptoBulk d + 1
  | .slice elems spare => uptoBulkAll elems + uptoBulkAll spare + 1
  | .agg parts => uptoBulkAll parts + 1
  | .iface _ d => uptoBulk d + 1
  | .map entries => uptoBulkEntries entries + 1
  | .held _ => 1
def uptoBulkAll {H : Type} : List (DataW H) → Nat
  | [] => 0
  | d :: r => uptoBulk d + uptoBulkAll r
def uptoBulkEntries {H : Type} : List (Lit × DataW H) → Nat
  | [] => 0
  | x :: r => uptoBulkEntry x + uptoBulkEntries r
def uptoBulkEntry {H : Type} : Lit × DataW H → Nat
  | (.string bytes, d) => bytes.length + uptoBulk d + 1
  | (_, d) => uptoBulk d + 1
 end
def uptoSmall : (H : Type) → List (DataW H) → Bool := fun _ ds => decide (uptoBulkAll ds ≤ 1048576)
def OpenSpec.upto (s : _root_.Go.ChangeSpec) : _root_.Go.OpenSpec := { _root_.Go.OpenSpec.ofChange s with cond := some uptoSmall }

/-- 'linkhouselaw2.LinesFindMatchesSpec', WHERE WHAT IT READS IS OF BULK AT MOST 1048576: true; the input reads as it did. -/
def linesFindMatchesSpecUptoRow : OpenClaim := { program := "ytillcdcmhdofbaa", sum := "fd2b530b3ea6aaf30331c6e50ca46ff8e301fd214784c88df0670f85c483ce5d", func := "linkhouse/linkhouselaw2.LinesFindMatchesSpec", spec := "linesFindMatchesSpec", unfollowed := true, recurses := true, apart := false, narrowed := true }
def LinesFindMatchesSpecUptoSaid : Prop := linesFindMatchesSpecUptoRow.holds Try.pinned (OpenSpec.upto linesFindMatchesSpecSpec)

/-- 'linkhouselaw2.LinesPlacesMatchesSpec', WHERE WHAT IT READS IS OF BULK AT MOST 1048576: true; the input reads as it did. -/
def linesPlacesMatchesSpecUptoRow : OpenClaim := { program := "ytillcdcmhdofbaa", sum := "fd2b530b3ea6aaf30331c6e50ca46ff8e301fd214784c88df0670f85c483ce5d", func := "linkhouse/linkhouselaw2.LinesPlacesMatchesSpec", spec := "linesPlacesMatchesSpec", unfollowed := true, recurses := true, apart := false, narrowed := true }
def LinesPlacesMatchesSpecUptoSaid : Prop := linesPlacesMatchesSpecUptoRow.holds Try.pinned (OpenSpec.upto linesPlacesMatchesSpecSpec)

/-- 'linkhouselaw2.LinesPackMatchesSpec', WHERE WHAT IT READS IS OF BULK AT MOST 1048576: true; the input reads as it did. -/
def linesPackMatchesSpecUptoRow : OpenClaim := { program := "ytillcdcmhdofbaa", sum := "fd2b530b3ea6aaf30331c6e50ca46ff8e301fd214784c88df0670f85c483ce5d", func := "linkhouse/linkhouselaw2.LinesPackMatchesSpec", spec := "linesPackMatchesSpec", unfollowed := true, recurses := true, apart := false, narrowed := true }
def LinesPackMatchesSpecUptoSaid : Prop := linesPackMatchesSpecUptoRow.holds Try.pinned (OpenSpec.upto linesPackMatchesSpecSpec)

/-- 'linkhouselaw2.LinesPlacesFound', WHERE WHAT IT READS IS OF BULK AT MOST 1048576: true; the input reads as it did. -/
def linesPlacesFoundUptoRow : OpenClaim := { program := "ytillcdcmhdofbaa", sum := "fd2b530b3ea6aaf30331c6e50ca46ff8e301fd214784c88df0670f85c483ce5d", func := "linkhouse/linkhouselaw2.LinesPlacesFound", spec := "linesPlacesFound", unfollowed := true, recurses := true, apart := false, narrowed := true }
def LinesPlacesFoundUptoSaid : Prop := linesPlacesFoundUptoRow.holds Try.pinned (OpenSpec.upto linesPlacesFoundSpec)

/-- 'linkhouselaw2.UnwindFindMatchesSpec', WHERE WHAT IT READS IS OF BULK AT MOST 1048576: true; the input reads as it did. -/
def unwindFindMatchesSpecUptoRow : OpenClaim := { program := "ytillcdcmhdofbaa", sum := "fd2b530b3ea6aaf30331c6e50ca46ff8e301fd214784c88df0670f85c483ce5d", func := "linkhouse/linkhouselaw2.UnwindFindMatchesSpec", spec := "unwindFindMatchesSpec", unfollowed := true, recurses := true, apart := false, narrowed := true }
def UnwindFindMatchesSpecUptoSaid : Prop := unwindFindMatchesSpecUptoRow.holds Try.pinned (OpenSpec.upto unwindFindMatchesSpecSpec)

/-- 'linkhouselaw2.UnwindMergeMatchesSpec', WHERE WHAT IT READS IS OF BULK AT MOST 1048576: true; the input reads as it did. -/
def unwindMergeMatchesSpecUptoRow : OpenClaim := { program := "ytillcdcmhdofbaa", sum := "fd2b530b3ea6aaf30331c6e50ca46ff8e301fd214784c88df0670f85c483ce5d", func := "linkhouse/linkhouselaw2.UnwindMergeMatchesSpec", spec := "unwindMergeMatchesSpec", unfollowed := true, recurses := true, apart := false, narrowed := true }
def UnwindMergeMatchesSpecUptoSaid : Prop := unwindMergeMatchesSpecUptoRow.holds Try.pinned (OpenSpec.upto unwindMergeMatchesSpecSpec)

/-- 'linkhouselaw2.UnwindMergeKeeps', WHERE WHAT IT READS IS OF BULK AT MOST 1048576: true; the input reads as it did. -/
def unwindMergeKeepsUptoRow : OpenClaim := { program := "ytillcdcmhdofbaa", sum := "fd2b530b3ea6aaf30331c6e50ca46ff8e301fd214784c88df0670f85c483ce5d", func := "linkhouse/linkhouselaw2.UnwindMergeKeeps", spec := "unwindMergeKeeps", unfollowed := true, recurses := true, apart := false, narrowed := true }
def UnwindMergeKeepsUptoSaid : Prop := unwindMergeKeepsUptoRow.holds Try.pinned (OpenSpec.upto unwindMergeKeepsSpec)

/-- 'linkhouselaw2.UnwindPackMatchesSpec', WHERE WHAT IT READS IS OF BULK AT MOST 1048576: true; the input reads as it did. -/
def unwindPackMatchesSpecUptoRow : OpenClaim := { program := "ytillcdcmhdofbaa", sum := "fd2b530b3ea6aaf30331c6e50ca46ff8e301fd214784c88df0670f85c483ce5d", func := "linkhouse/linkhouselaw2.UnwindPackMatchesSpec", spec := "unwindPackMatchesSpec", unfollowed := true, recurses := true, apart := false, narrowed := true }
def UnwindPackMatchesSpecUptoSaid : Prop := unwindPackMatchesSpecUptoRow.holds Try.pinned (OpenSpec.upto unwindPackMatchesSpecSpec)

/-- 'linkhouselaw2.LinesRoundTrip', WHERE WHAT IT READS IS OF BULK AT MOST 1048576: true; the input reads as it did. -/
def linesRoundTripUptoRow : OpenClaim := { program := "ytillcdcmhdofbaa", sum := "fd2b530b3ea6aaf30331c6e50ca46ff8e301fd214784c88df0670f85c483ce5d", func := "linkhouse/linkhouselaw2.LinesRoundTrip", spec := "linesRoundTrip", unfollowed := true, recurses := true, apart := false, narrowed := true }
def LinesRoundTripUptoSaid : Prop := linesRoundTripUptoRow.holds Try.pinned (OpenSpec.upto linesRoundTripSpec)

/-- 'linkhouselaw2.LinesUnique', WHERE WHAT IT READS IS OF BULK AT MOST 1048576: true; the input reads as it did. -/
def linesUniqueUptoRow : OpenClaim := { program := "ytillcdcmhdofbaa", sum := "fd2b530b3ea6aaf30331c6e50ca46ff8e301fd214784c88df0670f85c483ce5d", func := "linkhouse/linkhouselaw2.LinesUnique", spec := "linesUnique", unfollowed := true, recurses := true, apart := false, narrowed := true }
def LinesUniqueUptoSaid : Prop := linesUniqueUptoRow.holds Try.pinned (OpenSpec.upto linesUniqueSpec)

/-- 'linkhouselaw2.UnwindRoundTrip', WHERE WHAT IT READS IS OF BULK AT MOST 1048576: true; the input reads as it did. -/
def unwindRoundTripUptoRow : OpenClaim := { program := "ytillcdcmhdofbaa", sum := "fd2b530b3ea6aaf30331c6e50ca46ff8e301fd214784c88df0670f85c483ce5d", func := "linkhouse/linkhouselaw2.UnwindRoundTrip", spec := "unwindRoundTrip", unfollowed := true, recurses := true, apart := false, narrowed := true }
def UnwindRoundTripUptoSaid : Prop := unwindRoundTripUptoRow.holds Try.pinned (OpenSpec.upto unwindRoundTripSpec)

/-- 'linkhouselaw2.UnwindUnique', WHERE WHAT IT READS IS OF BULK AT MOST 1048576: true; the input reads as it did. -/
def unwindUniqueUptoRow : OpenClaim := { program := "ytillcdcmhdofbaa", sum := "fd2b530b3ea6aaf30331c6e50ca46ff8e301fd214784c88df0670f85c483ce5d", func := "linkhouse/linkhouselaw2.UnwindUnique", spec := "unwindUnique", unfollowed := true, recurses := true, apart := false, narrowed := true }
def UnwindUniqueUptoSaid : Prop := unwindUniqueUptoRow.holds Try.pinned (OpenSpec.upto unwindUniqueSpec)

end Rows
end Go.Proofs.Ytillcdcmhdofbaa
