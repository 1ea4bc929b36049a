/-
  No cell of these rows narrows 'for every input' (looked for: loops, veiled, ifaces, maps, wideKeys, modest, calm, conditions, laid).
  DERIVED. THE GIVEN ROWS OF THIS SEAT. 12 by the template 'for every input the law returns true; each argument reads behind the call as it read before'; 0 by the template 'total and deterministic' (their statements: YtalfgmhjnfnbeaaTotals.lean).
  GIVEN WITH THE SEED: the statements are not yours to turn. If you find one false, say at which input.
  Laid BY PROGRAM, IN A SANDBOX (cutbox-rows.mjs): the forced cells as the released guide's own fill.sh prints them over the translation 229dec0a6a36ea6e… (all of the seat's roots in one cut). By AI agents, Wed Nov 11 2026. No macro, syntax, notation, axiom, sorry.
-/
import Derived.Test.YtalfgmhjnfnbeaaChecked
import GoSem.Claim
import GoSem.ClaimJoined
import GoSem.ClaimMapViews
import Derived.JoinedTies
import Derived.KernelRfl
namespace Go.Proofs.Ytalfgmhjnfnbeaa
/- THE CELL 'sum', in the pinned program and in every row, IS THE sha256 OF THE DUMP (.gsa) THAT YtalfgmhjnfnbeaaProg.lean LOADS. Nothing in Lean hashes anything: it is a label: what it is worth is what the hold of that sum in a sandbox is worth. -/
noncomputable def Try.pinned : Pinned := { name := "ytalfgmhjnfnbeaa", sum := "229dec0a6a36ea6ea30d0e8126d9e06b0801bfe5dc7da116c74645da026dedc1", checked := Try.checked }
namespace Rows
def none {H : Type} : Left H := { results := [], args := [] }

/-- 'fulmarlaw.FixClips': WHATEVER THE INPUT: true; the input reads as it did. -/
def fixClipsSpec : ChangeSpec := { name := "fixClips", fn := fun _ => fun
  | [d1, d2, d3] => { results := [.lit (.bool true)], args := [d1, d2, d3] }
  | _ => none }
def fixClipsRow : OpenClaim := { program := "ytalfgmhjnfnbeaa", sum := "229dec0a6a36ea6ea30d0e8126d9e06b0801bfe5dc7da116c74645da026dedc1", func := "fulmar/fulmarlaw.FixClips", spec := "fixClips", apart := false }
def FixClipsSaid : Prop := fixClipsRow.holds Try.pinned (OpenSpec.ofChange fixClipsSpec)

/-- ITS FALSE NEIGHBOUR: 'it returns false'. Refute it at one input. -/
def fixClipsWrong : ChangeSpec := { name := "fixClips", fn := fun _ => fun
  | [d1, d2, d3] => { results := [.lit (.bool false)], args := [d1, d2, d3] }
  | _ => none }
def FixClipsWrongFalsely : Prop := fixClipsRow.holds Try.pinned (OpenSpec.ofChange fixClipsWrong)

/-- 'fulmarlaw.WordReads': WHATEVER THE INPUT: true; the input reads as it did. -/
def wordReadsSpec : ChangeSpec := { name := "wordReads", fn := fun _ => fun
  | [d] => { results := [.lit (.bool true)], args := [d] }
  | _ => none }
def wordReadsRow : OpenClaim := { program := "ytalfgmhjnfnbeaa", sum := "229dec0a6a36ea6ea30d0e8126d9e06b0801bfe5dc7da116c74645da026dedc1", func := "fulmar/fulmarlaw.WordReads", spec := "wordReads", apart := false }
def WordReadsSaid : Prop := wordReadsRow.holds Try.pinned (OpenSpec.ofChange wordReadsSpec)

/-- ITS FALSE NEIGHBOUR: 'it returns false'. Refute it at one input. -/
def wordReadsWrong : ChangeSpec := { name := "wordReads", fn := fun _ => fun
  | [d] => { results := [.lit (.bool false)], args := [d] }
  | _ => none }
def WordReadsWrongFalsely : Prop := wordReadsRow.holds Try.pinned (OpenSpec.ofChange wordReadsWrong)

/-- 'fulmarlaw.FixRoot': WHATEVER THE INPUT: true; the input reads as it did. -/
def fixRootSpec : ChangeSpec := { name := "fixRoot", fn := fun _ => fun
  | [d] => { results := [.lit (.bool true)], args := [d] }
  | _ => none }
def fixRootRow : OpenClaim := { program := "ytalfgmhjnfnbeaa", sum := "229dec0a6a36ea6ea30d0e8126d9e06b0801bfe5dc7da116c74645da026dedc1", func := "fulmar/fulmarlaw.FixRoot", spec := "fixRoot", apart := false }
def FixRootSaid : Prop := fixRootRow.holds Try.pinned (OpenSpec.ofChange fixRootSpec)

/-- ITS FALSE NEIGHBOUR: 'it returns false'. Refute it at one input. -/
def fixRootWrong : ChangeSpec := { name := "fixRoot", fn := fun _ => fun
  | [d] => { results := [.lit (.bool false)], args := [d] }
  | _ => none }
def FixRootWrongFalsely : Prop := fixRootRow.holds Try.pinned (OpenSpec.ofChange fixRootWrong)

/-- 'fulmarlaw.WordSays': WHATEVER THE INPUT: true; the input reads as it did. -/
def wordSaysSpec : ChangeSpec := { name := "wordSays", fn := fun _ => fun
  | [d] => { results := [.lit (.bool true)], args := [d] }
  | _ => none }
def wordSaysRow : OpenClaim := { program := "ytalfgmhjnfnbeaa", sum := "229dec0a6a36ea6ea30d0e8126d9e06b0801bfe5dc7da116c74645da026dedc1", func := "fulmar/fulmarlaw.WordSays", spec := "wordSays", apart := false }
def WordSaysSaid : Prop := wordSaysRow.holds Try.pinned (OpenSpec.ofChange wordSaysSpec)

/-- ITS FALSE NEIGHBOUR: 'it returns false'. Refute it at one input. -/
def wordSaysWrong : ChangeSpec := { name := "wordSays", fn := fun _ => fun
  | [d] => { results := [.lit (.bool false)], args := [d] }
  | _ => none }
def WordSaysWrongFalsely : Prop := wordSaysRow.holds Try.pinned (OpenSpec.ofChange wordSaysWrong)

/-- 'fulmarlaw.GuardSays': WHATEVER THE INPUT: true; the input reads as it did. -/
def guardSaysSpec : ChangeSpec := { name := "guardSays", fn := fun _ => fun
  | [d1, d2] => { results := [.lit (.bool true)], args := [d1, d2] }
  | _ => none }
def guardSaysRow : OpenClaim := { program := "ytalfgmhjnfnbeaa", sum := "229dec0a6a36ea6ea30d0e8126d9e06b0801bfe5dc7da116c74645da026dedc1", func := "fulmar/fulmarlaw.GuardSays", spec := "guardSays", apart := false }
def GuardSaysSaid : Prop := guardSaysRow.holds Try.pinned (OpenSpec.ofChange guardSaysSpec)

/-- ITS FALSE NEIGHBOUR: 'it returns false'. Refute it at one input. -/
def guardSaysWrong : ChangeSpec := { name := "guardSays", fn := fun _ => fun
  | [d1, d2] => { results := [.lit (.bool false)], args := [d1, d2] }
  | _ => none }
def GuardSaysWrongFalsely : Prop := guardSaysRow.holds Try.pinned (OpenSpec.ofChange guardSaysWrong)

/-- 'fulmarlaw.FixSays': WHATEVER THE INPUT: true; the input reads as it did. -/
def fixSaysSpec : ChangeSpec := { name := "fixSays", fn := fun _ => fun
  | [d1, d2, d3] => { results := [.lit (.bool true)], args := [d1, d2, d3] }
  | _ => none }
def fixSaysRow : OpenClaim := { program := "ytalfgmhjnfnbeaa", sum := "229dec0a6a36ea6ea30d0e8126d9e06b0801bfe5dc7da116c74645da026dedc1", func := "fulmar/fulmarlaw.FixSays", spec := "fixSays", recurses := true, apart := false }
def FixSaysSaid : Prop := fixSaysRow.holds Try.pinned (OpenSpec.ofChange fixSaysSpec)

/-- ITS FALSE NEIGHBOUR: 'it returns false'. Refute it at one input. -/
def fixSaysWrong : ChangeSpec := { name := "fixSays", fn := fun _ => fun
  | [d1, d2, d3] => { results := [.lit (.bool false)], args := [d1, d2, d3] }
  | _ => none }
def FixSaysWrongFalsely : Prop := fixSaysRow.holds Try.pinned (OpenSpec.ofChange fixSaysWrong)

/-- 'fulmarlaw.LawSays': WHATEVER THE INPUT: true; the input reads as it did. -/
def lawSaysSpec : ChangeSpec := { name := "lawSays", fn := fun _ => fun
  | [d1, d2, d3, d4] => { results := [.lit (.bool true)], args := [d1, d2, d3, d4] }
  | _ => none }
def lawSaysRow : OpenClaim := { program := "ytalfgmhjnfnbeaa", sum := "229dec0a6a36ea6ea30d0e8126d9e06b0801bfe5dc7da116c74645da026dedc1", func := "fulmar/fulmarlaw.LawSays", spec := "lawSays", apart := false }
def LawSaysSaid : Prop := lawSaysRow.holds Try.pinned (OpenSpec.ofChange lawSaysSpec)

/-- ITS FALSE NEIGHBOUR: 'it returns false'. Refute it at one input. -/
def lawSaysWrong : ChangeSpec := { name := "lawSays", fn := fun _ => fun
  | [d1, d2, d3, d4] => { results := [.lit (.bool false)], args := [d1, d2, d3, d4] }
  | _ => none }
def LawSaysWrongFalsely : Prop := lawSaysRow.holds Try.pinned (OpenSpec.ofChange lawSaysWrong)

/-- 'fulmarlaw.FixSpans': WHATEVER THE INPUT: true; the input reads as it did. -/
def fixSpansSpec : ChangeSpec := { name := "fixSpans", fn := fun _ => fun
  | [d1, d2, d3] => { results := [.lit (.bool true)], args := [d1, d2, d3] }
  | _ => none }
def fixSpansRow : OpenClaim := { program := "ytalfgmhjnfnbeaa", sum := "229dec0a6a36ea6ea30d0e8126d9e06b0801bfe5dc7da116c74645da026dedc1", func := "fulmar/fulmarlaw.FixSpans", spec := "fixSpans", unfollowed := true, recurses := true, apart := false }
def FixSpansSaid : Prop := fixSpansRow.holds Try.pinned (OpenSpec.ofChange fixSpansSpec)

/-- ITS FALSE NEIGHBOUR: 'it returns false'. Refute it at one input. -/
def fixSpansWrong : ChangeSpec := { name := "fixSpans", fn := fun _ => fun
  | [d1, d2, d3] => { results := [.lit (.bool false)], args := [d1, d2, d3] }
  | _ => none }
def FixSpansWrongFalsely : Prop := fixSpansRow.holds Try.pinned (OpenSpec.ofChange fixSpansWrong)

/-- 'fulmarlaw.ActSays': WHATEVER THE INPUT: true; the input reads as it did. -/
def actSaysSpec : ChangeSpec := { name := "actSays", fn := fun _ => fun
  | [d1, d2, d3, d4] => { results := [.lit (.bool true)], args := [d1, d2, d3, d4] }
  | _ => none }
def actSaysRow : OpenClaim := { program := "ytalfgmhjnfnbeaa", sum := "229dec0a6a36ea6ea30d0e8126d9e06b0801bfe5dc7da116c74645da026dedc1", func := "fulmar/fulmarlaw.ActSays", spec := "actSays", apart := false }
def ActSaysSaid : Prop := actSaysRow.holds Try.pinned (OpenSpec.ofChange actSaysSpec)

/-- ITS FALSE NEIGHBOUR: 'it returns false'. Refute it at one input. -/
def actSaysWrong : ChangeSpec := { name := "actSays", fn := fun _ => fun
  | [d1, d2, d3, d4] => { results := [.lit (.bool false)], args := [d1, d2, d3, d4] }
  | _ => none }
def ActSaysWrongFalsely : Prop := actSaysRow.holds Try.pinned (OpenSpec.ofChange actSaysWrong)

/-- 'fulmarlaw.GuardBounds': WHATEVER THE INPUT: true; the input reads as it did. -/
def guardBoundsSpec : ChangeSpec := { name := "guardBounds", fn := fun _ => fun
  | [d1, d2, d3, d4] => { results := [.lit (.bool true)], args := [d1, d2, d3, d4] }
  | _ => none }
def guardBoundsRow : OpenClaim := { program := "ytalfgmhjnfnbeaa", sum := "229dec0a6a36ea6ea30d0e8126d9e06b0801bfe5dc7da116c74645da026dedc1", func := "fulmar/fulmarlaw.GuardBounds", spec := "guardBounds", unfollowed := true, recurses := true, apart := false }
def GuardBoundsSaid : Prop := guardBoundsRow.holds Try.pinned (OpenSpec.ofChange guardBoundsSpec)

/-- ITS FALSE NEIGHBOUR: 'it returns false'. Refute it at one input. -/
def guardBoundsWrong : ChangeSpec := { name := "guardBounds", fn := fun _ => fun
  | [d1, d2, d3, d4] => { results := [.lit (.bool false)], args := [d1, d2, d3, d4] }
  | _ => none }
def GuardBoundsWrongFalsely : Prop := guardBoundsRow.holds Try.pinned (OpenSpec.ofChange guardBoundsWrong)

/-- 'fulmarlaw.GuardMade': WHATEVER THE INPUT: true; the input reads as it did. -/
def guardMadeSpec : ChangeSpec := { name := "guardMade", fn := fun _ => fun
  | [d1, d2, d3, d4] => { results := [.lit (.bool true)], args := [d1, d2, d3, d4] }
  | _ => none }
def guardMadeRow : OpenClaim := { program := "ytalfgmhjnfnbeaa", sum := "229dec0a6a36ea6ea30d0e8126d9e06b0801bfe5dc7da116c74645da026dedc1", func := "fulmar/fulmarlaw.GuardMade", spec := "guardMade", unfollowed := true, recurses := true, apart := false }
def GuardMadeSaid : Prop := guardMadeRow.holds Try.pinned (OpenSpec.ofChange guardMadeSpec)

/-- ITS FALSE NEIGHBOUR: 'it returns false'. Refute it at one input. -/
def guardMadeWrong : ChangeSpec := { name := "guardMade", fn := fun _ => fun
  | [d1, d2, d3, d4] => { results := [.lit (.bool false)], args := [d1, d2, d3, d4] }
  | _ => none }
def GuardMadeWrongFalsely : Prop := guardMadeRow.holds Try.pinned (OpenSpec.ofChange guardMadeWrong)

/-- 'fulmartop.TopFix': WHATEVER THE INPUT: true; the input reads as it did. -/
def topFixSpec : ChangeSpec := { name := "topFix", fn := fun _ => fun
  | [d1, d2, d3, d4] => { results := [.lit (.bool true)], args := [d1, d2, d3, d4] }
  | _ => none }
def topFixRow : OpenClaim := { program := "ytalfgmhjnfnbeaa", sum := "229dec0a6a36ea6ea30d0e8126d9e06b0801bfe5dc7da116c74645da026dedc1", func := "fulmar/fulmartop.TopFix", spec := "topFix", unfollowed := true, recurses := true, apart := false }
def TopFixSaid : Prop := topFixRow.holds Try.pinned (OpenSpec.ofChange topFixSpec)

/-- ITS FALSE NEIGHBOUR: 'it returns false'. Refute it at one input. -/
def topFixWrong : ChangeSpec := { name := "topFix", fn := fun _ => fun
  | [d1, d2, d3, d4] => { results := [.lit (.bool false)], args := [d1, d2, d3, d4] }
  | _ => none }
def TopFixWrongFalsely : Prop := topFixRow.holds Try.pinned (OpenSpec.ofChange topFixWrong)

/- THE SECOND FORM. 'bulk': how many values and letters a reading holds, each counted each time it is reached (what is shared counts as often as it is met; a slice's spare places count too). A statement '..UptoSaid' is the law's where the arguments, and the package variables that the reading takes, are together of bulk at most 1048576: NARROWER than '..Said'. Prove '..Said' where nothing that the law and all that it calls make is longer than what came in: it says more and counts as full. Else prove '..UptoSaid'. A law counts once. -/
mutual
def uptoBulk {H : Type} : DataW H → Nat
  | .lit (.string bytes) => bytes.length + 1
  | .lit _ => 1
  | .nil => 1
  | .ptr d => uptoBulk d + 1
  | .slice elems spare => uptoBulkAll elems + uptoBulkAll spare + 1
  | .agg parts => uptoBulkAll parts + 1
  | .iface _ d => uptoBulk d + 1
  | .map entries => uptoBulkEntries entries + 1
  | .held _ => 1
def uptoBulkAll {H : Type} : List (DataW H) → Nat
  | [] => 0
  | d :: r => uptoBulk d + uptoBulkAll r
def uptoBulkEntries {H : Type} : List (Lit × DataW H) → Nat
  | [] => 0
  | x :: r => uptoBulkEntry x + uptoBulkEntries r
def uptoBulkEntry {H : Type} : Lit × DataW H → Nat
  | (.string bytes, d) => bytes.length + uptoBulk d + 1
  | (_, d) => uptoBulk d + 1
 end
def uptoSmall : (H : Type) → List (DataW H) → Bool := fun _ ds => decide (uptoBulkAll ds ≤ 1048576)
def OpenSpec.upto (s : _root_.Go.ChangeSpec) : _root_.Go.OpenSpec := { _root_.Go.OpenSpec.ofChange s with cond := some uptoSmall }

/-- 'fulmarlaw.FixClips', WHERE WHAT IT READS IS OF BULK AT MOST 1048576: true; the input reads as it did. -/
def fixClipsUptoRow : OpenClaim := { program := "ytalfgmhjnfnbeaa", sum := "229dec0a6a36ea6ea30d0e8126d9e06b0801bfe5dc7da116c74645da026dedc1", func := "fulmar/fulmarlaw.FixClips", spec := "fixClips", apart := false, narrowed := true }
def FixClipsUptoSaid : Prop := fixClipsUptoRow.holds Try.pinned (OpenSpec.upto fixClipsSpec)

/-- 'fulmarlaw.WordReads', WHERE WHAT IT READS IS OF BULK AT MOST 1048576: true; the input reads as it did. -/
def wordReadsUptoRow : OpenClaim := { program := "ytalfgmhjnfnbeaa", sum := "229dec0a6a36ea6ea30d0e8126d9e06b0801bfe5dc7da116c74645da026dedc1", func := "fulmar/fulmarlaw.WordReads", spec := "wordReads", apart := false, narrowed := true }
def WordReadsUptoSaid : Prop := wordReadsUptoRow.holds Try.pinned (OpenSpec.upto wordReadsSpec)

/-- 'fulmarlaw.FixRoot', WHERE WHAT IT READS IS OF BULK AT MOST 1048576: true; the input reads as it did. -/
def fixRootUptoRow : OpenClaim := { program := "ytalfgmhjnfnbeaa", sum := "229dec0a6a36ea6ea30d0e8126d9e06b0801bfe5dc7da116c74645da026dedc1", func := "fulmar/fulmarlaw.FixRoot", spec := "fixRoot", apart := false, narrowed := true }
def FixRootUptoSaid : Prop := fixRootUptoRow.holds Try.pinned (OpenSpec.upto fixRootSpec)

/-- 'fulmarlaw.WordSays', WHERE WHAT IT READS IS OF BULK AT MOST 1048576: true; the input reads as it did. -/
def wordSaysUptoRow : OpenClaim := { program := "ytalfgmhjnfnbeaa", sum := "229dec0a6a36ea6ea30d0e8126d9e06b0801bfe5dc7da116c74645da026dedc1", func := "fulmar/fulmarlaw.WordSays", spec := "wordSays", apart := false, narrowed := true }
def WordSaysUptoSaid : Prop := wordSaysUptoRow.holds Try.pinned (OpenSpec.upto wordSaysSpec)

/-- 'fulmarlaw.GuardSays', WHERE WHAT IT READS IS OF BULK AT MOST 1048576: true; the input reads as it did. -/
def guardSaysUptoRow : OpenClaim := { program := "ytalfgmhjnfnbeaa", sum := "229dec0a6a36ea6ea30d0e8126d9e06b0801bfe5dc7da116c74645da026dedc1", func := "fulmar/fulmarlaw.GuardSays", spec := "guardSays", apart := false, narrowed := true }
def GuardSaysUptoSaid : Prop := guardSaysUptoRow.holds Try.pinned (OpenSpec.upto guardSaysSpec)

/-- 'fulmarlaw.FixSays', WHERE WHAT IT READS IS OF BULK AT MOST 1048576: true; the input reads as it did. -/
def fixSaysUptoRow : OpenClaim := { program := "ytalfgmhjnfnbeaa", sum := "229dec0a6a36ea6ea30d0e8126d9e06b0801bfe5dc7da116c74645da026dedc1", func := "fulmar/fulmarlaw.FixSays", spec := "fixSays", recurses := true, apart := false, narrowed := true }
def FixSaysUptoSaid : Prop := fixSaysUptoRow.holds Try.pinned (OpenSpec.upto fixSaysSpec)

/-- 'fulmarlaw.LawSays', WHERE WHAT IT READS IS OF BULK AT MOST 1048576: true; the input reads as it did. -/
def lawSaysUptoRow : OpenClaim := { program := "ytalfgmhjnfnbeaa", sum := "229dec0a6a36ea6ea30d0e8126d9e06b0801bfe5dc7da116c74645da026dedc1", func := "fulmar/fulmarlaw.LawSays", spec := "lawSays", apart := false, narrowed := true }
def LawSaysUptoSaid : Prop := lawSaysUptoRow.holds Try.pinned (OpenSpec.upto lawSaysSpec)

/-- 'fulmarlaw.FixSpans', WHERE WHAT IT READS IS OF BULK AT MOST 1048576: true; the input reads as it did. -/
def fixSpansUptoRow : OpenClaim := { program := "ytalfgmhjnfnbeaa", sum := "229dec0a6a36ea6ea30d0e8126d9e06b0801bfe5dc7da116c74645da026dedc1", func := "fulmar/fulmarlaw.FixSpans", spec := "fixSpans", unfollowed := true, recurses := true, apart := false, narrowed := true }
def FixSpansUptoSaid : Prop := fixSpansUptoRow.holds Try.pinned (OpenSpec.upto fixSpansSpec)

/-- 'fulmarlaw.ActSays', WHERE WHAT IT READS IS OF BULK AT MOST 1048576: true; the input reads as it did. -/
def actSaysUptoRow : OpenClaim := { program := "ytalfgmhjnfnbeaa", sum := "229dec0a6a36ea6ea30d0e8126d9e06b0801bfe5dc7da116c74645da026dedc1", func := "fulmar/fulmarlaw.ActSays", spec := "actSays", apart := false, narrowed := true }
def ActSaysUptoSaid : Prop := actSaysUptoRow.holds Try.pinned (OpenSpec.upto actSaysSpec)

/-- 'fulmarlaw.GuardBounds', WHERE WHAT IT READS IS OF BULK AT MOST 1048576: true; the input reads as it did. -/
def guardBoundsUptoRow : OpenClaim := { program := "ytalfgmhjnfnbeaa", sum := "229dec0a6a36ea6ea30d0e8126d9e06b0801bfe5dc7da116c74645da026dedc1", func := "fulmar/fulmarlaw.GuardBounds", spec := "guardBounds", unfollowed := true, recurses := true, apart := false, narrowed := true }
def GuardBoundsUptoSaid : Prop := guardBoundsUptoRow.holds Try.pinned (OpenSpec.upto guardBoundsSpec)

/-- 'fulmarlaw.GuardMade', WHERE WHAT IT READS IS OF BULK AT MOST 1048576: true; the input reads as it did. -/
def guardMadeUptoRow : OpenClaim := { program := "ytalfgmhjnfnbeaa", sum := "229dec0a6a36ea6ea30d0e8126d9e06b0801bfe5dc7da116c74645da026dedc1", func := "fulmar/fulmarlaw.GuardMade", spec := "guardMade", unfollowed := true, recurses := true, apart := false, narrowed := true }
def GuardMadeUptoSaid : Prop := guardMadeUptoRow.holds Try.pinned (OpenSpec.upto guardMadeSpec)

/-- 'fulmartop.TopFix', WHERE WHAT IT READS IS OF BULK AT MOST 1048576: true; the input reads as it did. -/
def topFixUptoRow : OpenClaim := { program := "ytalfgmhjnfnbeaa", sum := "229dec0a6a36ea6ea30d0e8126d9e06b0801bfe5dc7da116c74645da026dedc1", func := "fulmar/fulmartop.TopFix", spec := "topFix", unfollowed := true, recurses := true, apart := false, narrowed := true }
def TopFixUptoSaid : Prop := topFixUptoRow.holds Try.pinned (OpenSpec.upto topFixSpec)

end Rows
end Go.Proofs.Ytalfgmhjnfnbeaa
