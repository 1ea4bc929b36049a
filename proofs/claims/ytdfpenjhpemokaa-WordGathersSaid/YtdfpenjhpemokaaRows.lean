/-
  No cell of these rows narrows 'for every input' (looked for: loops, veiled, ifaces, maps, wideKeys, modest, calm, conditions, laid).
  DERIVED. THE GIVEN ROWS OF THIS SEAT. 27 by the template 'for every input the law returns true; each argument reads behind the call as it read before'; 0 by the template 'total and deterministic' (their statements: YtdfpenjhpemokaaTotals.lean).
  GIVEN WITH THE SEED: the statements are not yours to turn. If you find one false, say at which input.
  Laid BY PROGRAM, IN A SANDBOX (cutbox-rows.mjs): the forced cells as the released guide's own fill.sh prints them over the translation fc5228763cba2b9f… (all of the seat's roots in one cut). By AI agents, Wed Nov 11 2026. No macro, syntax, notation, axiom, sorry.
-/
import Derived.Test.YtdfpenjhpemokaaChecked
import GoSem.Claim
import GoSem.ClaimJoined
import GoSem.ClaimMapViews
import Derived.JoinedTies
import Derived.KernelRfl
namespace Go.Proofs.Ytdfpenjhpemokaa
/- THE CELL 'sum', in the pinned program and in every row, IS THE sha256 OF THE DUMP (.gsa) THAT YtdfpenjhpemokaaProg.lean LOADS. Nothing in Lean hashes anything: it is a label: what it is worth is what the hold of that sum in a sandbox is worth. -/
noncomputable def Try.pinned : Pinned := { name := "ytdfpenjhpemokaa", sum := "fc5228763cba2b9f24d07fb779c638932497d235526d94d72ae83dd19fd1bdc7", checked := Try.checked }
namespace Rows
def none {H : Type} : Left H := { results := [], args := [] }

/-- 'fulmarlaw.WordReads': WHATEVER THE INPUT: true; the input reads as it did. -/
def wordReadsSpec : ChangeSpec := { name := "wordReads", fn := fun _ => fun
  | [d] => { results := [.lit (.bool true)], args := [d] }
  | _ => none }
def wordReadsRow : OpenClaim := { program := "ytdfpenjhpemokaa", sum := "fc5228763cba2b9f24d07fb779c638932497d235526d94d72ae83dd19fd1bdc7", func := "fulmar/fulmarlaw.WordReads", spec := "wordReads", plainKeys := false, apart := false }
def WordReadsSaid : Prop := wordReadsRow.holds Try.pinned (OpenSpec.ofChange wordReadsSpec)

/-- ITS FALSE NEIGHBOUR: 'it returns false'. Refute it at one input. -/
def wordReadsWrong : ChangeSpec := { name := "wordReads", fn := fun _ => fun
  | [d] => { results := [.lit (.bool false)], args := [d] }
  | _ => none }
def WordReadsWrongFalsely : Prop := wordReadsRow.holds Try.pinned (OpenSpec.ofChange wordReadsWrong)

/-- 'fulmarlaw.WordSays': WHATEVER THE INPUT: true; the input reads as it did. -/
def wordSaysSpec : ChangeSpec := { name := "wordSays", fn := fun _ => fun
  | [d] => { results := [.lit (.bool true)], args := [d] }
  | _ => none }
def wordSaysRow : OpenClaim := { program := "ytdfpenjhpemokaa", sum := "fc5228763cba2b9f24d07fb779c638932497d235526d94d72ae83dd19fd1bdc7", func := "fulmar/fulmarlaw.WordSays", spec := "wordSays", plainKeys := false, apart := false }
def WordSaysSaid : Prop := wordSaysRow.holds Try.pinned (OpenSpec.ofChange wordSaysSpec)

/-- ITS FALSE NEIGHBOUR: 'it returns false'. Refute it at one input. -/
def wordSaysWrong : ChangeSpec := { name := "wordSays", fn := fun _ => fun
  | [d] => { results := [.lit (.bool false)], args := [d] }
  | _ => none }
def WordSaysWrongFalsely : Prop := wordSaysRow.holds Try.pinned (OpenSpec.ofChange wordSaysWrong)

/-- 'fulmarlaw.FixSpans': WHATEVER THE INPUT: true; the input reads as it did. -/
def fixSpansSpec : ChangeSpec := { name := "fixSpans", fn := fun _ => fun
  | [d1, d2, d3] => { results := [.lit (.bool true)], args := [d1, d2, d3] }
  | _ => none }
def fixSpansRow : OpenClaim := { program := "ytdfpenjhpemokaa", sum := "fc5228763cba2b9f24d07fb779c638932497d235526d94d72ae83dd19fd1bdc7", func := "fulmar/fulmarlaw.FixSpans", spec := "fixSpans", unfollowed := true, recurses := true, plainKeys := false, apart := false }
def FixSpansSaid : Prop := fixSpansRow.holds Try.pinned (OpenSpec.ofChange fixSpansSpec)

/-- ITS FALSE NEIGHBOUR: 'it returns false'. Refute it at one input. -/
def fixSpansWrong : ChangeSpec := { name := "fixSpans", fn := fun _ => fun
  | [d1, d2, d3] => { results := [.lit (.bool false)], args := [d1, d2, d3] }
  | _ => none }
def FixSpansWrongFalsely : Prop := fixSpansRow.holds Try.pinned (OpenSpec.ofChange fixSpansWrong)

/-- 'fulmarlaw.ActSays': WHATEVER THE INPUT: true; the input reads as it did. -/
def actSaysSpec : ChangeSpec := { name := "actSays", fn := fun _ => fun
  | [d1, d2, d3, d4] => { results := [.lit (.bool true)], args := [d1, d2, d3, d4] }
  | _ => none }
def actSaysRow : OpenClaim := { program := "ytdfpenjhpemokaa", sum := "fc5228763cba2b9f24d07fb779c638932497d235526d94d72ae83dd19fd1bdc7", func := "fulmar/fulmarlaw.ActSays", spec := "actSays", plainKeys := false, apart := false }
def ActSaysSaid : Prop := actSaysRow.holds Try.pinned (OpenSpec.ofChange actSaysSpec)

/-- ITS FALSE NEIGHBOUR: 'it returns false'. Refute it at one input. -/
def actSaysWrong : ChangeSpec := { name := "actSays", fn := fun _ => fun
  | [d1, d2, d3, d4] => { results := [.lit (.bool false)], args := [d1, d2, d3, d4] }
  | _ => none }
def ActSaysWrongFalsely : Prop := actSaysRow.holds Try.pinned (OpenSpec.ofChange actSaysWrong)

/-- 'fulmarlaw.GuardBounds': WHATEVER THE INPUT: true; the input reads as it did. -/
def guardBoundsSpec : ChangeSpec := { name := "guardBounds", fn := fun _ => fun
  | [d1, d2, d3, d4] => { results := [.lit (.bool true)], args := [d1, d2, d3, d4] }
  | _ => none }
def guardBoundsRow : OpenClaim := { program := "ytdfpenjhpemokaa", sum := "fc5228763cba2b9f24d07fb779c638932497d235526d94d72ae83dd19fd1bdc7", func := "fulmar/fulmarlaw.GuardBounds", spec := "guardBounds", unfollowed := true, recurses := true, plainKeys := false, apart := false }
def GuardBoundsSaid : Prop := guardBoundsRow.holds Try.pinned (OpenSpec.ofChange guardBoundsSpec)

/-- ITS FALSE NEIGHBOUR: 'it returns false'. Refute it at one input. -/
def guardBoundsWrong : ChangeSpec := { name := "guardBounds", fn := fun _ => fun
  | [d1, d2, d3, d4] => { results := [.lit (.bool false)], args := [d1, d2, d3, d4] }
  | _ => none }
def GuardBoundsWrongFalsely : Prop := guardBoundsRow.holds Try.pinned (OpenSpec.ofChange guardBoundsWrong)

/-- 'fulmarlaw.GuardMade': WHATEVER THE INPUT: true; the input reads as it did. -/
def guardMadeSpec : ChangeSpec := { name := "guardMade", fn := fun _ => fun
  | [d1, d2, d3, d4] => { results := [.lit (.bool true)], args := [d1, d2, d3, d4] }
  | _ => none }
def guardMadeRow : OpenClaim := { program := "ytdfpenjhpemokaa", sum := "fc5228763cba2b9f24d07fb779c638932497d235526d94d72ae83dd19fd1bdc7", func := "fulmar/fulmarlaw.GuardMade", spec := "guardMade", unfollowed := true, recurses := true, plainKeys := false, apart := false }
def GuardMadeSaid : Prop := guardMadeRow.holds Try.pinned (OpenSpec.ofChange guardMadeSpec)

/-- ITS FALSE NEIGHBOUR: 'it returns false'. Refute it at one input. -/
def guardMadeWrong : ChangeSpec := { name := "guardMade", fn := fun _ => fun
  | [d1, d2, d3, d4] => { results := [.lit (.bool false)], args := [d1, d2, d3, d4] }
  | _ => none }
def GuardMadeWrongFalsely : Prop := guardMadeRow.holds Try.pinned (OpenSpec.ofChange guardMadeWrong)

/-- 'fulmartop.TopFix': WHATEVER THE INPUT: true; the input reads as it did. -/
def topFixSpec : ChangeSpec := { name := "topFix", fn := fun _ => fun
  | [d1, d2, d3, d4] => { results := [.lit (.bool true)], args := [d1, d2, d3, d4] }
  | _ => none }
def topFixRow : OpenClaim := { program := "ytdfpenjhpemokaa", sum := "fc5228763cba2b9f24d07fb779c638932497d235526d94d72ae83dd19fd1bdc7", func := "fulmar/fulmartop.TopFix", spec := "topFix", unfollowed := true, recurses := true, plainKeys := false, apart := false }
def TopFixSaid : Prop := topFixRow.holds Try.pinned (OpenSpec.ofChange topFixSpec)

/-- ITS FALSE NEIGHBOUR: 'it returns false'. Refute it at one input. -/
def topFixWrong : ChangeSpec := { name := "topFix", fn := fun _ => fun
  | [d1, d2, d3, d4] => { results := [.lit (.bool false)], args := [d1, d2, d3, d4] }
  | _ => none }
def TopFixWrongFalsely : Prop := topFixRow.holds Try.pinned (OpenSpec.ofChange topFixWrong)

/-- 'fulmarlaw.VoteSays': WHATEVER THE INPUT: true; the input reads as it did. -/
def voteSaysSpec : ChangeSpec := { name := "voteSays", fn := fun _ => fun
  | [d1, d2, d3] => { results := [.lit (.bool true)], args := [d1, d2, d3] }
  | _ => none }
def voteSaysRow : OpenClaim := { program := "ytdfpenjhpemokaa", sum := "fc5228763cba2b9f24d07fb779c638932497d235526d94d72ae83dd19fd1bdc7", func := "fulmar/fulmarlaw.VoteSays", spec := "voteSays", plainKeys := false, apart := false }
def VoteSaysSaid : Prop := voteSaysRow.holds Try.pinned (OpenSpec.ofChange voteSaysSpec)

/-- ITS FALSE NEIGHBOUR: 'it returns false'. Refute it at one input. -/
def voteSaysWrong : ChangeSpec := { name := "voteSays", fn := fun _ => fun
  | [d1, d2, d3] => { results := [.lit (.bool false)], args := [d1, d2, d3] }
  | _ => none }
def VoteSaysWrongFalsely : Prop := voteSaysRow.holds Try.pinned (OpenSpec.ofChange voteSaysWrong)

/-- 'fulmarlaw.VoteRuns': WHATEVER THE INPUT: true; the input reads as it did. -/
def voteRunsSpec : ChangeSpec := { name := "voteRuns", fn := fun _ => fun
  | [d1, d2] => { results := [.lit (.bool true)], args := [d1, d2] }
  | _ => none }
def voteRunsRow : OpenClaim := { program := "ytdfpenjhpemokaa", sum := "fc5228763cba2b9f24d07fb779c638932497d235526d94d72ae83dd19fd1bdc7", func := "fulmar/fulmarlaw.VoteRuns", spec := "voteRuns", plainKeys := false, apart := false }
def VoteRunsSaid : Prop := voteRunsRow.holds Try.pinned (OpenSpec.ofChange voteRunsSpec)

/-- ITS FALSE NEIGHBOUR: 'it returns false'. Refute it at one input. -/
def voteRunsWrong : ChangeSpec := { name := "voteRuns", fn := fun _ => fun
  | [d1, d2] => { results := [.lit (.bool false)], args := [d1, d2] }
  | _ => none }
def VoteRunsWrongFalsely : Prop := voteRunsRow.holds Try.pinned (OpenSpec.ofChange voteRunsWrong)

/-- 'fulmarlaw.LineSays': WHATEVER THE INPUT: true; the input reads as it did. -/
def lineSaysSpec : ChangeSpec := { name := "lineSays", fn := fun _ => fun
  | [d1, d2] => { results := [.lit (.bool true)], args := [d1, d2] }
  | _ => none }
def lineSaysRow : OpenClaim := { program := "ytdfpenjhpemokaa", sum := "fc5228763cba2b9f24d07fb779c638932497d235526d94d72ae83dd19fd1bdc7", func := "fulmar/fulmarlaw.LineSays", spec := "lineSays", plainKeys := false, apart := false }
def LineSaysSaid : Prop := lineSaysRow.holds Try.pinned (OpenSpec.ofChange lineSaysSpec)

/-- ITS FALSE NEIGHBOUR: 'it returns false'. Refute it at one input. -/
def lineSaysWrong : ChangeSpec := { name := "lineSays", fn := fun _ => fun
  | [d1, d2] => { results := [.lit (.bool false)], args := [d1, d2] }
  | _ => none }
def LineSaysWrongFalsely : Prop := lineSaysRow.holds Try.pinned (OpenSpec.ofChange lineSaysWrong)

/-- 'fulmarlaw.GridSays': WHATEVER THE INPUT: true; the input reads as it did. -/
def gridSaysSpec : ChangeSpec := { name := "gridSays", fn := fun _ => fun
  | [d1, d2, d3] => { results := [.lit (.bool true)], args := [d1, d2, d3] }
  | _ => none }
def gridSaysRow : OpenClaim := { program := "ytdfpenjhpemokaa", sum := "fc5228763cba2b9f24d07fb779c638932497d235526d94d72ae83dd19fd1bdc7", func := "fulmar/fulmarlaw.GridSays", spec := "gridSays", plainKeys := false, apart := false }
def GridSaysSaid : Prop := gridSaysRow.holds Try.pinned (OpenSpec.ofChange gridSaysSpec)

/-- ITS FALSE NEIGHBOUR: 'it returns false'. Refute it at one input. -/
def gridSaysWrong : ChangeSpec := { name := "gridSays", fn := fun _ => fun
  | [d1, d2, d3] => { results := [.lit (.bool false)], args := [d1, d2, d3] }
  | _ => none }
def GridSaysWrongFalsely : Prop := gridSaysRow.holds Try.pinned (OpenSpec.ofChange gridSaysWrong)

/-- 'fulmartop.TopWord': WHATEVER THE INPUT: true; the input reads as it did. -/
def topWordSpec : ChangeSpec := { name := "topWord", fn := fun _ => fun
  | [d1, d2] => { results := [.lit (.bool true)], args := [d1, d2] }
  | _ => none }
def topWordRow : OpenClaim := { program := "ytdfpenjhpemokaa", sum := "fc5228763cba2b9f24d07fb779c638932497d235526d94d72ae83dd19fd1bdc7", func := "fulmar/fulmartop.TopWord", spec := "topWord", recurses := true, plainKeys := false, apart := false }
def TopWordSaid : Prop := topWordRow.holds Try.pinned (OpenSpec.ofChange topWordSpec)

/-- ITS FALSE NEIGHBOUR: 'it returns false'. Refute it at one input. -/
def topWordWrong : ChangeSpec := { name := "topWord", fn := fun _ => fun
  | [d1, d2] => { results := [.lit (.bool false)], args := [d1, d2] }
  | _ => none }
def TopWordWrongFalsely : Prop := topWordRow.holds Try.pinned (OpenSpec.ofChange topWordWrong)

/-- 'fulmarlaw.ShareSays': WHATEVER THE INPUT: true; the input reads as it did. -/
def shareSaysSpec : ChangeSpec := { name := "shareSays", fn := fun _ => fun
  | [d1, d2, d3] => { results := [.lit (.bool true)], args := [d1, d2, d3] }
  | _ => none }
def shareSaysRow : OpenClaim := { program := "ytdfpenjhpemokaa", sum := "fc5228763cba2b9f24d07fb779c638932497d235526d94d72ae83dd19fd1bdc7", func := "fulmar/fulmarlaw.ShareSays", spec := "shareSays", unfollowed := true, recurses := true, plainKeys := false, apart := false }
def ShareSaysSaid : Prop := shareSaysRow.holds Try.pinned (OpenSpec.ofChange shareSaysSpec)

/-- ITS FALSE NEIGHBOUR: 'it returns false'. Refute it at one input. -/
def shareSaysWrong : ChangeSpec := { name := "shareSays", fn := fun _ => fun
  | [d1, d2, d3] => { results := [.lit (.bool false)], args := [d1, d2, d3] }
  | _ => none }
def ShareSaysWrongFalsely : Prop := shareSaysRow.holds Try.pinned (OpenSpec.ofChange shareSaysWrong)

/-- 'fulmarlaw.ShareMade': WHATEVER THE INPUT: true; the input reads as it did. -/
def shareMadeSpec : ChangeSpec := { name := "shareMade", fn := fun _ => fun
  | [d1, d2, d3] => { results := [.lit (.bool true)], args := [d1, d2, d3] }
  | _ => none }
def shareMadeRow : OpenClaim := { program := "ytdfpenjhpemokaa", sum := "fc5228763cba2b9f24d07fb779c638932497d235526d94d72ae83dd19fd1bdc7", func := "fulmar/fulmarlaw.ShareMade", spec := "shareMade", unfollowed := true, recurses := true, plainKeys := false, apart := false }
def ShareMadeSaid : Prop := shareMadeRow.holds Try.pinned (OpenSpec.ofChange shareMadeSpec)

/-- ITS FALSE NEIGHBOUR: 'it returns false'. Refute it at one input. -/
def shareMadeWrong : ChangeSpec := { name := "shareMade", fn := fun _ => fun
  | [d1, d2, d3] => { results := [.lit (.bool false)], args := [d1, d2, d3] }
  | _ => none }
def ShareMadeWrongFalsely : Prop := shareMadeRow.holds Try.pinned (OpenSpec.ofChange shareMadeWrong)

/-- 'fulmarlaw.LineOver': WHATEVER THE INPUT: true; the input reads as it did. -/
def lineOverSpec : ChangeSpec := { name := "lineOver", fn := fun _ => fun
  | [d1, d2] => { results := [.lit (.bool true)], args := [d1, d2] }
  | _ => none }
def lineOverRow : OpenClaim := { program := "ytdfpenjhpemokaa", sum := "fc5228763cba2b9f24d07fb779c638932497d235526d94d72ae83dd19fd1bdc7", func := "fulmar/fulmarlaw.LineOver", spec := "lineOver", unfollowed := true, recurses := true, plainKeys := false, apart := false }
def LineOverSaid : Prop := lineOverRow.holds Try.pinned (OpenSpec.ofChange lineOverSpec)

/-- ITS FALSE NEIGHBOUR: 'it returns false'. Refute it at one input. -/
def lineOverWrong : ChangeSpec := { name := "lineOver", fn := fun _ => fun
  | [d1, d2] => { results := [.lit (.bool false)], args := [d1, d2] }
  | _ => none }
def LineOverWrongFalsely : Prop := lineOverRow.holds Try.pinned (OpenSpec.ofChange lineOverWrong)

/-- 'fulmarlaw.CraftSays': WHATEVER THE INPUT: true; the input reads as it did. -/
def craftSaysSpec : ChangeSpec := { name := "craftSays", fn := fun _ => fun
  | [d] => { results := [.lit (.bool true)], args := [d] }
  | _ => none }
def craftSaysRow : OpenClaim := { program := "ytdfpenjhpemokaa", sum := "fc5228763cba2b9f24d07fb779c638932497d235526d94d72ae83dd19fd1bdc7", func := "fulmar/fulmarlaw.CraftSays", spec := "craftSays", unfollowed := true, recurses := true, plainKeys := false, apart := false }
def CraftSaysSaid : Prop := craftSaysRow.holds Try.pinned (OpenSpec.ofChange craftSaysSpec)

/-- ITS FALSE NEIGHBOUR: 'it returns false'. Refute it at one input. -/
def craftSaysWrong : ChangeSpec := { name := "craftSays", fn := fun _ => fun
  | [d] => { results := [.lit (.bool false)], args := [d] }
  | _ => none }
def CraftSaysWrongFalsely : Prop := craftSaysRow.holds Try.pinned (OpenSpec.ofChange craftSaysWrong)

/-- 'fulmarlaw.HoldSays': WHATEVER THE INPUT: true; the input reads as it did. -/
def holdSaysSpec : ChangeSpec := { name := "holdSays", fn := fun _ => fun
  | [d1, d2, d3, d4, d5] => { results := [.lit (.bool true)], args := [d1, d2, d3, d4, d5] }
  | _ => none }
def holdSaysRow : OpenClaim := { program := "ytdfpenjhpemokaa", sum := "fc5228763cba2b9f24d07fb779c638932497d235526d94d72ae83dd19fd1bdc7", func := "fulmar/fulmarlaw.HoldSays", spec := "holdSays", recurses := true, plainKeys := false, apart := false }
def HoldSaysSaid : Prop := holdSaysRow.holds Try.pinned (OpenSpec.ofChange holdSaysSpec)

/-- ITS FALSE NEIGHBOUR: 'it returns false'. Refute it at one input. -/
def holdSaysWrong : ChangeSpec := { name := "holdSays", fn := fun _ => fun
  | [d1, d2, d3, d4, d5] => { results := [.lit (.bool false)], args := [d1, d2, d3, d4, d5] }
  | _ => none }
def HoldSaysWrongFalsely : Prop := holdSaysRow.holds Try.pinned (OpenSpec.ofChange holdSaysWrong)

/-- 'fulmartop.TopServo': WHATEVER THE INPUT: true; the input reads as it did. -/
def topServoSpec : ChangeSpec := { name := "topServo", fn := fun _ => fun
  | [d1, d2, d3] => { results := [.lit (.bool true)], args := [d1, d2, d3] }
  | _ => none }
def topServoRow : OpenClaim := { program := "ytdfpenjhpemokaa", sum := "fc5228763cba2b9f24d07fb779c638932497d235526d94d72ae83dd19fd1bdc7", func := "fulmar/fulmartop.TopServo", spec := "topServo", recurses := true, plainKeys := false, apart := false }
def TopServoSaid : Prop := topServoRow.holds Try.pinned (OpenSpec.ofChange topServoSpec)

/-- ITS FALSE NEIGHBOUR: 'it returns false'. Refute it at one input. -/
def topServoWrong : ChangeSpec := { name := "topServo", fn := fun _ => fun
  | [d1, d2, d3] => { results := [.lit (.bool false)], args := [d1, d2, d3] }
  | _ => none }
def TopServoWrongFalsely : Prop := topServoRow.holds Try.pinned (OpenSpec.ofChange topServoWrong)

/-- 'fulmarlaw.HoldMade': WHATEVER THE INPUT: true; the input reads as it did. -/
def holdMadeSpec : ChangeSpec := { name := "holdMade", fn := fun _ => fun
  | [d1, d2, d3] => { results := [.lit (.bool true)], args := [d1, d2, d3] }
  | _ => none }
def holdMadeRow : OpenClaim := { program := "ytdfpenjhpemokaa", sum := "fc5228763cba2b9f24d07fb779c638932497d235526d94d72ae83dd19fd1bdc7", func := "fulmar/fulmarlaw.HoldMade", spec := "holdMade", recurses := true, plainKeys := false, apart := false }
def HoldMadeSaid : Prop := holdMadeRow.holds Try.pinned (OpenSpec.ofChange holdMadeSpec)

/-- ITS FALSE NEIGHBOUR: 'it returns false'. Refute it at one input. -/
def holdMadeWrong : ChangeSpec := { name := "holdMade", fn := fun _ => fun
  | [d1, d2, d3] => { results := [.lit (.bool false)], args := [d1, d2, d3] }
  | _ => none }
def HoldMadeWrongFalsely : Prop := holdMadeRow.holds Try.pinned (OpenSpec.ofChange holdMadeWrong)

/-- 'fulmarlaw.WordGathers': WHATEVER THE INPUT: true; the input reads as it did. -/
def wordGathersSpec : ChangeSpec := { name := "wordGathers", fn := fun _ => fun
  | [d1, d2, d3] => { results := [.lit (.bool true)], args := [d1, d2, d3] }
  | _ => none }
def wordGathersRow : OpenClaim := { program := "ytdfpenjhpemokaa", sum := "fc5228763cba2b9f24d07fb779c638932497d235526d94d72ae83dd19fd1bdc7", func := "fulmar/fulmarlaw.WordGathers", spec := "wordGathers", unfollowed := true, recurses := true, plainKeys := false, apart := false }
def WordGathersSaid : Prop := wordGathersRow.holds Try.pinned (OpenSpec.ofChange wordGathersSpec)

/-- ITS FALSE NEIGHBOUR: 'it returns false'. Refute it at one input. -/
def wordGathersWrong : ChangeSpec := { name := "wordGathers", fn := fun _ => fun
  | [d1, d2, d3] => { results := [.lit (.bool false)], args := [d1, d2, d3] }
  | _ => none }
def WordGathersWrongFalsely : Prop := wordGathersRow.holds Try.pinned (OpenSpec.ofChange wordGathersWrong)

/-- 'fulmartop.TopGuard': WHATEVER THE INPUT: true; the input reads as it did. -/
def topGuardSpec : ChangeSpec := { name := "topGuard", fn := fun _ => fun
  | [d1, d2, d3] => { results := [.lit (.bool true)], args := [d1, d2, d3] }
  | _ => none }
def topGuardRow : OpenClaim := { program := "ytdfpenjhpemokaa", sum := "fc5228763cba2b9f24d07fb779c638932497d235526d94d72ae83dd19fd1bdc7", func := "fulmar/fulmartop.TopGuard", spec := "topGuard", unfollowed := true, recurses := true, plainKeys := false, apart := false }
def TopGuardSaid : Prop := topGuardRow.holds Try.pinned (OpenSpec.ofChange topGuardSpec)

/-- ITS FALSE NEIGHBOUR: 'it returns false'. Refute it at one input. -/
def topGuardWrong : ChangeSpec := { name := "topGuard", fn := fun _ => fun
  | [d1, d2, d3] => { results := [.lit (.bool false)], args := [d1, d2, d3] }
  | _ => none }
def TopGuardWrongFalsely : Prop := topGuardRow.holds Try.pinned (OpenSpec.ofChange topGuardWrong)

/-- 'fulmartop.TopGuardMade': WHATEVER THE INPUT: true; the input reads as it did. -/
def topGuardMadeSpec : ChangeSpec := { name := "topGuardMade", fn := fun _ => fun
  | [d1, d2, d3, d4] => { results := [.lit (.bool true)], args := [d1, d2, d3, d4] }
  | _ => none }
def topGuardMadeRow : OpenClaim := { program := "ytdfpenjhpemokaa", sum := "fc5228763cba2b9f24d07fb779c638932497d235526d94d72ae83dd19fd1bdc7", func := "fulmar/fulmartop.TopGuardMade", spec := "topGuardMade", unfollowed := true, recurses := true, plainKeys := false, apart := false }
def TopGuardMadeSaid : Prop := topGuardMadeRow.holds Try.pinned (OpenSpec.ofChange topGuardMadeSpec)

/-- ITS FALSE NEIGHBOUR: 'it returns false'. Refute it at one input. -/
def topGuardMadeWrong : ChangeSpec := { name := "topGuardMade", fn := fun _ => fun
  | [d1, d2, d3, d4] => { results := [.lit (.bool false)], args := [d1, d2, d3, d4] }
  | _ => none }
def TopGuardMadeWrongFalsely : Prop := topGuardMadeRow.holds Try.pinned (OpenSpec.ofChange topGuardMadeWrong)

/-- 'fulmartop.TopFree': WHATEVER THE INPUT: true; the input reads as it did. -/
def topFreeSpec : ChangeSpec := { name := "topFree", fn := fun _ => fun
  | [d1, d2, d3, d4] => { results := [.lit (.bool true)], args := [d1, d2, d3, d4] }
  | _ => none }
def topFreeRow : OpenClaim := { program := "ytdfpenjhpemokaa", sum := "fc5228763cba2b9f24d07fb779c638932497d235526d94d72ae83dd19fd1bdc7", func := "fulmar/fulmartop.TopFree", spec := "topFree", unfollowed := true, recurses := true, plainKeys := false, apart := false }
def TopFreeSaid : Prop := topFreeRow.holds Try.pinned (OpenSpec.ofChange topFreeSpec)

/-- ITS FALSE NEIGHBOUR: 'it returns false'. Refute it at one input. -/
def topFreeWrong : ChangeSpec := { name := "topFree", fn := fun _ => fun
  | [d1, d2, d3, d4] => { results := [.lit (.bool false)], args := [d1, d2, d3, d4] }
  | _ => none }
def TopFreeWrongFalsely : Prop := topFreeRow.holds Try.pinned (OpenSpec.ofChange topFreeWrong)

/-- 'fulmartop.TopVote': WHATEVER THE INPUT: true; the input reads as it did. -/
def topVoteSpec : ChangeSpec := { name := "topVote", fn := fun _ => fun
  | [d1, d2, d3, d4] => { results := [.lit (.bool true)], args := [d1, d2, d3, d4] }
  | _ => none }
def topVoteRow : OpenClaim := { program := "ytdfpenjhpemokaa", sum := "fc5228763cba2b9f24d07fb779c638932497d235526d94d72ae83dd19fd1bdc7", func := "fulmar/fulmartop.TopVote", spec := "topVote", recurses := true, plainKeys := false, apart := false }
def TopVoteSaid : Prop := topVoteRow.holds Try.pinned (OpenSpec.ofChange topVoteSpec)

/-- ITS FALSE NEIGHBOUR: 'it returns false'. Refute it at one input. -/
def topVoteWrong : ChangeSpec := { name := "topVote", fn := fun _ => fun
  | [d1, d2, d3, d4] => { results := [.lit (.bool false)], args := [d1, d2, d3, d4] }
  | _ => none }
def TopVoteWrongFalsely : Prop := topVoteRow.holds Try.pinned (OpenSpec.ofChange topVoteWrong)

/-- 'fulmartop.TopLine': WHATEVER THE INPUT: true; the input reads as it did. -/
def topLineSpec : ChangeSpec := { name := "topLine", fn := fun _ => fun
  | [d1, d2, d3] => { results := [.lit (.bool true)], args := [d1, d2, d3] }
  | _ => none }
def topLineRow : OpenClaim := { program := "ytdfpenjhpemokaa", sum := "fc5228763cba2b9f24d07fb779c638932497d235526d94d72ae83dd19fd1bdc7", func := "fulmar/fulmartop.TopLine", spec := "topLine", unfollowed := true, recurses := true, plainKeys := false, apart := false }
def TopLineSaid : Prop := topLineRow.holds Try.pinned (OpenSpec.ofChange topLineSpec)

/-- ITS FALSE NEIGHBOUR: 'it returns false'. Refute it at one input. -/
def topLineWrong : ChangeSpec := { name := "topLine", fn := fun _ => fun
  | [d1, d2, d3] => { results := [.lit (.bool false)], args := [d1, d2, d3] }
  | _ => none }
def TopLineWrongFalsely : Prop := topLineRow.holds Try.pinned (OpenSpec.ofChange topLineWrong)

/-- 'fulmartop.TopShare': WHATEVER THE INPUT: true; the input reads as it did. -/
def topShareSpec : ChangeSpec := { name := "topShare", fn := fun _ => fun
  | [d1, d2, d3] => { results := [.lit (.bool true)], args := [d1, d2, d3] }
  | _ => none }
def topShareRow : OpenClaim := { program := "ytdfpenjhpemokaa", sum := "fc5228763cba2b9f24d07fb779c638932497d235526d94d72ae83dd19fd1bdc7", func := "fulmar/fulmartop.TopShare", spec := "topShare", unfollowed := true, recurses := true, plainKeys := false, apart := false }
def TopShareSaid : Prop := topShareRow.holds Try.pinned (OpenSpec.ofChange topShareSpec)

/-- ITS FALSE NEIGHBOUR: 'it returns false'. Refute it at one input. -/
def topShareWrong : ChangeSpec := { name := "topShare", fn := fun _ => fun
  | [d1, d2, d3] => { results := [.lit (.bool false)], args := [d1, d2, d3] }
  | _ => none }
def TopShareWrongFalsely : Prop := topShareRow.holds Try.pinned (OpenSpec.ofChange topShareWrong)

/-- 'fulmartop.TopHold': WHATEVER THE INPUT: true; the input reads as it did. -/
def topHoldSpec : ChangeSpec := { name := "topHold", fn := fun _ => fun
  | [d1, d2, d3] => { results := [.lit (.bool true)], args := [d1, d2, d3] }
  | _ => none }
def topHoldRow : OpenClaim := { program := "ytdfpenjhpemokaa", sum := "fc5228763cba2b9f24d07fb779c638932497d235526d94d72ae83dd19fd1bdc7", func := "fulmar/fulmartop.TopHold", spec := "topHold", recurses := true, plainKeys := false, apart := false }
def TopHoldSaid : Prop := topHoldRow.holds Try.pinned (OpenSpec.ofChange topHoldSpec)

/-- ITS FALSE NEIGHBOUR: 'it returns false'. Refute it at one input. -/
def topHoldWrong : ChangeSpec := { name := "topHold", fn := fun _ => fun
  | [d1, d2, d3] => { results := [.lit (.bool false)], args := [d1, d2, d3] }
  | _ => none }
def TopHoldWrongFalsely : Prop := topHoldRow.holds Try.pinned (OpenSpec.ofChange topHoldWrong)

/- THE SECOND FORM. 'bulk': how many values and letters a reading holds, each counted each time it is reached (what is shared counts as often as it is met; a slice's spare places count too). A statement '..UptoSaid' is the law's where the arguments, and the package variables that the reading takes, are together of bulk at most 1048576: NARROWER than '..Said'. Prove '..Said' where nothing that the law and all that it calls make is longer than what came in: it says more and counts as full. Else prove '..UptoSaid'. A law counts once. -/
mutual
def uptoBulk {H : Type} : DataW H → Nat
  | .lit (.string bytes) => bytes.length + 1
  | .lit _ => 1
  | .nil => 1
  | .ptr d => uptoBulk d + 1
  | .slice elems spare => uptoBulkAll elems + uptoBulkAll spare + 1
  | .agg parts => uptoBulkAll parts + 1
  | .iface _ d => uptoBulk d + 1
  | .map entries => uptoBulkEntries entries + 1
  | .held _ => 1
def uptoBulkAll {H : Type} : List (DataW H) → Nat
  | [] => 0
  | d :: r => uptoBulk d + uptoBulkAll r
def uptoBulkEntries {H : Type} : List (Lit × DataW H) → Nat
  | [] => 0
  | x :: r => uptoBulkEntry x + uptoBulkEntries r
def uptoBulkEntry {H : Type} : Lit × DataW H → Nat
  | (.string bytes, d) => bytes.length + uptoBulk d + 1
  | (_, d) => uptoBulk d + 1
 end
def uptoSmall : (H : Type) → List (DataW H) → Bool := fun _ ds => decide (uptoBulkAll ds ≤ 1048576)
def OpenSpec.upto (s : _root_.Go.ChangeSpec) : _root_.Go.OpenSpec := { _root_.Go.OpenSpec.ofChange s with cond := some uptoSmall }

/-- 'fulmarlaw.WordReads', WHERE WHAT IT READS IS OF BULK AT MOST 1048576: true; the input reads as it did. -/
def wordReadsUptoRow : OpenClaim := { program := "ytdfpenjhpemokaa", sum := "fc5228763cba2b9f24d07fb779c638932497d235526d94d72ae83dd19fd1bdc7", func := "fulmar/fulmarlaw.WordReads", spec := "wordReads", plainKeys := false, apart := false, narrowed := true }
def WordReadsUptoSaid : Prop := wordReadsUptoRow.holds Try.pinned (OpenSpec.upto wordReadsSpec)

/-- 'fulmarlaw.WordSays', WHERE WHAT IT READS IS OF BULK AT MOST 1048576: true; the input reads as it did. -/
def wordSaysUptoRow : OpenClaim := { program := "ytdfpenjhpemokaa", sum := "fc5228763cba2b9f24d07fb779c638932497d235526d94d72ae83dd19fd1bdc7", func := "fulmar/fulmarlaw.WordSays", spec := "wordSays", plainKeys := false, apart := false, narrowed := true }
def WordSaysUptoSaid : Prop := wordSaysUptoRow.holds Try.pinned (OpenSpec.upto wordSaysSpec)

/-- 'fulmarlaw.FixSpans', WHERE WHAT IT READS IS OF BULK AT MOST 1048576: true; the input reads as it did. -/
def fixSpansUptoRow : OpenClaim := { program := "ytdfpenjhpemokaa", sum := "fc5228763cba2b9f24d07fb779c638932497d235526d94d72ae83dd19fd1bdc7", func := "fulmar/fulmarlaw.FixSpans", spec := "fixSpans", unfollowed := true, recurses := true, plainKeys := false, apart := false, narrowed := true }
def FixSpansUptoSaid : Prop := fixSpansUptoRow.holds Try.pinned (OpenSpec.upto fixSpansSpec)

/-- 'fulmarlaw.ActSays', WHERE WHAT IT READS IS OF BULK AT MOST 1048576: true; the input reads as it did. -/
def actSaysUptoRow : OpenClaim := { program := "ytdfpenjhpemokaa", sum := "fc5228763cba2b9f24d07fb779c638932497d235526d94d72ae83dd19fd1bdc7", func := "fulmar/fulmarlaw.ActSays", spec := "actSays", plainKeys := false, apart := false, narrowed := true }
def ActSaysUptoSaid : Prop := actSaysUptoRow.holds Try.pinned (OpenSpec.upto actSaysSpec)

/-- 'fulmarlaw.GuardBounds', WHERE WHAT IT READS IS OF BULK AT MOST 1048576: true; the input reads as it did. -/
def guardBoundsUptoRow : OpenClaim := { program := "ytdfpenjhpemokaa", sum := "fc5228763cba2b9f24d07fb779c638932497d235526d94d72ae83dd19fd1bdc7", func := "fulmar/fulmarlaw.GuardBounds", spec := "guardBounds", unfollowed := true, recurses := true, plainKeys := false, apart := false, narrowed := true }
def GuardBoundsUptoSaid : Prop := guardBoundsUptoRow.holds Try.pinned (OpenSpec.upto guardBoundsSpec)

/-- 'fulmarlaw.GuardMade', WHERE WHAT IT READS IS OF BULK AT MOST 1048576: true; the input reads as it did. -/
def guardMadeUptoRow : OpenClaim := { program := "ytdfpenjhpemokaa", sum := "fc5228763cba2b9f24d07fb779c638932497d235526d94d72ae83dd19fd1bdc7", func := "fulmar/fulmarlaw.GuardMade", spec := "guardMade", unfollowed := true, recurses := true, plainKeys := false, apart := false, narrowed := true }
def GuardMadeUptoSaid : Prop := guardMadeUptoRow.holds Try.pinned (OpenSpec.upto guardMadeSpec)

/-- 'fulmartop.TopFix', WHERE WHAT IT READS IS OF BULK AT MOST 1048576: true; the input reads as it did. -/
def topFixUptoRow : OpenClaim := { program := "ytdfpenjhpemokaa", sum := "fc5228763cba2b9f24d07fb779c638932497d235526d94d72ae83dd19fd1bdc7", func := "fulmar/fulmartop.TopFix", spec := "topFix", unfollowed := true, recurses := true, plainKeys := false, apart := false, narrowed := true }
def TopFixUptoSaid : Prop := topFixUptoRow.holds Try.pinned (OpenSpec.upto topFixSpec)

/-- 'fulmarlaw.VoteSays', WHERE WHAT IT READS IS OF BULK AT MOST 1048576: true; the input reads as it did. -/
def voteSaysUptoRow : OpenClaim := { program := "ytdfpenjhpemokaa", sum := "fc5228763cba2b9f24d07fb779c638932497d235526d94d72ae83dd19fd1bdc7", func := "fulmar/fulmarlaw.VoteSays", spec := "voteSays", plainKeys := false, apart := false, narrowed := true }
def VoteSaysUptoSaid : Prop := voteSaysUptoRow.holds Try.pinned (OpenSpec.upto voteSaysSpec)

/-- 'fulmarlaw.VoteRuns', WHERE WHAT IT READS IS OF BULK AT MOST 1048576: true; the input reads as it did. -/
def voteRunsUptoRow : OpenClaim := { program := "ytdfpenjhpemokaa", sum := "fc5228763cba2b9f24d07fb779c638932497d235526d94d72ae83dd19fd1bdc7", func := "fulmar/fulmarlaw.VoteRuns", spec := "voteRuns", plainKeys := false, apart := false, narrowed := true }
def VoteRunsUptoSaid : Prop := voteRunsUptoRow.holds Try.pinned (OpenSpec.upto voteRunsSpec)

/-- 'fulmarlaw.LineSays', WHERE WHAT IT READS IS OF BULK AT MOST 1048576: true; the input reads as it did. -/
def lineSaysUptoRow : OpenClaim := { program := "ytdfpenjhpemokaa", sum := "fc5228763cba2b9f24d07fb779c638932497d235526d94d72ae83dd19fd1bdc7", func := "fulmar/fulmarlaw.LineSays", spec := "lineSays", plainKeys := false, apart := false, narrowed := true }
def LineSaysUptoSaid : Prop := lineSaysUptoRow.holds Try.pinned (OpenSpec.upto lineSaysSpec)

/-- 'fulmarlaw.GridSays', WHERE WHAT IT READS IS OF BULK AT MOST 1048576: true; the input reads as it did. -/
def gridSaysUptoRow : OpenClaim := { program := "ytdfpenjhpemokaa", sum := "fc5228763cba2b9f24d07fb779c638932497d235526d94d72ae83dd19fd1bdc7", func := "fulmar/fulmarlaw.GridSays", spec := "gridSays", plainKeys := false, apart := false, narrowed := true }
def GridSaysUptoSaid : Prop := gridSaysUptoRow.holds Try.pinned (OpenSpec.upto gridSaysSpec)

/-- 'fulmartop.TopWord', WHERE WHAT IT READS IS OF BULK AT MOST 1048576: true; the input reads as it did. -/
def topWordUptoRow : OpenClaim := { program := "ytdfpenjhpemokaa", sum := "fc5228763cba2b9f24d07fb779c638932497d235526d94d72ae83dd19fd1bdc7", func := "fulmar/fulmartop.TopWord", spec := "topWord", recurses := true, plainKeys := false, apart := false, narrowed := true }
def TopWordUptoSaid : Prop := topWordUptoRow.holds Try.pinned (OpenSpec.upto topWordSpec)

/-- 'fulmarlaw.ShareSays', WHERE WHAT IT READS IS OF BULK AT MOST 1048576: true; the input reads as it did. -/
def shareSaysUptoRow : OpenClaim := { program := "ytdfpenjhpemokaa", sum := "fc5228763cba2b9f24d07fb779c638932497d235526d94d72ae83dd19fd1bdc7", func := "fulmar/fulmarlaw.ShareSays", spec := "shareSays", unfollowed := true, recurses := true, plainKeys := false, apart := false, narrowed := true }
def ShareSaysUptoSaid : Prop := shareSaysUptoRow.holds Try.pinned (OpenSpec.upto shareSaysSpec)

/-- 'fulmarlaw.ShareMade', WHERE WHAT IT READS IS OF BULK AT MOST 1048576: true; the input reads as it did. -/
def shareMadeUptoRow : OpenClaim := { program := "ytdfpenjhpemokaa", sum := "fc5228763cba2b9f24d07fb779c638932497d235526d94d72ae83dd19fd1bdc7", func := "fulmar/fulmarlaw.ShareMade", spec := "shareMade", unfollowed := true, recurses := true, plainKeys := false, apart := false, narrowed := true }
def ShareMadeUptoSaid : Prop := shareMadeUptoRow.holds Try.pinned (OpenSpec.upto shareMadeSpec)

/-- 'fulmarlaw.LineOver', WHERE WHAT IT READS IS OF BULK AT MOST 1048576: true; the input reads as it did. -/
def lineOverUptoRow : OpenClaim := { program := "ytdfpenjhpemokaa", sum := "fc5228763cba2b9f24d07fb779c638932497d235526d94d72ae83dd19fd1bdc7", func := "fulmar/fulmarlaw.LineOver", spec := "lineOver", unfollowed := true, recurses := true, plainKeys := false, apart := false, narrowed := true }
def LineOverUptoSaid : Prop := lineOverUptoRow.holds Try.pinned (OpenSpec.upto lineOverSpec)

/-- 'fulmarlaw.CraftSays', WHERE WHAT IT READS IS OF BULK AT MOST 1048576: true; the input reads as it did. -/
def craftSaysUptoRow : OpenClaim := { program := "ytdfpenjhpemokaa", sum := "fc5228763cba2b9f24d07fb779c638932497d235526d94d72ae83dd19fd1bdc7", func := "fulmar/fulmarlaw.CraftSays", spec := "craftSays", unfollowed := true, recurses := true, plainKeys := false, apart := false, narrowed := true }
def CraftSaysUptoSaid : Prop := craftSaysUptoRow.holds Try.pinned (OpenSpec.upto craftSaysSpec)

/-- 'fulmarlaw.HoldSays', WHERE WHAT IT READS IS OF BULK AT MOST 1048576: true; the input reads as it did. -/
def holdSaysUptoRow : OpenClaim := { program := "ytdfpenjhpemokaa", sum := "fc5228763cba2b9f24d07fb779c638932497d235526d94d72ae83dd19fd1bdc7", func := "fulmar/fulmarlaw.HoldSays", spec := "holdSays", recurses := true, plainKeys := false, apart := false, narrowed := true }
def HoldSaysUptoSaid : Prop := holdSaysUptoRow.holds Try.pinned (OpenSpec.upto holdSaysSpec)

/-- 'fulmartop.TopServo', WHERE WHAT IT READS IS OF BULK AT MOST 1048576: true; the input reads as it did. -/
def topServoUptoRow : OpenClaim := { program := "ytdfpenjhpemokaa", sum := "fc5228763cba2b9f24d07fb779c638932497d235526d94d72ae83dd19fd1bdc7", func := "fulmar/fulmartop.TopServo", spec := "topServo", recurses := true, plainKeys := false, apart := false, narrowed := true }
def TopServoUptoSaid : Prop := topServoUptoRow.holds Try.pinned (OpenSpec.upto topServoSpec)

/-- 'fulmarlaw.HoldMade', WHERE WHAT IT READS IS OF BULK AT MOST 1048576: true; the input reads as it did. -/
def holdMadeUptoRow : OpenClaim := { program := "ytdfpenjhpemokaa", sum := "fc5228763cba2b9f24d07fb779c638932497d235526d94d72ae83dd19fd1bdc7", func := "fulmar/fulmarlaw.HoldMade", spec := "holdMade", recurses := true, plainKeys := false, apart := false, narrowed := true }
def HoldMadeUptoSaid : Prop := holdMadeUptoRow.holds Try.pinned (OpenSpec.upto holdMadeSpec)

/-- 'fulmarlaw.WordGathers', WHERE WHAT IT READS IS OF BULK AT MOST 1048576: true; the input reads as it did. -/
def wordGathersUptoRow : OpenClaim := { program := "ytdfpenjhpemokaa", sum := "fc5228763cba2b9f24d07fb779c638932497d235526d94d72ae83dd19fd1bdc7", func := "fulmar/fulmarlaw.WordGathers", spec := "wordGathers", unfollowed := true, recurses := true, plainKeys := false, apart := false, narrowed := true }
def WordGathersUptoSaid : Prop := wordGathersUptoRow.holds Try.pinned (OpenSpec.upto wordGathersSpec)

/-- 'fulmartop.TopGuard', WHERE WHAT IT READS IS OF BULK AT MOST 1048576: true; the input reads as it did. -/
def topGuardUptoRow : OpenClaim := { program := "ytdfpenjhpemokaa", sum := "fc5228763cba2b9f24d07fb779c638932497d235526d94d72ae83dd19fd1bdc7", func := "fulmar/fulmartop.TopGuard", spec := "topGuard", unfollowed := true, recurses := true, plainKeys := false, apart := false, narrowed := true }
def TopGuardUptoSaid : Prop := topGuardUptoRow.holds Try.pinned (OpenSpec.upto topGuardSpec)

/-- 'fulmartop.TopGuardMade', WHERE WHAT IT READS IS OF BULK AT MOST 1048576: true; the input reads as it did. -/
def topGuardMadeUptoRow : OpenClaim := { program := "ytdfpenjhpemokaa", sum := "fc5228763cba2b9f24d07fb779c638932497d235526d94d72ae83dd19fd1bdc7", func := "fulmar/fulmartop.TopGuardMade", spec := "topGuardMade", unfollowed := true, recurses := true, plainKeys := false, apart := false, narrowed := true }
def TopGuardMadeUptoSaid : Prop := topGuardMadeUptoRow.holds Try.pinned (OpenSpec.upto topGuardMadeSpec)

/-- 'fulmartop.TopFree', WHERE WHAT IT READS IS OF BULK AT MOST 1048576: true; the input reads as it did. -/
def topFreeUptoRow : OpenClaim := { program := "ytdfpenjhpemokaa", sum := "fc5228763cba2b9f24d07fb779c638932497d235526d94d72ae83dd19fd1bdc7", func := "fulmar/fulmartop.TopFree", spec := "topFree", unfollowed := true, recurses := true, plainKeys := false, apart := false, narrowed := true }
def TopFreeUptoSaid : Prop := topFreeUptoRow.holds Try.pinned (OpenSpec.upto topFreeSpec)

/-- 'fulmartop.TopVote', WHERE WHAT IT READS IS OF BULK AT MOST 1048576: true; the input reads as it did. -/
def topVoteUptoRow : OpenClaim := { program := "ytdfpenjhpemokaa", sum := "fc5228763cba2b9f24d07fb779c638932497d235526d94d72ae83dd19fd1bdc7", func := "fulmar/fulmartop.TopVote", spec := "topVote", recurses := true, plainKeys := false, apart := false, narrowed := true }
def TopVoteUptoSaid : Prop := topVoteUptoRow.holds Try.pinned (OpenSpec.upto topVoteSpec)

/-- 'fulmartop.TopLine', WHERE WHAT IT READS IS OF BULK AT MOST 1048576: true; the input reads as it did. -/
def topLineUptoRow : OpenClaim := { program := "ytdfpenjhpemokaa", sum := "fc5228763cba2b9f24d07fb779c638932497d235526d94d72ae83dd19fd1bdc7", func := "fulmar/fulmartop.TopLine", spec := "topLine", unfollowed := true, recurses := true, plainKeys := false, apart := false, narrowed := true }
def TopLineUptoSaid : Prop := topLineUptoRow.holds Try.pinned (OpenSpec.upto topLineSpec)

/-- 'fulmartop.TopShare', WHERE WHAT IT READS IS OF BULK AT MOST 1048576: true; the input reads as it did. -/
def topShareUptoRow : OpenClaim := { program := "ytdfpenjhpemokaa", sum := "fc5228763cba2b9f24d07fb779c638932497d235526d94d72ae83dd19fd1bdc7", func := "fulmar/fulmartop.TopShare", spec := "topShare", unfollowed := true, recurses := true, plainKeys := false, apart := false, narrowed := true }
def TopShareUptoSaid : Prop := topShareUptoRow.holds Try.pinned (OpenSpec.upto topShareSpec)

/-- 'fulmartop.TopHold', WHERE WHAT IT READS IS OF BULK AT MOST 1048576: true; the input reads as it did. -/
def topHoldUptoRow : OpenClaim := { program := "ytdfpenjhpemokaa", sum := "fc5228763cba2b9f24d07fb779c638932497d235526d94d72ae83dd19fd1bdc7", func := "fulmar/fulmartop.TopHold", spec := "topHold", recurses := true, plainKeys := false, apart := false, narrowed := true }
def TopHoldUptoSaid : Prop := topHoldUptoRow.holds Try.pinned (OpenSpec.upto topHoldSpec)

end Rows
end Go.Proofs.Ytdfpenjhpemokaa
