/-
  No cell of these rows narrows 'for every input' (looked for: loops, veiled, ifaces, maps, wideKeys, modest, calm, conditions, laid).
  DERIVED. THE GIVEN ROWS OF THIS SEAT. 23 by the template 'for every input the law returns true; each argument reads behind the call as it read before'; 0 by the template 'total and deterministic' (their statements: YtobadajeekdakaaTotals.lean).
  GIVEN WITH THE SEED: the statements are not yours to turn. If you find one false, say at which input.
  Laid BY PROGRAM, IN A SANDBOX (cutbox-rows.mjs): the forced cells as the released guide's own fill.sh prints them over the translation 3e17d2cd1c8eec98… (all of the seat's roots in one cut). By AI agents, Wed Nov 11 2026. No macro, syntax, notation, axiom, sorry.
-/
import Derived.Test.YtobadajeekdakaaChecked
import GoSem.Claim
import GoSem.ClaimJoined
import GoSem.ClaimMapViews
import Derived.JoinedTies
import Derived.KernelRfl
namespace Go.Proofs.Ytobadajeekdakaa
/- THE CELL 'sum', in the pinned program and in every row, IS THE sha256 OF THE DUMP (.gsa) THAT YtobadajeekdakaaProg.lean LOADS. Nothing in Lean hashes anything: it is a label: what it is worth is what the hold of that sum in a sandbox is worth. -/
noncomputable def Try.pinned : Pinned := { name := "ytobadajeekdakaa", sum := "3e17d2cd1c8eec98c472225df3beb83ea4448fe0604f7fac3800349f17770ab9", checked := Try.checked }
namespace Rows
def none {H : Type} : Left H := { results := [], args := [] }

/-- 'chalklinelaw20.LearnFirst': WHATEVER THE INPUT: true; the input reads as it did. -/
def learnFirstSpec : ChangeSpec := { name := "learnFirst", fn := fun _ => fun
  | [d1, d2, d3] => { results := [.lit (.bool true)], args := [d1, d2, d3] }
  | _ => none }
def learnFirstRow : OpenClaim := { program := "ytobadajeekdakaa", sum := "3e17d2cd1c8eec98c472225df3beb83ea4448fe0604f7fac3800349f17770ab9", func := "chalkline/chalklinelaw20.LearnFirst", spec := "learnFirst", unfollowed := true, recurses := true, apart := false }
def LearnFirstSaid : Prop := learnFirstRow.holds Try.pinned (OpenSpec.ofChange learnFirstSpec)

/-- ITS FALSE NEIGHBOUR: 'it returns false'. Refute it at one input. -/
def learnFirstWrong : ChangeSpec := { name := "learnFirst", fn := fun _ => fun
  | [d1, d2, d3] => { results := [.lit (.bool false)], args := [d1, d2, d3] }
  | _ => none }
def LearnFirstWrongFalsely : Prop := learnFirstRow.holds Try.pinned (OpenSpec.ofChange learnFirstWrong)

/-- 'chalklinelaw20.LearnRedundant': WHATEVER THE INPUT: true; the input reads as it did. -/
def learnRedundantSpec : ChangeSpec := { name := "learnRedundant", fn := fun _ => fun
  | [d1, d2, d3] => { results := [.lit (.bool true)], args := [d1, d2, d3] }
  | _ => none }
def learnRedundantRow : OpenClaim := { program := "ytobadajeekdakaa", sum := "3e17d2cd1c8eec98c472225df3beb83ea4448fe0604f7fac3800349f17770ab9", func := "chalkline/chalklinelaw20.LearnRedundant", spec := "learnRedundant", unfollowed := true, recurses := true, apart := false }
def LearnRedundantSaid : Prop := learnRedundantRow.holds Try.pinned (OpenSpec.ofChange learnRedundantSpec)

/-- ITS FALSE NEIGHBOUR: 'it returns false'. Refute it at one input. -/
def learnRedundantWrong : ChangeSpec := { name := "learnRedundant", fn := fun _ => fun
  | [d1, d2, d3] => { results := [.lit (.bool false)], args := [d1, d2, d3] }
  | _ => none }
def LearnRedundantWrongFalsely : Prop := learnRedundantRow.holds Try.pinned (OpenSpec.ofChange learnRedundantWrong)

/-- 'chalklinelaw20.LearnAsserting': WHATEVER THE INPUT: true; the input reads as it did. -/
def learnAssertingSpec : ChangeSpec := { name := "learnAsserting", fn := fun _ => fun
  | [d1, d2, d3] => { results := [.lit (.bool true)], args := [d1, d2, d3] }
  | _ => none }
def learnAssertingRow : OpenClaim := { program := "ytobadajeekdakaa", sum := "3e17d2cd1c8eec98c472225df3beb83ea4448fe0604f7fac3800349f17770ab9", func := "chalkline/chalklinelaw20.LearnAsserting", spec := "learnAsserting", unfollowed := true, recurses := true, apart := false }
def LearnAssertingSaid : Prop := learnAssertingRow.holds Try.pinned (OpenSpec.ofChange learnAssertingSpec)

/-- ITS FALSE NEIGHBOUR: 'it returns false'. Refute it at one input. -/
def learnAssertingWrong : ChangeSpec := { name := "learnAsserting", fn := fun _ => fun
  | [d1, d2, d3] => { results := [.lit (.bool false)], args := [d1, d2, d3] }
  | _ => none }
def LearnAssertingWrongFalsely : Prop := learnAssertingRow.holds Try.pinned (OpenSpec.ofChange learnAssertingWrong)

/-- 'chalklinelaw20.LearnErrors': WHATEVER THE INPUT: true; the input reads as it did. -/
def learnErrorsSpec : ChangeSpec := { name := "learnErrors", fn := fun _ => fun
  | [d1, d2, d3, d4] => { results := [.lit (.bool true)], args := [d1, d2, d3, d4] }
  | _ => none }
def learnErrorsRow : OpenClaim := { program := "ytobadajeekdakaa", sum := "3e17d2cd1c8eec98c472225df3beb83ea4448fe0604f7fac3800349f17770ab9", func := "chalkline/chalklinelaw20.LearnErrors", spec := "learnErrors", unfollowed := true, recurses := true, apart := false }
def LearnErrorsSaid : Prop := learnErrorsRow.holds Try.pinned (OpenSpec.ofChange learnErrorsSpec)

/-- ITS FALSE NEIGHBOUR: 'it returns false'. Refute it at one input. -/
def learnErrorsWrong : ChangeSpec := { name := "learnErrors", fn := fun _ => fun
  | [d1, d2, d3, d4] => { results := [.lit (.bool false)], args := [d1, d2, d3, d4] }
  | _ => none }
def LearnErrorsWrongFalsely : Prop := learnErrorsRow.holds Try.pinned (OpenSpec.ofChange learnErrorsWrong)

/-- 'chalklinelaw22.TidyReduceSpec': WHATEVER THE INPUT: true; the input reads as it did. -/
def tidyReduceSpecSpec : ChangeSpec := { name := "tidyReduceSpec", fn := fun _ => fun
  | [d1, d2] => { results := [.lit (.bool true)], args := [d1, d2] }
  | _ => none }
def tidyReduceSpecRow : OpenClaim := { program := "ytobadajeekdakaa", sum := "3e17d2cd1c8eec98c472225df3beb83ea4448fe0604f7fac3800349f17770ab9", func := "chalkline/chalklinelaw22.TidyReduceSpec", spec := "tidyReduceSpec", unfollowed := true, recurses := true, apart := false }
def TidyReduceSpecSaid : Prop := tidyReduceSpecRow.holds Try.pinned (OpenSpec.ofChange tidyReduceSpecSpec)

/-- ITS FALSE NEIGHBOUR: 'it returns false'. Refute it at one input. -/
def tidyReduceSpecWrong : ChangeSpec := { name := "tidyReduceSpec", fn := fun _ => fun
  | [d1, d2] => { results := [.lit (.bool false)], args := [d1, d2] }
  | _ => none }
def TidyReduceSpecWrongFalsely : Prop := tidyReduceSpecRow.holds Try.pinned (OpenSpec.ofChange tidyReduceSpecWrong)

/-- 'chalklinelaw20.LearnBackjump': WHATEVER THE INPUT: true; the input reads as it did. -/
def learnBackjumpSpec : ChangeSpec := { name := "learnBackjump", fn := fun _ => fun
  | [d1, d2, d3] => { results := [.lit (.bool true)], args := [d1, d2, d3] }
  | _ => none }
def learnBackjumpRow : OpenClaim := { program := "ytobadajeekdakaa", sum := "3e17d2cd1c8eec98c472225df3beb83ea4448fe0604f7fac3800349f17770ab9", func := "chalkline/chalklinelaw20.LearnBackjump", spec := "learnBackjump", unfollowed := true, recurses := true, apart := false }
def LearnBackjumpSaid : Prop := learnBackjumpRow.holds Try.pinned (OpenSpec.ofChange learnBackjumpSpec)

/-- ITS FALSE NEIGHBOUR: 'it returns false'. Refute it at one input. -/
def learnBackjumpWrong : ChangeSpec := { name := "learnBackjump", fn := fun _ => fun
  | [d1, d2, d3] => { results := [.lit (.bool false)], args := [d1, d2, d3] }
  | _ => none }
def LearnBackjumpWrongFalsely : Prop := learnBackjumpRow.holds Try.pinned (OpenSpec.ofChange learnBackjumpWrong)

/-- 'chalklinelaw22.TidyVivifySpec': WHATEVER THE INPUT: true; the input reads as it did. -/
def tidyVivifySpecSpec : ChangeSpec := { name := "tidyVivifySpec", fn := fun _ => fun
  | [d1, d2] => { results := [.lit (.bool true)], args := [d1, d2] }
  | _ => none }
def tidyVivifySpecRow : OpenClaim := { program := "ytobadajeekdakaa", sum := "3e17d2cd1c8eec98c472225df3beb83ea4448fe0604f7fac3800349f17770ab9", func := "chalkline/chalklinelaw22.TidyVivifySpec", spec := "tidyVivifySpec", unfollowed := true, recurses := true, apart := false }
def TidyVivifySpecSaid : Prop := tidyVivifySpecRow.holds Try.pinned (OpenSpec.ofChange tidyVivifySpecSpec)

/-- ITS FALSE NEIGHBOUR: 'it returns false'. Refute it at one input. -/
def tidyVivifySpecWrong : ChangeSpec := { name := "tidyVivifySpec", fn := fun _ => fun
  | [d1, d2] => { results := [.lit (.bool false)], args := [d1, d2] }
  | _ => none }
def TidyVivifySpecWrongFalsely : Prop := tidyVivifySpecRow.holds Try.pinned (OpenSpec.ofChange tidyVivifySpecWrong)

/-- 'chalklinelaw22.TidyVivifyImplied': WHATEVER THE INPUT: true; the input reads as it did. -/
def tidyVivifyImpliedSpec : ChangeSpec := { name := "tidyVivifyImplied", fn := fun _ => fun
  | [d1, d2] => { results := [.lit (.bool true)], args := [d1, d2] }
  | _ => none }
def tidyVivifyImpliedRow : OpenClaim := { program := "ytobadajeekdakaa", sum := "3e17d2cd1c8eec98c472225df3beb83ea4448fe0604f7fac3800349f17770ab9", func := "chalkline/chalklinelaw22.TidyVivifyImplied", spec := "tidyVivifyImplied", unfollowed := true, recurses := true, apart := false }
def TidyVivifyImpliedSaid : Prop := tidyVivifyImpliedRow.holds Try.pinned (OpenSpec.ofChange tidyVivifyImpliedSpec)

/-- ITS FALSE NEIGHBOUR: 'it returns false'. Refute it at one input. -/
def tidyVivifyImpliedWrong : ChangeSpec := { name := "tidyVivifyImplied", fn := fun _ => fun
  | [d1, d2] => { results := [.lit (.bool false)], args := [d1, d2] }
  | _ => none }
def TidyVivifyImpliedWrongFalsely : Prop := tidyVivifyImpliedRow.holds Try.pinned (OpenSpec.ofChange tidyVivifyImpliedWrong)

/-- 'chalklinelaw22.TidySubsumeSpec': WHATEVER THE INPUT: true; the input reads as it did. -/
def tidySubsumeSpecSpec : ChangeSpec := { name := "tidySubsumeSpec", fn := fun _ => fun
  | [d] => { results := [.lit (.bool true)], args := [d] }
  | _ => none }
def tidySubsumeSpecRow : OpenClaim := { program := "ytobadajeekdakaa", sum := "3e17d2cd1c8eec98c472225df3beb83ea4448fe0604f7fac3800349f17770ab9", func := "chalkline/chalklinelaw22.TidySubsumeSpec", spec := "tidySubsumeSpec", unfollowed := true, recurses := true, apart := false }
def TidySubsumeSpecSaid : Prop := tidySubsumeSpecRow.holds Try.pinned (OpenSpec.ofChange tidySubsumeSpecSpec)

/-- ITS FALSE NEIGHBOUR: 'it returns false'. Refute it at one input. -/
def tidySubsumeSpecWrong : ChangeSpec := { name := "tidySubsumeSpec", fn := fun _ => fun
  | [d] => { results := [.lit (.bool false)], args := [d] }
  | _ => none }
def TidySubsumeSpecWrongFalsely : Prop := tidySubsumeSpecRow.holds Try.pinned (OpenSpec.ofChange tidySubsumeSpecWrong)

/-- 'chalklinelaw22.TidyVivifyShrinks': WHATEVER THE INPUT: true; the input reads as it did. -/
def tidyVivifyShrinksSpec : ChangeSpec := { name := "tidyVivifyShrinks", fn := fun _ => fun
  | [d1, d2] => { results := [.lit (.bool true)], args := [d1, d2] }
  | _ => none }
def tidyVivifyShrinksRow : OpenClaim := { program := "ytobadajeekdakaa", sum := "3e17d2cd1c8eec98c472225df3beb83ea4448fe0604f7fac3800349f17770ab9", func := "chalkline/chalklinelaw22.TidyVivifyShrinks", spec := "tidyVivifyShrinks", unfollowed := true, recurses := true, apart := false }
def TidyVivifyShrinksSaid : Prop := tidyVivifyShrinksRow.holds Try.pinned (OpenSpec.ofChange tidyVivifyShrinksSpec)

/-- ITS FALSE NEIGHBOUR: 'it returns false'. Refute it at one input. -/
def tidyVivifyShrinksWrong : ChangeSpec := { name := "tidyVivifyShrinks", fn := fun _ => fun
  | [d1, d2] => { results := [.lit (.bool false)], args := [d1, d2] }
  | _ => none }
def TidyVivifyShrinksWrongFalsely : Prop := tidyVivifyShrinksRow.holds Try.pinned (OpenSpec.ofChange tidyVivifyShrinksWrong)

/-- 'chalklinelaw22.TidyReduceRanking': WHATEVER THE INPUT: true; the input reads as it did. -/
def tidyReduceRankingSpec : ChangeSpec := { name := "tidyReduceRanking", fn := fun _ => fun
  | [d1, d2] => { results := [.lit (.bool true)], args := [d1, d2] }
  | _ => none }
def tidyReduceRankingRow : OpenClaim := { program := "ytobadajeekdakaa", sum := "3e17d2cd1c8eec98c472225df3beb83ea4448fe0604f7fac3800349f17770ab9", func := "chalkline/chalklinelaw22.TidyReduceRanking", spec := "tidyReduceRanking", unfollowed := true, recurses := true, apart := false }
def TidyReduceRankingSaid : Prop := tidyReduceRankingRow.holds Try.pinned (OpenSpec.ofChange tidyReduceRankingSpec)

/-- ITS FALSE NEIGHBOUR: 'it returns false'. Refute it at one input. -/
def tidyReduceRankingWrong : ChangeSpec := { name := "tidyReduceRanking", fn := fun _ => fun
  | [d1, d2] => { results := [.lit (.bool false)], args := [d1, d2] }
  | _ => none }
def TidyReduceRankingWrongFalsely : Prop := tidyReduceRankingRow.holds Try.pinned (OpenSpec.ofChange tidyReduceRankingWrong)

/-- 'chalklinelaw20.LearnSound': WHATEVER THE INPUT: true; the input reads as it did. -/
def learnSoundSpec : ChangeSpec := { name := "learnSound", fn := fun _ => fun
  | [d1, d2, d3, d4] => { results := [.lit (.bool true)], args := [d1, d2, d3, d4] }
  | _ => none }
def learnSoundRow : OpenClaim := { program := "ytobadajeekdakaa", sum := "3e17d2cd1c8eec98c472225df3beb83ea4448fe0604f7fac3800349f17770ab9", func := "chalkline/chalklinelaw20.LearnSound", spec := "learnSound", unfollowed := true, recurses := true, apart := false }
def LearnSoundSaid : Prop := learnSoundRow.holds Try.pinned (OpenSpec.ofChange learnSoundSpec)

/-- ITS FALSE NEIGHBOUR: 'it returns false'. Refute it at one input. -/
def learnSoundWrong : ChangeSpec := { name := "learnSound", fn := fun _ => fun
  | [d1, d2, d3, d4] => { results := [.lit (.bool false)], args := [d1, d2, d3, d4] }
  | _ => none }
def LearnSoundWrongFalsely : Prop := learnSoundRow.holds Try.pinned (OpenSpec.ofChange learnSoundWrong)

/-- 'chalklinelaw22.TidyVivifyEquivalent': WHATEVER THE INPUT: true; the input reads as it did. -/
def tidyVivifyEquivalentSpec : ChangeSpec := { name := "tidyVivifyEquivalent", fn := fun _ => fun
  | [d1, d2] => { results := [.lit (.bool true)], args := [d1, d2] }
  | _ => none }
def tidyVivifyEquivalentRow : OpenClaim := { program := "ytobadajeekdakaa", sum := "3e17d2cd1c8eec98c472225df3beb83ea4448fe0604f7fac3800349f17770ab9", func := "chalkline/chalklinelaw22.TidyVivifyEquivalent", spec := "tidyVivifyEquivalent", unfollowed := true, recurses := true, apart := false }
def TidyVivifyEquivalentSaid : Prop := tidyVivifyEquivalentRow.holds Try.pinned (OpenSpec.ofChange tidyVivifyEquivalentSpec)

/-- ITS FALSE NEIGHBOUR: 'it returns false'. Refute it at one input. -/
def tidyVivifyEquivalentWrong : ChangeSpec := { name := "tidyVivifyEquivalent", fn := fun _ => fun
  | [d1, d2] => { results := [.lit (.bool false)], args := [d1, d2] }
  | _ => none }
def TidyVivifyEquivalentWrongFalsely : Prop := tidyVivifyEquivalentRow.holds Try.pinned (OpenSpec.ofChange tidyVivifyEquivalentWrong)

/-- 'chalklinelaw22.TidySubsumeEquivalent': WHATEVER THE INPUT: true; the input reads as it did. -/
def tidySubsumeEquivalentSpec : ChangeSpec := { name := "tidySubsumeEquivalent", fn := fun _ => fun
  | [d1, d2] => { results := [.lit (.bool true)], args := [d1, d2] }
  | _ => none }
def tidySubsumeEquivalentRow : OpenClaim := { program := "ytobadajeekdakaa", sum := "3e17d2cd1c8eec98c472225df3beb83ea4448fe0604f7fac3800349f17770ab9", func := "chalkline/chalklinelaw22.TidySubsumeEquivalent", spec := "tidySubsumeEquivalent", unfollowed := true, recurses := true, apart := false }
def TidySubsumeEquivalentSaid : Prop := tidySubsumeEquivalentRow.holds Try.pinned (OpenSpec.ofChange tidySubsumeEquivalentSpec)

/-- ITS FALSE NEIGHBOUR: 'it returns false'. Refute it at one input. -/
def tidySubsumeEquivalentWrong : ChangeSpec := { name := "tidySubsumeEquivalent", fn := fun _ => fun
  | [d1, d2] => { results := [.lit (.bool false)], args := [d1, d2] }
  | _ => none }
def TidySubsumeEquivalentWrongFalsely : Prop := tidySubsumeEquivalentRow.holds Try.pinned (OpenSpec.ofChange tidySubsumeEquivalentWrong)

/-- 'chalklinelaw20.LearnRup': WHATEVER THE INPUT: true; the input reads as it did. -/
def learnRupSpec : ChangeSpec := { name := "learnRup", fn := fun _ => fun
  | [d1, d2] => { results := [.lit (.bool true)], args := [d1, d2] }
  | _ => none }
def learnRupRow : OpenClaim := { program := "ytobadajeekdakaa", sum := "3e17d2cd1c8eec98c472225df3beb83ea4448fe0604f7fac3800349f17770ab9", func := "chalkline/chalklinelaw20.LearnRup", spec := "learnRup", unfollowed := true, recurses := true, apart := false }
def LearnRupSaid : Prop := learnRupRow.holds Try.pinned (OpenSpec.ofChange learnRupSpec)

/-- ITS FALSE NEIGHBOUR: 'it returns false'. Refute it at one input. -/
def learnRupWrong : ChangeSpec := { name := "learnRup", fn := fun _ => fun
  | [d1, d2] => { results := [.lit (.bool false)], args := [d1, d2] }
  | _ => none }
def LearnRupWrongFalsely : Prop := learnRupRow.holds Try.pinned (OpenSpec.ofChange learnRupWrong)

/-- 'chalklinelaw20.LearnMinimizes': WHATEVER THE INPUT: true; the input reads as it did. -/
def learnMinimizesSpec : ChangeSpec := { name := "learnMinimizes", fn := fun _ => fun
  | [d1, d2, d3] => { results := [.lit (.bool true)], args := [d1, d2, d3] }
  | _ => none }
def learnMinimizesRow : OpenClaim := { program := "ytobadajeekdakaa", sum := "3e17d2cd1c8eec98c472225df3beb83ea4448fe0604f7fac3800349f17770ab9", func := "chalkline/chalklinelaw20.LearnMinimizes", spec := "learnMinimizes", unfollowed := true, recurses := true, apart := false }
def LearnMinimizesSaid : Prop := learnMinimizesRow.holds Try.pinned (OpenSpec.ofChange learnMinimizesSpec)

/-- ITS FALSE NEIGHBOUR: 'it returns false'. Refute it at one input. -/
def learnMinimizesWrong : ChangeSpec := { name := "learnMinimizes", fn := fun _ => fun
  | [d1, d2, d3] => { results := [.lit (.bool false)], args := [d1, d2, d3] }
  | _ => none }
def LearnMinimizesWrongFalsely : Prop := learnMinimizesRow.holds Try.pinned (OpenSpec.ofChange learnMinimizesWrong)

/-- 'chalklinelaw21.HeapCheckSpec': WHATEVER THE INPUT: true; the input reads as it did. -/
def heapCheckSpecSpec : ChangeSpec := { name := "heapCheckSpec", fn := fun _ => fun
  | [d1, d2] => { results := [.lit (.bool true)], args := [d1, d2] }
  | _ => none }
def heapCheckSpecRow : OpenClaim := { program := "ytobadajeekdakaa", sum := "3e17d2cd1c8eec98c472225df3beb83ea4448fe0604f7fac3800349f17770ab9", func := "chalkline/chalklinelaw21.HeapCheckSpec", spec := "heapCheckSpec", inPlace := ["slices.overlaps[int]"], unfollowed := true, recurses := true, apart := false }
def HeapCheckSpecSaid : Prop := heapCheckSpecRow.holds Try.pinned (OpenSpec.ofChange heapCheckSpecSpec)

/-- ITS FALSE NEIGHBOUR: 'it returns false'. Refute it at one input. -/
def heapCheckSpecWrong : ChangeSpec := { name := "heapCheckSpec", fn := fun _ => fun
  | [d1, d2] => { results := [.lit (.bool false)], args := [d1, d2] }
  | _ => none }
def HeapCheckSpecWrongFalsely : Prop := heapCheckSpecRow.holds Try.pinned (OpenSpec.ofChange heapCheckSpecWrong)

/-- 'chalklinelaw21.HeapStepSpec': WHATEVER THE INPUT: true; the input reads as it did. -/
def heapStepSpecSpec : ChangeSpec := { name := "heapStepSpec", fn := fun _ => fun
  | [d1, d2] => { results := [.lit (.bool true)], args := [d1, d2] }
  | _ => none }
def heapStepSpecRow : OpenClaim := { program := "ytobadajeekdakaa", sum := "3e17d2cd1c8eec98c472225df3beb83ea4448fe0604f7fac3800349f17770ab9", func := "chalkline/chalklinelaw21.HeapStepSpec", spec := "heapStepSpec", inPlace := ["slices.overlaps[int]"], unfollowed := true, recurses := true, apart := false }
def HeapStepSpecSaid : Prop := heapStepSpecRow.holds Try.pinned (OpenSpec.ofChange heapStepSpecSpec)

/-- ITS FALSE NEIGHBOUR: 'it returns false'. Refute it at one input. -/
def heapStepSpecWrong : ChangeSpec := { name := "heapStepSpec", fn := fun _ => fun
  | [d1, d2] => { results := [.lit (.bool false)], args := [d1, d2] }
  | _ => none }
def HeapStepSpecWrongFalsely : Prop := heapStepSpecRow.holds Try.pinned (OpenSpec.ofChange heapStepSpecWrong)

/-- 'chalklinelaw21.HeapPopSorted': WHATEVER THE INPUT: true; the input reads as it did. -/
def heapPopSortedSpec : ChangeSpec := { name := "heapPopSorted", fn := fun _ => fun
  | [d] => { results := [.lit (.bool true)], args := [d] }
  | _ => none }
def heapPopSortedRow : OpenClaim := { program := "ytobadajeekdakaa", sum := "3e17d2cd1c8eec98c472225df3beb83ea4448fe0604f7fac3800349f17770ab9", func := "chalkline/chalklinelaw21.HeapPopSorted", spec := "heapPopSorted", inPlace := ["slices.overlaps[int]"], unfollowed := true, recurses := true, apart := false }
def HeapPopSortedSaid : Prop := heapPopSortedRow.holds Try.pinned (OpenSpec.ofChange heapPopSortedSpec)

/-- ITS FALSE NEIGHBOUR: 'it returns false'. Refute it at one input. -/
def heapPopSortedWrong : ChangeSpec := { name := "heapPopSorted", fn := fun _ => fun
  | [d] => { results := [.lit (.bool false)], args := [d] }
  | _ => none }
def HeapPopSortedWrongFalsely : Prop := heapPopSortedRow.holds Try.pinned (OpenSpec.ofChange heapPopSortedWrong)

/-- 'chalklinelaw21.HeapPushRestores': WHATEVER THE INPUT: true; the input reads as it did. -/
def heapPushRestoresSpec : ChangeSpec := { name := "heapPushRestores", fn := fun _ => fun
  | [d1, d2, d3] => { results := [.lit (.bool true)], args := [d1, d2, d3] }
  | _ => none }
def heapPushRestoresRow : OpenClaim := { program := "ytobadajeekdakaa", sum := "3e17d2cd1c8eec98c472225df3beb83ea4448fe0604f7fac3800349f17770ab9", func := "chalkline/chalklinelaw21.HeapPushRestores", spec := "heapPushRestores", inPlace := ["slices.overlaps[int]"], unfollowed := true, recurses := true, apart := false }
def HeapPushRestoresSaid : Prop := heapPushRestoresRow.holds Try.pinned (OpenSpec.ofChange heapPushRestoresSpec)

/-- ITS FALSE NEIGHBOUR: 'it returns false'. Refute it at one input. -/
def heapPushRestoresWrong : ChangeSpec := { name := "heapPushRestores", fn := fun _ => fun
  | [d1, d2, d3] => { results := [.lit (.bool false)], args := [d1, d2, d3] }
  | _ => none }
def HeapPushRestoresWrongFalsely : Prop := heapPushRestoresRow.holds Try.pinned (OpenSpec.ofChange heapPushRestoresWrong)

/-- 'chalklinelaw21.HeapBumpLocal': WHATEVER THE INPUT: true; the input reads as it did. -/
def heapBumpLocalSpec : ChangeSpec := { name := "heapBumpLocal", fn := fun _ => fun
  | [d1, d2] => { results := [.lit (.bool true)], args := [d1, d2] }
  | _ => none }
def heapBumpLocalRow : OpenClaim := { program := "ytobadajeekdakaa", sum := "3e17d2cd1c8eec98c472225df3beb83ea4448fe0604f7fac3800349f17770ab9", func := "chalkline/chalklinelaw21.HeapBumpLocal", spec := "heapBumpLocal", inPlace := ["slices.overlaps[int]"], unfollowed := true, recurses := true, apart := false }
def HeapBumpLocalSaid : Prop := heapBumpLocalRow.holds Try.pinned (OpenSpec.ofChange heapBumpLocalSpec)

/-- ITS FALSE NEIGHBOUR: 'it returns false'. Refute it at one input. -/
def heapBumpLocalWrong : ChangeSpec := { name := "heapBumpLocal", fn := fun _ => fun
  | [d1, d2] => { results := [.lit (.bool false)], args := [d1, d2] }
  | _ => none }
def HeapBumpLocalWrongFalsely : Prop := heapBumpLocalRow.holds Try.pinned (OpenSpec.ofChange heapBumpLocalWrong)

/-- 'chalklinelaw21.HeapDecayGrows': WHATEVER THE INPUT: true; the input reads as it did. -/
def heapDecayGrowsSpec : ChangeSpec := { name := "heapDecayGrows", fn := fun _ => fun
  | [d1, d2] => { results := [.lit (.bool true)], args := [d1, d2] }
  | _ => none }
def heapDecayGrowsRow : OpenClaim := { program := "ytobadajeekdakaa", sum := "3e17d2cd1c8eec98c472225df3beb83ea4448fe0604f7fac3800349f17770ab9", func := "chalkline/chalklinelaw21.HeapDecayGrows", spec := "heapDecayGrows", inPlace := ["slices.overlaps[int]"], unfollowed := true, recurses := true, apart := false }
def HeapDecayGrowsSaid : Prop := heapDecayGrowsRow.holds Try.pinned (OpenSpec.ofChange heapDecayGrowsSpec)

/-- ITS FALSE NEIGHBOUR: 'it returns false'. Refute it at one input. -/
def heapDecayGrowsWrong : ChangeSpec := { name := "heapDecayGrows", fn := fun _ => fun
  | [d1, d2] => { results := [.lit (.bool false)], args := [d1, d2] }
  | _ => none }
def HeapDecayGrowsWrongFalsely : Prop := heapDecayGrowsRow.holds Try.pinned (OpenSpec.ofChange heapDecayGrowsWrong)

/-- 'chalklinelaw21.HeapLubySequence': WHATEVER THE INPUT: true; the input reads as it did. -/
def heapLubySequenceSpec : ChangeSpec := { name := "heapLubySequence", fn := fun _ => fun
  | [d1, d2] => { results := [.lit (.bool true)], args := [d1, d2] }
  | _ => none }
def heapLubySequenceRow : OpenClaim := { program := "ytobadajeekdakaa", sum := "3e17d2cd1c8eec98c472225df3beb83ea4448fe0604f7fac3800349f17770ab9", func := "chalkline/chalklinelaw21.HeapLubySequence", spec := "heapLubySequence", inPlace := ["slices.overlaps[int]"], unfollowed := true, recurses := true, apart := false }
def HeapLubySequenceSaid : Prop := heapLubySequenceRow.holds Try.pinned (OpenSpec.ofChange heapLubySequenceSpec)

/-- ITS FALSE NEIGHBOUR: 'it returns false'. Refute it at one input. -/
def heapLubySequenceWrong : ChangeSpec := { name := "heapLubySequence", fn := fun _ => fun
  | [d1, d2] => { results := [.lit (.bool false)], args := [d1, d2] }
  | _ => none }
def HeapLubySequenceWrongFalsely : Prop := heapLubySequenceRow.holds Try.pinned (OpenSpec.ofChange heapLubySequenceWrong)

/- THE SECOND FORM. 'bulk': how many values and letters a reading holds, each counted each time it is reached (what is shared counts as often as it is met; a slice's spare places count too). A statement '..UptoSaid' is the law's where the arguments, and the package variables that the reading takes, are together of bulk at most 1048576: NARROWER than '..Said'. Prove '..Said' where nothing that the law and all that it calls make is longer than what came in: it says more and counts as full. Else prove '..UptoSaid'. A law counts once. -/
mutual
def uptoBulk {H : Type} : DataW H → Nat
  | .lit (.string bytes) => bytes.length + 1
  | .lit _ => 1
  | .nil => 1
  | .ptr d => uptoBulk d + 1
  | .slice elems spare => uptoBulkAll elems + uptoBulkAll spare + 1
  | .agg parts => uptoBulkAll parts + 1
  | .iface _ d => uptoBulk d + 1
  | .map entries => uptoBulkEntries entries + 1
  | .held _ => 1
def uptoBulkAll {H : Type} : List (DataW H) → Nat
  | [] => 0
  | d :: r => uptoBulk d + uptoBulkAll r
def uptoBulkEntries {H : Type} : List (Lit × DataW H) → Nat
  | [] => 0
  | x :: r => uptoBulkEntry x + uptoBulkEntries r
def uptoBulkEntry {H : Type} : Lit × DataW H → Nat
  | (.string bytes, d) => bytes.length + uptoBulk d + 1
  | (_, d) => uptoBulk d + 1
 end
def uptoSmall : (H : Type) → List (DataW H) → Bool := fun _ ds => decide (uptoBulkAll ds ≤ 1048576)
def OpenSpec.upto (s : _root_.Go.ChangeSpec) : _root_.Go.OpenSpec := { _root_.Go.OpenSpec.ofChange s with cond := some uptoSmall }

/-- 'chalklinelaw20.LearnFirst', WHERE WHAT IT READS IS OF BULK AT MOST 1048576: true; the input reads as it did. -/
def learnFirstUptoRow : OpenClaim := { program := "ytobadajeekdakaa", sum := "3e17d2cd1c8eec98c472225df3beb83ea4448fe0604f7fac3800349f17770ab9", func := "chalkline/chalklinelaw20.LearnFirst", spec := "learnFirst", unfollowed := true, recurses := true, apart := false, narrowed := true }
def LearnFirstUptoSaid : Prop := learnFirstUptoRow.holds Try.pinned (OpenSpec.upto learnFirstSpec)

/-- 'chalklinelaw20.LearnRedundant', WHERE WHAT IT READS IS OF BULK AT MOST 1048576: true; the input reads as it did. -/
def learnRedundantUptoRow : OpenClaim := { program := "ytobadajeekdakaa", sum := "3e17d2cd1c8eec98c472225df3beb83ea4448fe0604f7fac3800349f17770ab9", func := "chalkline/chalklinelaw20.LearnRedundant", spec := "learnRedundant", unfollowed := true, recurses := true, apart := false, narrowed := true }
def LearnRedundantUptoSaid : Prop := learnRedundantUptoRow.holds Try.pinned (OpenSpec.upto learnRedundantSpec)

/-- 'chalklinelaw20.LearnAsserting', WHERE WHAT IT READS IS OF BULK AT MOST 1048576: true; the input reads as it did. -/
def learnAssertingUptoRow : OpenClaim := { program := "ytobadajeekdakaa", sum := "3e17d2cd1c8eec98c472225df3beb83ea4448fe0604f7fac3800349f17770ab9", func := "chalkline/chalklinelaw20.LearnAsserting", spec := "learnAsserting", unfollowed := true, recurses := true, apart := false, narrowed := true }
def LearnAssertingUptoSaid : Prop := learnAssertingUptoRow.holds Try.pinned (OpenSpec.upto learnAssertingSpec)

/-- 'chalklinelaw20.LearnErrors', WHERE WHAT IT READS IS OF BULK AT MOST 1048576: true; the input reads as it did. -/
def learnErrorsUptoRow : OpenClaim := { program := "ytobadajeekdakaa", sum := "3e17d2cd1c8eec98c472225df3beb83ea4448fe0604f7fac3800349f17770ab9", func := "chalkline/chalklinelaw20.LearnErrors", spec := "learnErrors", unfollowed := true, recurses := true, apart := false, narrowed := true }
def LearnErrorsUptoSaid : Prop := learnErrorsUptoRow.holds Try.pinned (OpenSpec.upto learnErrorsSpec)

/-- 'chalklinelaw22.TidyReduceSpec', WHERE WHAT IT READS IS OF BULK AT MOST 1048576: true; the input reads as it did. -/
def tidyReduceSpecUptoRow : OpenClaim := { program := "ytobadajeekdakaa", sum := "3e17d2cd1c8eec98c472225df3beb83ea4448fe0604f7fac3800349f17770ab9", func := "chalkline/chalklinelaw22.TidyReduceSpec", spec := "tidyReduceSpec", unfollowed := true, recurses := true, apart := false, narrowed := true }
def TidyReduceSpecUptoSaid : Prop := tidyReduceSpecUptoRow.holds Try.pinned (OpenSpec.upto tidyReduceSpecSpec)

/-- 'chalklinelaw20.LearnBackjump', WHERE WHAT IT READS IS OF BULK AT MOST 1048576: true; the input reads as it did. -/
def learnBackjumpUptoRow : OpenClaim := { program := "ytobadajeekdakaa", sum := "3e17d2cd1c8eec98c472225df3beb83ea4448fe0604f7fac3800349f17770ab9", func := "chalkline/chalklinelaw20.LearnBackjump", spec := "learnBackjump", unfollowed := true, recurses := true, apart := false, narrowed := true }
def LearnBackjumpUptoSaid : Prop := learnBackjumpUptoRow.holds Try.pinned (OpenSpec.upto learnBackjumpSpec)

/-- 'chalklinelaw22.TidyVivifySpec', WHERE WHAT IT READS IS OF BULK AT MOST 1048576: true; the input reads as it did. -/
def tidyVivifySpecUptoRow : OpenClaim := { program := "ytobadajeekdakaa", sum := "3e17d2cd1c8eec98c472225df3beb83ea4448fe0604f7fac3800349f17770ab9", func := "chalkline/chalklinelaw22.TidyVivifySpec", spec := "tidyVivifySpec", unfollowed := true, recurses := true, apart := false, narrowed := true }
def TidyVivifySpecUptoSaid : Prop := tidyVivifySpecUptoRow.holds Try.pinned (OpenSpec.upto tidyVivifySpecSpec)

/-- 'chalklinelaw22.TidyVivifyImplied', WHERE WHAT IT READS IS OF BULK AT MOST 1048576: true; the input reads as it did. -/
def tidyVivifyImpliedUptoRow : OpenClaim := { program := "ytobadajeekdakaa", sum := "3e17d2cd1c8eec98c472225df3beb83ea4448fe0604f7fac3800349f17770ab9", func := "chalkline/chalklinelaw22.TidyVivifyImplied", spec := "tidyVivifyImplied", unfollowed := true, recurses := true, apart := false, narrowed := true }
def TidyVivifyImpliedUptoSaid : Prop := tidyVivifyImpliedUptoRow.holds Try.pinned (OpenSpec.upto tidyVivifyImpliedSpec)

/-- 'chalklinelaw22.TidySubsumeSpec', WHERE WHAT IT READS IS OF BULK AT MOST 1048576: true; the input reads as it did. -/
def tidySubsumeSpecUptoRow : OpenClaim := { program := "ytobadajeekdakaa", sum := "3e17d2cd1c8eec98c472225df3beb83ea4448fe0604f7fac3800349f17770ab9", func := "chalkline/chalklinelaw22.TidySubsumeSpec", spec := "tidySubsumeSpec", unfollowed := true, recurses := true, apart := false, narrowed := true }
def TidySubsumeSpecUptoSaid : Prop := tidySubsumeSpecUptoRow.holds Try.pinned (OpenSpec.upto tidySubsumeSpecSpec)

/-- 'chalklinelaw22.TidyVivifyShrinks', WHERE WHAT IT READS IS OF BULK AT MOST 1048576: true; the input reads as it did. -/
def tidyVivifyShrinksUptoRow : OpenClaim := { program := "ytobadajeekdakaa", sum := "3e17d2cd1c8eec98c472225df3beb83ea4448fe0604f7fac3800349f17770ab9", func := "chalkline/chalklinelaw22.TidyVivifyShrinks", spec := "tidyVivifyShrinks", unfollowed := true, recurses := true, apart := false, narrowed := true }
def TidyVivifyShrinksUptoSaid : Prop := tidyVivifyShrinksUptoRow.holds Try.pinned (OpenSpec.upto tidyVivifyShrinksSpec)

/-- 'chalklinelaw22.TidyReduceRanking', WHERE WHAT IT READS IS OF BULK AT MOST 1048576: true; the input reads as it did. -/
def tidyReduceRankingUptoRow : OpenClaim := { program := "ytobadajeekdakaa", sum := "3e17d2cd1c8eec98c472225df3beb83ea4448fe0604f7fac3800349f17770ab9", func := "chalkline/chalklinelaw22.TidyReduceRanking", spec := "tidyReduceRanking", unfollowed := true, recurses := true, apart := false, narrowed := true }
def TidyReduceRankingUptoSaid : Prop := tidyReduceRankingUptoRow.holds Try.pinned (OpenSpec.upto tidyReduceRankingSpec)

/-- 'chalklinelaw20.LearnSound', WHERE WHAT IT READS IS OF BULK AT MOST 1048576: true; the input reads as it did. -/
def learnSoundUptoRow : OpenClaim := { program := "ytobadajeekdakaa", sum := "3e17d2cd1c8eec98c472225df3beb83ea4448fe0604f7fac3800349f17770ab9", func := "chalkline/chalklinelaw20.LearnSound", spec := "learnSound", unfollowed := true, recurses := true, apart := false, narrowed := true }
def LearnSoundUptoSaid : Prop := learnSoundUptoRow.holds Try.pinned (OpenSpec.upto learnSoundSpec)

/-- 'chalklinelaw22.TidyVivifyEquivalent', WHERE WHAT IT READS IS OF BULK AT MOST 1048576: true; the input reads as it did. -/
def tidyVivifyEquivalentUptoRow : OpenClaim := { program := "ytobadajeekdakaa", sum := "3e17d2cd1c8eec98c472225df3beb83ea4448fe0604f7fac3800349f17770ab9", func := "chalkline/chalklinelaw22.TidyVivifyEquivalent", spec := "tidyVivifyEquivalent", unfollowed := true, recurses := true, apart := false, narrowed := true }
def TidyVivifyEquivalentUptoSaid : Prop := tidyVivifyEquivalentUptoRow.holds Try.pinned (OpenSpec.upto tidyVivifyEquivalentSpec)

/-- 'chalklinelaw22.TidySubsumeEquivalent', WHERE WHAT IT READS IS OF BULK AT MOST 1048576: true; the input reads as it did. -/
def tidySubsumeEquivalentUptoRow : OpenClaim := { program := "ytobadajeekdakaa", sum := "3e17d2cd1c8eec98c472225df3beb83ea4448fe0604f7fac3800349f17770ab9", func := "chalkline/chalklinelaw22.TidySubsumeEquivalent", spec := "tidySubsumeEquivalent", unfollowed := true, recurses := true, apart := false, narrowed := true }
def TidySubsumeEquivalentUptoSaid : Prop := tidySubsumeEquivalentUptoRow.holds Try.pinned (OpenSpec.upto tidySubsumeEquivalentSpec)

/-- 'chalklinelaw20.LearnRup', WHERE WHAT IT READS IS OF BULK AT MOST 1048576: true; the input reads as it did. -/
def learnRupUptoRow : OpenClaim := { program := "ytobadajeekdakaa", sum := "3e17d2cd1c8eec98c472225df3beb83ea4448fe0604f7fac3800349f17770ab9", func := "chalkline/chalklinelaw20.LearnRup", spec := "learnRup", unfollowed := true, recurses := true, apart := false, narrowed := true }
def LearnRupUptoSaid : Prop := learnRupUptoRow.holds Try.pinned (OpenSpec.upto learnRupSpec)

/-- 'chalklinelaw20.LearnMinimizes', WHERE WHAT IT READS IS OF BULK AT MOST 1048576: true; the input reads as it did. -/
def learnMinimizesUptoRow : OpenClaim := { program := "ytobadajeekdakaa", sum := "3e17d2cd1c8eec98c472225df3beb83ea4448fe0604f7fac3800349f17770ab9", func := "chalkline/chalklinelaw20.LearnMinimizes", spec := "learnMinimizes", unfollowed := true, recurses := true, apart := false, narrowed := true }
def LearnMinimizesUptoSaid : Prop := learnMinimizesUptoRow.holds Try.pinned (OpenSpec.upto learnMinimizesSpec)

/-- 'chalklinelaw21.HeapCheckSpec', WHERE WHAT IT READS IS OF BULK AT MOST 1048576: true; the input reads as it did. -/
def heapCheckSpecUptoRow : OpenClaim := { program := "ytobadajeekdakaa", sum := "3e17d2cd1c8eec98c472225df3beb83ea4448fe0604f7fac3800349f17770ab9", func := "chalkline/chalklinelaw21.HeapCheckSpec", spec := "heapCheckSpec", inPlace := ["slices.overlaps[int]"], unfollowed := true, recurses := true, apart := false, narrowed := true }
def HeapCheckSpecUptoSaid : Prop := heapCheckSpecUptoRow.holds Try.pinned (OpenSpec.upto heapCheckSpecSpec)

/-- 'chalklinelaw21.HeapStepSpec', WHERE WHAT IT READS IS OF BULK AT MOST 1048576: true; the input reads as it did. -/
def heapStepSpecUptoRow : OpenClaim := { program := "ytobadajeekdakaa", sum := "3e17d2cd1c8eec98c472225df3beb83ea4448fe0604f7fac3800349f17770ab9", func := "chalkline/chalklinelaw21.HeapStepSpec", spec := "heapStepSpec", inPlace := ["slices.overlaps[int]"], unfollowed := true, recurses := true, apart := false, narrowed := true }
def HeapStepSpecUptoSaid : Prop := heapStepSpecUptoRow.holds Try.pinned (OpenSpec.upto heapStepSpecSpec)

/-- 'chalklinelaw21.HeapPopSorted', WHERE WHAT IT READS IS OF BULK AT MOST 1048576: true; the input reads as it did. -/
def heapPopSortedUptoRow : OpenClaim := { program := "ytobadajeekdakaa", sum := "3e17d2cd1c8eec98c472225df3beb83ea4448fe0604f7fac3800349f17770ab9", func := "chalkline/chalklinelaw21.HeapPopSorted", spec := "heapPopSorted", inPlace := ["slices.overlaps[int]"], unfollowed := true, recurses := true, apart := false, narrowed := true }
def HeapPopSortedUptoSaid : Prop := heapPopSortedUptoRow.holds Try.pinned (OpenSpec.upto heapPopSortedSpec)

/-- 'chalklinelaw21.HeapPushRestores', WHERE WHAT IT READS IS OF BULK AT MOST 1048576: true; the input reads as it did. -/
def heapPushRestoresUptoRow : OpenClaim := { program := "ytobadajeekdakaa", sum := "3e17d2cd1c8eec98c472225df3beb83ea4448fe0604f7fac3800349f17770ab9", func := "chalkline/chalklinelaw21.HeapPushRestores", spec := "heapPushRestores", inPlace := ["slices.overlaps[int]"], unfollowed := true, recurses := true, apart := false, narrowed := true }
def HeapPushRestoresUptoSaid : Prop := heapPushRestoresUptoRow.holds Try.pinned (OpenSpec.upto heapPushRestoresSpec)

/-- 'chalklinelaw21.HeapBumpLocal', WHERE WHAT IT READS IS OF BULK AT MOST 1048576: true; the input reads as it did. -/
def heapBumpLocalUptoRow : OpenClaim := { program := "ytobadajeekdakaa", sum := "3e17d2cd1c8eec98c472225df3beb83ea4448fe0604f7fac3800349f17770ab9", func := "chalkline/chalklinelaw21.HeapBumpLocal", spec := "heapBumpLocal", inPlace := ["slices.overlaps[int]"], unfollowed := true, recurses := true, apart := false, narrowed := true }
def HeapBumpLocalUptoSaid : Prop := heapBumpLocalUptoRow.holds Try.pinned (OpenSpec.upto heapBumpLocalSpec)

/-- 'chalklinelaw21.HeapDecayGrows', WHERE WHAT IT READS IS OF BULK AT MOST 1048576: true; the input reads as it did. -/
def heapDecayGrowsUptoRow : OpenClaim := { program := "ytobadajeekdakaa", sum := "3e17d2cd1c8eec98c472225df3beb83ea4448fe0604f7fac3800349f17770ab9", func := "chalkline/chalklinelaw21.HeapDecayGrows", spec := "heapDecayGrows", inPlace := ["slices.overlaps[int]"], unfollowed := true, recurses := true, apart := false, narrowed := true }
def HeapDecayGrowsUptoSaid : Prop := heapDecayGrowsUptoRow.holds Try.pinned (OpenSpec.upto heapDecayGrowsSpec)

/-- 'chalklinelaw21.HeapLubySequence', WHERE WHAT IT READS IS OF BULK AT MOST 1048576: true; the input reads as it did. -/
def heapLubySequenceUptoRow : OpenClaim := { program := "ytobadajeekdakaa", sum := "3e17d2cd1c8eec98c472225df3beb83ea4448fe0604f7fac3800349f17770ab9", func := "chalkline/chalklinelaw21.HeapLubySequence", spec := "heapLubySequence", inPlace := ["slices.overlaps[int]"], unfollowed := true, recurses := true, apart := false, narrowed := true }
def HeapLubySequenceUptoSaid : Prop := heapLubySequenceUptoRow.holds Try.pinned (OpenSpec.upto heapLubySequenceSpec)

end Rows
end Go.Proofs.Ytobadajeekdakaa
