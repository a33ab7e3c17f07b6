/-
  No cell of these rows narrows 'for every input' (looked for: loops, veiled, ifaces, maps, wideKeys, modest, calm, conditions, laid).
  DERIVED. THE GIVEN ROWS OF THIS SEAT. 20 by the template 'for every input the law returns true; each argument reads behind the call as it read before'; 0 by the template 'total and deterministic' (their statements: YtelkjbacdpmnfaaTotals.lean).
  GIVEN WITH THE SEED: the statements are not yours to turn. If you find one false, say at which input.
  Laid BY PROGRAM, IN A SANDBOX (cutbox-rows.mjs): the forced cells as the released guide's own fill.sh prints them over the translation e9f3d085e1a595e0… (all of the seat's roots in one cut). By AI agents, Wed Nov 11 2026. No macro, syntax, notation, axiom, sorry.
-/
import Derived.Test.YtelkjbacdpmnfaaChecked
import GoSem.Claim
import GoSem.ClaimJoined
import GoSem.ClaimMapViews
import Derived.JoinedTies
import Derived.KernelRfl
namespace Go.Proofs.Ytelkjbacdpmnfaa
/- THE CELL 'sum', in the pinned program and in every row, IS THE sha256 OF THE DUMP (.gsa) THAT YtelkjbacdpmnfaaProg.lean LOADS. Nothing in Lean hashes anything: it is a label: what it is worth is what the hold of that sum in a sandbox is worth. -/
noncomputable def Try.pinned : Pinned := { name := "ytelkjbacdpmnfaa", sum := "e9f3d085e1a595e03637397b26435fb284eaf55774548d5a676fa46c829773ab", checked := Try.checked }
namespace Rows
def none {H : Type} : Left H := { results := [], args := [] }

/-- 'caesuralaw19.ThompsonTells': WHATEVER THE INPUT: true; the input reads as it did. -/
def thompsonTellsSpec : ChangeSpec := { name := "thompsonTells", fn := fun _ => fun
  | [d1, d2, d3] => { results := [.lit (.bool true)], args := [d1, d2, d3] }
  | _ => none }
def thompsonTellsRow : OpenClaim := { program := "ytelkjbacdpmnfaa", sum := "e9f3d085e1a595e03637397b26435fb284eaf55774548d5a676fa46c829773ab", func := "caesura/caesuralaw19.ThompsonTells", spec := "thompsonTells", unfollowed := true, recurses := true, plainKeys := false, apart := false }
def ThompsonTellsSaid : Prop := thompsonTellsRow.holds Try.pinned (OpenSpec.ofChange thompsonTellsSpec)

/-- ITS FALSE NEIGHBOUR: 'it returns false'. Refute it at one input. -/
def thompsonTellsWrong : ChangeSpec := { name := "thompsonTells", fn := fun _ => fun
  | [d1, d2, d3] => { results := [.lit (.bool false)], args := [d1, d2, d3] }
  | _ => none }
def ThompsonTellsWrongFalsely : Prop := thompsonTellsRow.holds Try.pinned (OpenSpec.ofChange thompsonTellsWrong)

/-- 'caesuralaw19.ThompsonTakes': WHATEVER THE INPUT: true; the input reads as it did. -/
def thompsonTakesSpec : ChangeSpec := { name := "thompsonTakes", fn := fun _ => fun
  | [d1, d2, d3] => { results := [.lit (.bool true)], args := [d1, d2, d3] }
  | _ => none }
def thompsonTakesRow : OpenClaim := { program := "ytelkjbacdpmnfaa", sum := "e9f3d085e1a595e03637397b26435fb284eaf55774548d5a676fa46c829773ab", func := "caesura/caesuralaw19.ThompsonTakes", spec := "thompsonTakes", unfollowed := true, recurses := true, plainKeys := false, apart := false }
def ThompsonTakesSaid : Prop := thompsonTakesRow.holds Try.pinned (OpenSpec.ofChange thompsonTakesSpec)

/-- ITS FALSE NEIGHBOUR: 'it returns false'. Refute it at one input. -/
def thompsonTakesWrong : ChangeSpec := { name := "thompsonTakes", fn := fun _ => fun
  | [d1, d2, d3] => { results := [.lit (.bool false)], args := [d1, d2, d3] }
  | _ => none }
def ThompsonTakesWrongFalsely : Prop := thompsonTakesRow.holds Try.pinned (OpenSpec.ofChange thompsonTakesWrong)

/-- 'caesuralaw19.ThompsonSizes': WHATEVER THE INPUT: true; the input reads as it did. -/
def thompsonSizesSpec : ChangeSpec := { name := "thompsonSizes", fn := fun _ => fun
  | [d1, d2] => { results := [.lit (.bool true)], args := [d1, d2] }
  | _ => none }
def thompsonSizesRow : OpenClaim := { program := "ytelkjbacdpmnfaa", sum := "e9f3d085e1a595e03637397b26435fb284eaf55774548d5a676fa46c829773ab", func := "caesura/caesuralaw19.ThompsonSizes", spec := "thompsonSizes", unfollowed := true, recurses := true, plainKeys := false, apart := false }
def ThompsonSizesSaid : Prop := thompsonSizesRow.holds Try.pinned (OpenSpec.ofChange thompsonSizesSpec)

/-- ITS FALSE NEIGHBOUR: 'it returns false'. Refute it at one input. -/
def thompsonSizesWrong : ChangeSpec := { name := "thompsonSizes", fn := fun _ => fun
  | [d1, d2] => { results := [.lit (.bool false)], args := [d1, d2] }
  | _ => none }
def ThompsonSizesWrongFalsely : Prop := thompsonSizesRow.holds Try.pinned (OpenSpec.ofChange thompsonSizesWrong)

/-- 'caesuralaw19.ThompsonUnlike': WHATEVER THE INPUT: true; the input reads as it did. -/
def thompsonUnlikeSpec : ChangeSpec := { name := "thompsonUnlike", fn := fun _ => fun
  | [d1, d2] => { results := [.lit (.bool true)], args := [d1, d2] }
  | _ => none }
def thompsonUnlikeRow : OpenClaim := { program := "ytelkjbacdpmnfaa", sum := "e9f3d085e1a595e03637397b26435fb284eaf55774548d5a676fa46c829773ab", func := "caesura/caesuralaw19.ThompsonUnlike", spec := "thompsonUnlike", unfollowed := true, recurses := true, plainKeys := false, apart := false }
def ThompsonUnlikeSaid : Prop := thompsonUnlikeRow.holds Try.pinned (OpenSpec.ofChange thompsonUnlikeSpec)

/-- ITS FALSE NEIGHBOUR: 'it returns false'. Refute it at one input. -/
def thompsonUnlikeWrong : ChangeSpec := { name := "thompsonUnlike", fn := fun _ => fun
  | [d1, d2] => { results := [.lit (.bool false)], args := [d1, d2] }
  | _ => none }
def ThompsonUnlikeWrongFalsely : Prop := thompsonUnlikeRow.holds Try.pinned (OpenSpec.ofChange thompsonUnlikeWrong)

/-- 'caesuralaw21.LeastTells': WHATEVER THE INPUT: true; the input reads as it did. -/
def leastTellsSpec : ChangeSpec := { name := "leastTells", fn := fun _ => fun
  | [d] => { results := [.lit (.bool true)], args := [d] }
  | _ => none }
def leastTellsRow : OpenClaim := { program := "ytelkjbacdpmnfaa", sum := "e9f3d085e1a595e03637397b26435fb284eaf55774548d5a676fa46c829773ab", func := "caesura/caesuralaw21.LeastTells", spec := "leastTells", unfollowed := true, recurses := true, plainKeys := false, apart := false }
def LeastTellsSaid : Prop := leastTellsRow.holds Try.pinned (OpenSpec.ofChange leastTellsSpec)

/-- ITS FALSE NEIGHBOUR: 'it returns false'. Refute it at one input. -/
def leastTellsWrong : ChangeSpec := { name := "leastTells", fn := fun _ => fun
  | [d] => { results := [.lit (.bool false)], args := [d] }
  | _ => none }
def LeastTellsWrongFalsely : Prop := leastTellsRow.holds Try.pinned (OpenSpec.ofChange leastTellsWrong)

/-- 'caesuralaw21.LeastAlike': WHATEVER THE INPUT: true; the input reads as it did. -/
def leastAlikeSpec : ChangeSpec := { name := "leastAlike", fn := fun _ => fun
  | [d] => { results := [.lit (.bool true)], args := [d] }
  | _ => none }
def leastAlikeRow : OpenClaim := { program := "ytelkjbacdpmnfaa", sum := "e9f3d085e1a595e03637397b26435fb284eaf55774548d5a676fa46c829773ab", func := "caesura/caesuralaw21.LeastAlike", spec := "leastAlike", unfollowed := true, recurses := true, plainKeys := false, apart := false }
def LeastAlikeSaid : Prop := leastAlikeRow.holds Try.pinned (OpenSpec.ofChange leastAlikeSpec)

/-- ITS FALSE NEIGHBOUR: 'it returns false'. Refute it at one input. -/
def leastAlikeWrong : ChangeSpec := { name := "leastAlike", fn := fun _ => fun
  | [d] => { results := [.lit (.bool false)], args := [d] }
  | _ => none }
def LeastAlikeWrongFalsely : Prop := leastAlikeRow.holds Try.pinned (OpenSpec.ofChange leastAlikeWrong)

/-- 'caesuralaw21.LeastOnce': WHATEVER THE INPUT: true; the input reads as it did. -/
def leastOnceSpec : ChangeSpec := { name := "leastOnce", fn := fun _ => fun
  | [d1, d2] => { results := [.lit (.bool true)], args := [d1, d2] }
  | _ => none }
def leastOnceRow : OpenClaim := { program := "ytelkjbacdpmnfaa", sum := "e9f3d085e1a595e03637397b26435fb284eaf55774548d5a676fa46c829773ab", func := "caesura/caesuralaw21.LeastOnce", spec := "leastOnce", unfollowed := true, recurses := true, plainKeys := false, apart := false }
def LeastOnceSaid : Prop := leastOnceRow.holds Try.pinned (OpenSpec.ofChange leastOnceSpec)

/-- ITS FALSE NEIGHBOUR: 'it returns false'. Refute it at one input. -/
def leastOnceWrong : ChangeSpec := { name := "leastOnce", fn := fun _ => fun
  | [d1, d2] => { results := [.lit (.bool false)], args := [d1, d2] }
  | _ => none }
def LeastOnceWrongFalsely : Prop := leastOnceRow.holds Try.pinned (OpenSpec.ofChange leastOnceWrong)

/-- 'caesuralaw21.LeastTakes': WHATEVER THE INPUT: true; the input reads as it did. -/
def leastTakesSpec : ChangeSpec := { name := "leastTakes", fn := fun _ => fun
  | [d1, d2] => { results := [.lit (.bool true)], args := [d1, d2] }
  | _ => none }
def leastTakesRow : OpenClaim := { program := "ytelkjbacdpmnfaa", sum := "e9f3d085e1a595e03637397b26435fb284eaf55774548d5a676fa46c829773ab", func := "caesura/caesuralaw21.LeastTakes", spec := "leastTakes", unfollowed := true, recurses := true, plainKeys := false, apart := false }
def LeastTakesSaid : Prop := leastTakesRow.holds Try.pinned (OpenSpec.ofChange leastTakesSpec)

/-- ITS FALSE NEIGHBOUR: 'it returns false'. Refute it at one input. -/
def leastTakesWrong : ChangeSpec := { name := "leastTakes", fn := fun _ => fun
  | [d1, d2] => { results := [.lit (.bool false)], args := [d1, d2] }
  | _ => none }
def LeastTakesWrongFalsely : Prop := leastTakesRow.holds Try.pinned (OpenSpec.ofChange leastTakesWrong)

/-- 'caesuralaw20.SubsetTells': WHATEVER THE INPUT: true; the input reads as it did. -/
def subsetTellsSpec : ChangeSpec := { name := "subsetTells", fn := fun _ => fun
  | [d1, d2, d3] => { results := [.lit (.bool true)], args := [d1, d2, d3] }
  | _ => none }
def subsetTellsRow : OpenClaim := { program := "ytelkjbacdpmnfaa", sum := "e9f3d085e1a595e03637397b26435fb284eaf55774548d5a676fa46c829773ab", func := "caesura/caesuralaw20.SubsetTells", spec := "subsetTells", unfollowed := true, recurses := true, plainKeys := false, apart := false }
def SubsetTellsSaid : Prop := subsetTellsRow.holds Try.pinned (OpenSpec.ofChange subsetTellsSpec)

/-- ITS FALSE NEIGHBOUR: 'it returns false'. Refute it at one input. -/
def subsetTellsWrong : ChangeSpec := { name := "subsetTells", fn := fun _ => fun
  | [d1, d2, d3] => { results := [.lit (.bool false)], args := [d1, d2, d3] }
  | _ => none }
def SubsetTellsWrongFalsely : Prop := subsetTellsRow.holds Try.pinned (OpenSpec.ofChange subsetTellsWrong)

/-- 'caesuralaw20.SubsetTakes': WHATEVER THE INPUT: true; the input reads as it did. -/
def subsetTakesSpec : ChangeSpec := { name := "subsetTakes", fn := fun _ => fun
  | [d1, d2] => { results := [.lit (.bool true)], args := [d1, d2] }
  | _ => none }
def subsetTakesRow : OpenClaim := { program := "ytelkjbacdpmnfaa", sum := "e9f3d085e1a595e03637397b26435fb284eaf55774548d5a676fa46c829773ab", func := "caesura/caesuralaw20.SubsetTakes", spec := "subsetTakes", unfollowed := true, recurses := true, plainKeys := false, apart := false }
def SubsetTakesSaid : Prop := subsetTakesRow.holds Try.pinned (OpenSpec.ofChange subsetTakesSpec)

/-- ITS FALSE NEIGHBOUR: 'it returns false'. Refute it at one input. -/
def subsetTakesWrong : ChangeSpec := { name := "subsetTakes", fn := fun _ => fun
  | [d1, d2] => { results := [.lit (.bool false)], args := [d1, d2] }
  | _ => none }
def SubsetTakesWrongFalsely : Prop := subsetTakesRow.holds Try.pinned (OpenSpec.ofChange subsetTakesWrong)

/-- 'caesuralaw20.SubsetNets': WHATEVER THE INPUT: true; the input reads as it did. -/
def subsetNetsSpec : ChangeSpec := { name := "subsetNets", fn := fun _ => fun
  | [d1, d2] => { results := [.lit (.bool true)], args := [d1, d2] }
  | _ => none }
def subsetNetsRow : OpenClaim := { program := "ytelkjbacdpmnfaa", sum := "e9f3d085e1a595e03637397b26435fb284eaf55774548d5a676fa46c829773ab", func := "caesura/caesuralaw20.SubsetNets", spec := "subsetNets", unfollowed := true, recurses := true, plainKeys := false, apart := false }
def SubsetNetsSaid : Prop := subsetNetsRow.holds Try.pinned (OpenSpec.ofChange subsetNetsSpec)

/-- ITS FALSE NEIGHBOUR: 'it returns false'. Refute it at one input. -/
def subsetNetsWrong : ChangeSpec := { name := "subsetNets", fn := fun _ => fun
  | [d1, d2] => { results := [.lit (.bool false)], args := [d1, d2] }
  | _ => none }
def SubsetNetsWrongFalsely : Prop := subsetNetsRow.holds Try.pinned (OpenSpec.ofChange subsetNetsWrong)

/-- 'caesuralaw22.NumberTells': WHATEVER THE INPUT: true; the input reads as it did. -/
def numberTellsSpec : ChangeSpec := { name := "numberTells", fn := fun _ => fun
  | [d1, d2] => { results := [.lit (.bool true)], args := [d1, d2] }
  | _ => none }
def numberTellsRow : OpenClaim := { program := "ytelkjbacdpmnfaa", sum := "e9f3d085e1a595e03637397b26435fb284eaf55774548d5a676fa46c829773ab", func := "caesura/caesuralaw22.NumberTells", spec := "numberTells", unfollowed := true, recurses := true, plainKeys := false, apart := false }
def NumberTellsSaid : Prop := numberTellsRow.holds Try.pinned (OpenSpec.ofChange numberTellsSpec)

/-- ITS FALSE NEIGHBOUR: 'it returns false'. Refute it at one input. -/
def numberTellsWrong : ChangeSpec := { name := "numberTells", fn := fun _ => fun
  | [d1, d2] => { results := [.lit (.bool false)], args := [d1, d2] }
  | _ => none }
def NumberTellsWrongFalsely : Prop := numberTellsRow.holds Try.pinned (OpenSpec.ofChange numberTellsWrong)

/-- 'caesuralaw22.NumberApart': WHATEVER THE INPUT: true; the input reads as it did. -/
def numberApartSpec : ChangeSpec := { name := "numberApart", fn := fun _ => fun
  | [d1, d2] => { results := [.lit (.bool true)], args := [d1, d2] }
  | _ => none }
def numberApartRow : OpenClaim := { program := "ytelkjbacdpmnfaa", sum := "e9f3d085e1a595e03637397b26435fb284eaf55774548d5a676fa46c829773ab", func := "caesura/caesuralaw22.NumberApart", spec := "numberApart", unfollowed := true, recurses := true, plainKeys := false, apart := false }
def NumberApartSaid : Prop := numberApartRow.holds Try.pinned (OpenSpec.ofChange numberApartSpec)

/-- ITS FALSE NEIGHBOUR: 'it returns false'. Refute it at one input. -/
def numberApartWrong : ChangeSpec := { name := "numberApart", fn := fun _ => fun
  | [d1, d2] => { results := [.lit (.bool false)], args := [d1, d2] }
  | _ => none }
def NumberApartWrongFalsely : Prop := numberApartRow.holds Try.pinned (OpenSpec.ofChange numberApartWrong)

/-- 'caesuralaw22.NumberOrder': WHATEVER THE INPUT: true; the input reads as it did. -/
def numberOrderSpec : ChangeSpec := { name := "numberOrder", fn := fun _ => fun
  | [d] => { results := [.lit (.bool true)], args := [d] }
  | _ => none }
def numberOrderRow : OpenClaim := { program := "ytelkjbacdpmnfaa", sum := "e9f3d085e1a595e03637397b26435fb284eaf55774548d5a676fa46c829773ab", func := "caesura/caesuralaw22.NumberOrder", spec := "numberOrder", unfollowed := true, recurses := true, plainKeys := false, apart := false }
def NumberOrderSaid : Prop := numberOrderRow.holds Try.pinned (OpenSpec.ofChange numberOrderSpec)

/-- ITS FALSE NEIGHBOUR: 'it returns false'. Refute it at one input. -/
def numberOrderWrong : ChangeSpec := { name := "numberOrder", fn := fun _ => fun
  | [d] => { results := [.lit (.bool false)], args := [d] }
  | _ => none }
def NumberOrderWrongFalsely : Prop := numberOrderRow.holds Try.pinned (OpenSpec.ofChange numberOrderWrong)

/-- 'caesuralaw22.NumberFlip': WHATEVER THE INPUT: true; the input reads as it did. -/
def numberFlipSpec : ChangeSpec := { name := "numberFlip", fn := fun _ => fun
  | [d] => { results := [.lit (.bool true)], args := [d] }
  | _ => none }
def numberFlipRow : OpenClaim := { program := "ytelkjbacdpmnfaa", sum := "e9f3d085e1a595e03637397b26435fb284eaf55774548d5a676fa46c829773ab", func := "caesura/caesuralaw22.NumberFlip", spec := "numberFlip", unfollowed := true, recurses := true, plainKeys := false, apart := false }
def NumberFlipSaid : Prop := numberFlipRow.holds Try.pinned (OpenSpec.ofChange numberFlipSpec)

/-- ITS FALSE NEIGHBOUR: 'it returns false'. Refute it at one input. -/
def numberFlipWrong : ChangeSpec := { name := "numberFlip", fn := fun _ => fun
  | [d] => { results := [.lit (.bool false)], args := [d] }
  | _ => none }
def NumberFlipWrongFalsely : Prop := numberFlipRow.holds Try.pinned (OpenSpec.ofChange numberFlipWrong)

/-- 'caesuralaw22.NumberCanon': WHATEVER THE INPUT: true; the input reads as it did. -/
def numberCanonSpec : ChangeSpec := { name := "numberCanon", fn := fun _ => fun
  | [d1, d2, d3] => { results := [.lit (.bool true)], args := [d1, d2, d3] }
  | _ => none }
def numberCanonRow : OpenClaim := { program := "ytelkjbacdpmnfaa", sum := "e9f3d085e1a595e03637397b26435fb284eaf55774548d5a676fa46c829773ab", func := "caesura/caesuralaw22.NumberCanon", spec := "numberCanon", unfollowed := true, recurses := true, plainKeys := false, apart := false }
def NumberCanonSaid : Prop := numberCanonRow.holds Try.pinned (OpenSpec.ofChange numberCanonSpec)

/-- ITS FALSE NEIGHBOUR: 'it returns false'. Refute it at one input. -/
def numberCanonWrong : ChangeSpec := { name := "numberCanon", fn := fun _ => fun
  | [d1, d2, d3] => { results := [.lit (.bool false)], args := [d1, d2, d3] }
  | _ => none }
def NumberCanonWrongFalsely : Prop := numberCanonRow.holds Try.pinned (OpenSpec.ofChange numberCanonWrong)

/-- 'caesuralaw24.ProductTells': WHATEVER THE INPUT: true; the input reads as it did. -/
def productTellsSpec : ChangeSpec := { name := "productTells", fn := fun _ => fun
  | [d1, d2, d3] => { results := [.lit (.bool true)], args := [d1, d2, d3] }
  | _ => none }
def productTellsRow : OpenClaim := { program := "ytelkjbacdpmnfaa", sum := "e9f3d085e1a595e03637397b26435fb284eaf55774548d5a676fa46c829773ab", func := "caesura/caesuralaw24.ProductTells", spec := "productTells", unfollowed := true, recurses := true, plainKeys := false, apart := false }
def ProductTellsSaid : Prop := productTellsRow.holds Try.pinned (OpenSpec.ofChange productTellsSpec)

/-- ITS FALSE NEIGHBOUR: 'it returns false'. Refute it at one input. -/
def productTellsWrong : ChangeSpec := { name := "productTells", fn := fun _ => fun
  | [d1, d2, d3] => { results := [.lit (.bool false)], args := [d1, d2, d3] }
  | _ => none }
def ProductTellsWrongFalsely : Prop := productTellsRow.holds Try.pinned (OpenSpec.ofChange productTellsWrong)

/-- 'caesuralaw24.ProductTakes': WHATEVER THE INPUT: true; the input reads as it did. -/
def productTakesSpec : ChangeSpec := { name := "productTakes", fn := fun _ => fun
  | [d1, d2, d3] => { results := [.lit (.bool true)], args := [d1, d2, d3] }
  | _ => none }
def productTakesRow : OpenClaim := { program := "ytelkjbacdpmnfaa", sum := "e9f3d085e1a595e03637397b26435fb284eaf55774548d5a676fa46c829773ab", func := "caesura/caesuralaw24.ProductTakes", spec := "productTakes", unfollowed := true, recurses := true, plainKeys := false, apart := false }
def ProductTakesSaid : Prop := productTakesRow.holds Try.pinned (OpenSpec.ofChange productTakesSpec)

/-- ITS FALSE NEIGHBOUR: 'it returns false'. Refute it at one input. -/
def productTakesWrong : ChangeSpec := { name := "productTakes", fn := fun _ => fun
  | [d1, d2, d3] => { results := [.lit (.bool false)], args := [d1, d2, d3] }
  | _ => none }
def ProductTakesWrongFalsely : Prop := productTakesRow.holds Try.pinned (OpenSpec.ofChange productTakesWrong)

/-- 'caesuralaw24.ProductLaws': WHATEVER THE INPUT: true; the input reads as it did. -/
def productLawsSpec : ChangeSpec := { name := "productLaws", fn := fun _ => fun
  | [d1, d2] => { results := [.lit (.bool true)], args := [d1, d2] }
  | _ => none }
def productLawsRow : OpenClaim := { program := "ytelkjbacdpmnfaa", sum := "e9f3d085e1a595e03637397b26435fb284eaf55774548d5a676fa46c829773ab", func := "caesura/caesuralaw24.ProductLaws", spec := "productLaws", unfollowed := true, recurses := true, plainKeys := false, apart := false }
def ProductLawsSaid : Prop := productLawsRow.holds Try.pinned (OpenSpec.ofChange productLawsSpec)

/-- ITS FALSE NEIGHBOUR: 'it returns false'. Refute it at one input. -/
def productLawsWrong : ChangeSpec := { name := "productLaws", fn := fun _ => fun
  | [d1, d2] => { results := [.lit (.bool false)], args := [d1, d2] }
  | _ => none }
def ProductLawsWrongFalsely : Prop := productLawsRow.holds Try.pinned (OpenSpec.ofChange productLawsWrong)

/-- 'caesuralaw24.ProductBudget': WHATEVER THE INPUT: true; the input reads as it did. -/
def productBudgetSpec : ChangeSpec := { name := "productBudget", fn := fun _ => fun
  | [d1, d2] => { results := [.lit (.bool true)], args := [d1, d2] }
  | _ => none }
def productBudgetRow : OpenClaim := { program := "ytelkjbacdpmnfaa", sum := "e9f3d085e1a595e03637397b26435fb284eaf55774548d5a676fa46c829773ab", func := "caesura/caesuralaw24.ProductBudget", spec := "productBudget", unfollowed := true, recurses := true, plainKeys := false, apart := false }
def ProductBudgetSaid : Prop := productBudgetRow.holds Try.pinned (OpenSpec.ofChange productBudgetSpec)

/-- ITS FALSE NEIGHBOUR: 'it returns false'. Refute it at one input. -/
def productBudgetWrong : ChangeSpec := { name := "productBudget", fn := fun _ => fun
  | [d1, d2] => { results := [.lit (.bool false)], args := [d1, d2] }
  | _ => none }
def ProductBudgetWrongFalsely : Prop := productBudgetRow.holds Try.pinned (OpenSpec.ofChange productBudgetWrong)

/- THE SECOND FORM. 'bulk': how many values and letters a reading holds, each counted each time it is reached (what is shared counts as often as it is met; a slice's spare places count too). A statement '..UptoSaid' is the law's where the arguments, and the package variables that the reading takes, are together of bulk at most 1048576: NARROWER than '..Said'. Prove '..Said' where nothing that the law and all that it calls make is longer than what came in: it says more and counts as full. Else prove '..UptoSaid'. A law counts once. -/
mutual
def uptoBulk {H : Type} : DataW H → Nat
  | .lit (.string bytes) => bytes.length + 1
  | .lit _ => 1
  | .nil => 1
  | .ptr d => uptoBulk d + 1
  | .slice elems spare => uptoBulkAll elems + uptoBulkAll spare + 1
  | .agg parts => uptoBulkAll parts + 1
  | .iface _ d => uptoBulk d + 1
  | .map entries => uptoBulkEntries entries + 1
  | .held _ => 1
def uptoBulkAll {H : Type} : List (DataW H) → Nat
  | [] => 0
  | d :: r => uptoBulk d + uptoBulkAll r
def uptoBulkEntries {H : Type} : List (Lit × DataW H) → Nat
  | [] => 0
  | x :: r => uptoBulkEntry x + uptoBulkEntries r
def uptoBulkEntry {H : Type} : Lit × DataW H → Nat
  | (.string bytes, d) => bytes.length + uptoBulk d + 1
  | (_, d) => uptoBulk d + 1
 end
def uptoSmall : (H : Type) → List (DataW H) → Bool := fun _ ds => decide (uptoBulkAll ds ≤ 1048576)
def OpenSpec.upto (s : _root_.Go.ChangeSpec) : _root_.Go.OpenSpec := { _root_.Go.OpenSpec.ofChange s with cond := some uptoSmall }

/-- 'caesuralaw19.ThompsonTells', WHERE WHAT IT READS IS OF BULK AT MOST 1048576: true; the input reads as it did. -/
def thompsonTellsUptoRow : OpenClaim := { program := "ytelkjbacdpmnfaa", sum := "e9f3d085e1a595e03637397b26435fb284eaf55774548d5a676fa46c829773ab", func := "caesura/caesuralaw19.ThompsonTells", spec := "thompsonTells", unfollowed := true, recurses := true, plainKeys := false, apart := false, narrowed := true }
def ThompsonTellsUptoSaid : Prop := thompsonTellsUptoRow.holds Try.pinned (OpenSpec.upto thompsonTellsSpec)

/-- 'caesuralaw19.ThompsonTakes', WHERE WHAT IT READS IS OF BULK AT MOST 1048576: true; the input reads as it did. -/
def thompsonTakesUptoRow : OpenClaim := { program := "ytelkjbacdpmnfaa", sum := "e9f3d085e1a595e03637397b26435fb284eaf55774548d5a676fa46c829773ab", func := "caesura/caesuralaw19.ThompsonTakes", spec := "thompsonTakes", unfollowed := true, recurses := true, plainKeys := false, apart := false, narrowed := true }
def ThompsonTakesUptoSaid : Prop := thompsonTakesUptoRow.holds Try.pinned (OpenSpec.upto thompsonTakesSpec)

/-- 'caesuralaw19.ThompsonSizes', WHERE WHAT IT READS IS OF BULK AT MOST 1048576: true; the input reads as it did. -/
def thompsonSizesUptoRow : OpenClaim := { program := "ytelkjbacdpmnfaa", sum := "e9f3d085e1a595e03637397b26435fb284eaf55774548d5a676fa46c829773ab", func := "caesura/caesuralaw19.ThompsonSizes", spec := "thompsonSizes", unfollowed := true, recurses := true, plainKeys := false, apart := false, narrowed := true }
def ThompsonSizesUptoSaid : Prop := thompsonSizesUptoRow.holds Try.pinned (OpenSpec.upto thompsonSizesSpec)

/-- 'caesuralaw19.ThompsonUnlike', WHERE WHAT IT READS IS OF BULK AT MOST 1048576: true; the input reads as it did. -/
def thompsonUnlikeUptoRow : OpenClaim := { program := "ytelkjbacdpmnfaa", sum := "e9f3d085e1a595e03637397b26435fb284eaf55774548d5a676fa46c829773ab", func := "caesura/caesuralaw19.ThompsonUnlike", spec := "thompsonUnlike", unfollowed := true, recurses := true, plainKeys := false, apart := false, narrowed := true }
def ThompsonUnlikeUptoSaid : Prop := thompsonUnlikeUptoRow.holds Try.pinned (OpenSpec.upto thompsonUnlikeSpec)

/-- 'caesuralaw21.LeastTells', WHERE WHAT IT READS IS OF BULK AT MOST 1048576: true; the input reads as it did. -/
def leastTellsUptoRow : OpenClaim := { program := "ytelkjbacdpmnfaa", sum := "e9f3d085e1a595e03637397b26435fb284eaf55774548d5a676fa46c829773ab", func := "caesura/caesuralaw21.LeastTells", spec := "leastTells", unfollowed := true, recurses := true, plainKeys := false, apart := false, narrowed := true }
def LeastTellsUptoSaid : Prop := leastTellsUptoRow.holds Try.pinned (OpenSpec.upto leastTellsSpec)

/-- 'caesuralaw21.LeastAlike', WHERE WHAT IT READS IS OF BULK AT MOST 1048576: true; the input reads as it did. -/
def leastAlikeUptoRow : OpenClaim := { program := "ytelkjbacdpmnfaa", sum := "e9f3d085e1a595e03637397b26435fb284eaf55774548d5a676fa46c829773ab", func := "caesura/caesuralaw21.LeastAlike", spec := "leastAlike", unfollowed := true, recurses := true, plainKeys := false, apart := false, narrowed := true }
def LeastAlikeUptoSaid : Prop := leastAlikeUptoRow.holds Try.pinned (OpenSpec.upto leastAlikeSpec)

/-- 'caesuralaw21.LeastOnce', WHERE WHAT IT READS IS OF BULK AT MOST 1048576: true; the input reads as it did. -/
def leastOnceUptoRow : OpenClaim := { program := "ytelkjbacdpmnfaa", sum := "e9f3d085e1a595e03637397b26435fb284eaf55774548d5a676fa46c829773ab", func := "caesura/caesuralaw21.LeastOnce", spec := "leastOnce", unfollowed := true, recurses := true, plainKeys := false, apart := false, narrowed := true }
def LeastOnceUptoSaid : Prop := leastOnceUptoRow.holds Try.pinned (OpenSpec.upto leastOnceSpec)

/-- 'caesuralaw21.LeastTakes', WHERE WHAT IT READS IS OF BULK AT MOST 1048576: true; the input reads as it did. -/
def leastTakesUptoRow : OpenClaim := { program := "ytelkjbacdpmnfaa", sum := "e9f3d085e1a595e03637397b26435fb284eaf55774548d5a676fa46c829773ab", func := "caesura/caesuralaw21.LeastTakes", spec := "leastTakes", unfollowed := true, recurses := true, plainKeys := false, apart := false, narrowed := true }
def LeastTakesUptoSaid : Prop := leastTakesUptoRow.holds Try.pinned (OpenSpec.upto leastTakesSpec)

/-- 'caesuralaw20.SubsetTells', WHERE WHAT IT READS IS OF BULK AT MOST 1048576: true; the input reads as it did. -/
def subsetTellsUptoRow : OpenClaim := { program := "ytelkjbacdpmnfaa", sum := "e9f3d085e1a595e03637397b26435fb284eaf55774548d5a676fa46c829773ab", func := "caesura/caesuralaw20.SubsetTells", spec := "subsetTells", unfollowed := true, recurses := true, plainKeys := false, apart := false, narrowed := true }
def SubsetTellsUptoSaid : Prop := subsetTellsUptoRow.holds Try.pinned (OpenSpec.upto subsetTellsSpec)

/-- 'caesuralaw20.SubsetTakes', WHERE WHAT IT READS IS OF BULK AT MOST 1048576: true; the input reads as it did. -/
def subsetTakesUptoRow : OpenClaim := { program := "ytelkjbacdpmnfaa", sum := "e9f3d085e1a595e03637397b26435fb284eaf55774548d5a676fa46c829773ab", func := "caesura/caesuralaw20.SubsetTakes", spec := "subsetTakes", unfollowed := true, recurses := true, plainKeys := false, apart := false, narrowed := true }
def SubsetTakesUptoSaid : Prop := subsetTakesUptoRow.holds Try.pinned (OpenSpec.upto subsetTakesSpec)

/-- 'caesuralaw20.SubsetNets', WHERE WHAT IT READS IS OF BULK AT MOST 1048576: true; the input reads as it did. -/
def subsetNetsUptoRow : OpenClaim := { program := "ytelkjbacdpmnfaa", sum := "e9f3d085e1a595e03637397b26435fb284eaf55774548d5a676fa46c829773ab", func := "caesura/caesuralaw20.SubsetNets", spec := "subsetNets", unfollowed := true, recurses := true, plainKeys := false, apart := false, narrowed := true }
def SubsetNetsUptoSaid : Prop := subsetNetsUptoRow.holds Try.pinned (OpenSpec.upto subsetNetsSpec)

/-- 'caesuralaw22.NumberTells', WHERE WHAT IT READS IS OF BULK AT MOST 1048576: true; the input reads as it did. -/
def numberTellsUptoRow : OpenClaim := { program := "ytelkjbacdpmnfaa", sum := "e9f3d085e1a595e03637397b26435fb284eaf55774548d5a676fa46c829773ab", func := "caesura/caesuralaw22.NumberTells", spec := "numberTells", unfollowed := true, recurses := true, plainKeys := false, apart := false, narrowed := true }
def NumberTellsUptoSaid : Prop := numberTellsUptoRow.holds Try.pinned (OpenSpec.upto numberTellsSpec)

/-- 'caesuralaw22.NumberApart', WHERE WHAT IT READS IS OF BULK AT MOST 1048576: true; the input reads as it did. -/
def numberApartUptoRow : OpenClaim := { program := "ytelkjbacdpmnfaa", sum := "e9f3d085e1a595e03637397b26435fb284eaf55774548d5a676fa46c829773ab", func := "caesura/caesuralaw22.NumberApart", spec := "numberApart", unfollowed := true, recurses := true, plainKeys := false, apart := false, narrowed := true }
def NumberApartUptoSaid : Prop := numberApartUptoRow.holds Try.pinned (OpenSpec.upto numberApartSpec)

/-- 'caesuralaw22.NumberOrder', WHERE WHAT IT READS IS OF BULK AT MOST 1048576: true; the input reads as it did. -/
def numberOrderUptoRow : OpenClaim := { program := "ytelkjbacdpmnfaa", sum := "e9f3d085e1a595e03637397b26435fb284eaf55774548d5a676fa46c829773ab", func := "caesura/caesuralaw22.NumberOrder", spec := "numberOrder", unfollowed := true, recurses := true, plainKeys := false, apart := false, narrowed := true }
def NumberOrderUptoSaid : Prop := numberOrderUptoRow.holds Try.pinned (OpenSpec.upto numberOrderSpec)

/-- 'caesuralaw22.NumberFlip', WHERE WHAT IT READS IS OF BULK AT MOST 1048576: true; the input reads as it did. -/
def numberFlipUptoRow : OpenClaim := { program := "ytelkjbacdpmnfaa", sum := "e9f3d085e1a595e03637397b26435fb284eaf55774548d5a676fa46c829773ab", func := "caesura/caesuralaw22.NumberFlip", spec := "numberFlip", unfollowed := true, recurses := true, plainKeys := false, apart := false, narrowed := true }
def NumberFlipUptoSaid : Prop := numberFlipUptoRow.holds Try.pinned (OpenSpec.upto numberFlipSpec)

/-- 'caesuralaw22.NumberCanon', WHERE WHAT IT READS IS OF BULK AT MOST 1048576: true; the input reads as it did. -/
def numberCanonUptoRow : OpenClaim := { program := "ytelkjbacdpmnfaa", sum := "e9f3d085e1a595e03637397b26435fb284eaf55774548d5a676fa46c829773ab", func := "caesura/caesuralaw22.NumberCanon", spec := "numberCanon", unfollowed := true, recurses := true, plainKeys := false, apart := false, narrowed := true }
def NumberCanonUptoSaid : Prop := numberCanonUptoRow.holds Try.pinned (OpenSpec.upto numberCanonSpec)

/-- 'caesuralaw24.ProductTells', WHERE WHAT IT READS IS OF BULK AT MOST 1048576: true; the input reads as it did. -/
def productTellsUptoRow : OpenClaim := { program := "ytelkjbacdpmnfaa", sum := "e9f3d085e1a595e03637397b26435fb284eaf55774548d5a676fa46c829773ab", func := "caesura/caesuralaw24.ProductTells", spec := "productTells", unfollowed := true, recurses := true, plainKeys := false, apart := false, narrowed := true }
def ProductTellsUptoSaid : Prop := productTellsUptoRow.holds Try.pinned (OpenSpec.upto productTellsSpec)

/-- 'caesuralaw24.ProductTakes', WHERE WHAT IT READS IS OF BULK AT MOST 1048576: true; the input reads as it did. -/
def productTakesUptoRow : OpenClaim := { program := "ytelkjbacdpmnfaa", sum := "e9f3d085e1a595e03637397b26435fb284eaf55774548d5a676fa46c829773ab", func := "caesura/caesuralaw24.ProductTakes", spec := "productTakes", unfollowed := true, recurses := true, plainKeys := false, apart := false, narrowed := true }
def ProductTakesUptoSaid : Prop := productTakesUptoRow.holds Try.pinned (OpenSpec.upto productTakesSpec)

/-- 'caesuralaw24.ProductLaws', WHERE WHAT IT READS IS OF BULK AT MOST 1048576: true; the input reads as it did. -/
def productLawsUptoRow : OpenClaim := { program := "ytelkjbacdpmnfaa", sum := "e9f3d085e1a595e03637397b26435fb284eaf55774548d5a676fa46c829773ab", func := "caesura/caesuralaw24.ProductLaws", spec := "productLaws", unfollowed := true, recurses := true, plainKeys := false, apart := false, narrowed := true }
def ProductLawsUptoSaid : Prop := productLawsUptoRow.holds Try.pinned (OpenSpec.upto productLawsSpec)

/-- 'caesuralaw24.ProductBudget', WHERE WHAT IT READS IS OF BULK AT MOST 1048576: true; the input reads as it did. -/
def productBudgetUptoRow : OpenClaim := { program := "ytelkjbacdpmnfaa", sum := "e9f3d085e1a595e03637397b26435fb284eaf55774548d5a676fa46c829773ab", func := "caesura/caesuralaw24.ProductBudget", spec := "productBudget", unfollowed := true, recurses := true, plainKeys := false, apart := false, narrowed := true }
def ProductBudgetUptoSaid : Prop := productBudgetUptoRow.holds Try.pinned (OpenSpec.upto productBudgetSpec)

end Rows
end Go.Proofs.Ytelkjbacdpmnfaa
