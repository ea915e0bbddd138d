/-
  No cell of these rows narrows 'for every input' (looked for: loops, veiled, ifaces, maps, wideKeys, modest, calm, conditions, laid).
  DERIVED. THE GIVEN ROWS OF THIS SEAT. 6 by the template 'for every input the law returns true; each argument reads behind the call as it read before'; 0 by the template 'total and deterministic' (their statements: YtegnonhgildhoaaGreatTotals.lean).
  GIVEN WITH THE SEED: the statements are not yours to turn. If you find one false, say at which input.
  Laid BY PROGRAM, IN A SANDBOX (cutbox-rows.mjs): the forced cells as the released guide's own fill.sh prints them over the translation 2094560c3949add1… (all of the seat's roots in one cut). By AI agents, Wed Nov 11 2026. No macro, syntax, notation, axiom, sorry.
-/
import Derived.Test.YtegnonhgildhoaaGreatChecked
import GoSem.Claim
import GoSem.ClaimJoined
import GoSem.ClaimMapViews
import Derived.JoinedTies
import Derived.KernelRfl
namespace Go.Proofs.YtegnonhgildhoaaGreat
/- THE CELL 'sum', in the pinned program and in every row, IS THE sha256 OF THE DUMP (.gsa) THAT YtegnonhgildhoaaGreatProg.lean LOADS. Nothing in Lean hashes anything: it is a label: what it is worth is what the hold of that sum in a sandbox is worth. -/
noncomputable def Tryz.pinned : Pinned := { name := "ytegnonhgildhoaagreat", sum := "2094560c3949add1941acdcd34425b0d47a4be985256904da6a99b8416ce6bc7", checked := Tryz.checked }
namespace Rows
def none {H : Type} : Left H := { results := [], args := [] }

/-- 'robuststatslaw19.MscaleMeans': WHATEVER THE INPUT: true; the input reads as it did. -/
def mscaleMeansSpec : ChangeSpec := { name := "mscaleMeans", fn := fun _ => fun
  | [d1, d2, d3, d4] => { results := [.lit (.bool true)], args := [d1, d2, d3, d4] }
  | _ => none }
def mscaleMeansRow : OpenClaim := { program := "ytegnonhgildhoaagreat", sum := "2094560c3949add1941acdcd34425b0d47a4be985256904da6a99b8416ce6bc7", func := "robuststats/robuststatslaw19.MscaleMeans", spec := "mscaleMeans", unfollowed := true, recurses := true, named := ["math/bits.overflowError"], apart := false }
def MscaleMeansSaid : Prop := mscaleMeansRow.holds Tryz.pinned (OpenSpec.ofChange mscaleMeansSpec)

/-- ITS FALSE NEIGHBOUR: 'it returns false'. Refute it at one input. -/
def mscaleMeansWrong : ChangeSpec := { name := "mscaleMeans", fn := fun _ => fun
  | [d1, d2, d3, d4] => { results := [.lit (.bool false)], args := [d1, d2, d3, d4] }
  | _ => none }
def MscaleMeansWrongFalsely : Prop := mscaleMeansRow.holds Tryz.pinned (OpenSpec.ofChange mscaleMeansWrong)

/-- 'robuststatslaw19.MscaleEncloses': WHATEVER THE INPUT: true; the input reads as it did. -/
def mscaleEnclosesSpec : ChangeSpec := { name := "mscaleEncloses", fn := fun _ => fun
  | [d1, d2, d3, d4] => { results := [.lit (.bool true)], args := [d1, d2, d3, d4] }
  | _ => none }
def mscaleEnclosesRow : OpenClaim := { program := "ytegnonhgildhoaagreat", sum := "2094560c3949add1941acdcd34425b0d47a4be985256904da6a99b8416ce6bc7", func := "robuststats/robuststatslaw19.MscaleEncloses", spec := "mscaleEncloses", unfollowed := true, recurses := true, named := ["math/bits.overflowError"], apart := false }
def MscaleEnclosesSaid : Prop := mscaleEnclosesRow.holds Tryz.pinned (OpenSpec.ofChange mscaleEnclosesSpec)

/-- ITS FALSE NEIGHBOUR: 'it returns false'. Refute it at one input. -/
def mscaleEnclosesWrong : ChangeSpec := { name := "mscaleEncloses", fn := fun _ => fun
  | [d1, d2, d3, d4] => { results := [.lit (.bool false)], args := [d1, d2, d3, d4] }
  | _ => none }
def MscaleEnclosesWrongFalsely : Prop := mscaleEnclosesRow.holds Tryz.pinned (OpenSpec.ofChange mscaleEnclosesWrong)

/-- 'robuststatslaw19.MscaleGrowsWithResiduals': WHATEVER THE INPUT: true; the input reads as it did. -/
def mscaleGrowsWithResidualsSpec : ChangeSpec := { name := "mscaleGrowsWithResiduals", fn := fun _ => fun
  | [d1, d2, d3, d4] => { results := [.lit (.bool true)], args := [d1, d2, d3, d4] }
  | _ => none }
def mscaleGrowsWithResidualsRow : OpenClaim := { program := "ytegnonhgildhoaagreat", sum := "2094560c3949add1941acdcd34425b0d47a4be985256904da6a99b8416ce6bc7", func := "robuststats/robuststatslaw19.MscaleGrowsWithResiduals", spec := "mscaleGrowsWithResiduals", unfollowed := true, recurses := true, named := ["math/bits.overflowError"], apart := false }
def MscaleGrowsWithResidualsSaid : Prop := mscaleGrowsWithResidualsRow.holds Tryz.pinned (OpenSpec.ofChange mscaleGrowsWithResidualsSpec)

/-- ITS FALSE NEIGHBOUR: 'it returns false'. Refute it at one input. -/
def mscaleGrowsWithResidualsWrong : ChangeSpec := { name := "mscaleGrowsWithResiduals", fn := fun _ => fun
  | [d1, d2, d3, d4] => { results := [.lit (.bool false)], args := [d1, d2, d3, d4] }
  | _ => none }
def MscaleGrowsWithResidualsWrongFalsely : Prop := mscaleGrowsWithResidualsRow.holds Tryz.pinned (OpenSpec.ofChange mscaleGrowsWithResidualsWrong)

/-- 'robuststatslaw19.MscaleIsEquivariant': WHATEVER THE INPUT: true; the input reads as it did. -/
def mscaleIsEquivariantSpec : ChangeSpec := { name := "mscaleIsEquivariant", fn := fun _ => fun
  | [d1, d2, d3, d4, d5] => { results := [.lit (.bool true)], args := [d1, d2, d3, d4, d5] }
  | _ => none }
def mscaleIsEquivariantRow : OpenClaim := { program := "ytegnonhgildhoaagreat", sum := "2094560c3949add1941acdcd34425b0d47a4be985256904da6a99b8416ce6bc7", func := "robuststats/robuststatslaw19.MscaleIsEquivariant", spec := "mscaleIsEquivariant", unfollowed := true, recurses := true, named := ["math/bits.overflowError"], apart := false }
def MscaleIsEquivariantSaid : Prop := mscaleIsEquivariantRow.holds Tryz.pinned (OpenSpec.ofChange mscaleIsEquivariantSpec)

/-- ITS FALSE NEIGHBOUR: 'it returns false'. Refute it at one input. -/
def mscaleIsEquivariantWrong : ChangeSpec := { name := "mscaleIsEquivariant", fn := fun _ => fun
  | [d1, d2, d3, d4, d5] => { results := [.lit (.bool false)], args := [d1, d2, d3, d4, d5] }
  | _ => none }
def MscaleIsEquivariantWrongFalsely : Prop := mscaleIsEquivariantRow.holds Tryz.pinned (OpenSpec.ofChange mscaleIsEquivariantWrong)

/-- 'robuststatslaw19.MscaleSolvesTheEquation': WHATEVER THE INPUT: true; the input reads as it did. -/
def mscaleSolvesTheEquationSpec : ChangeSpec := { name := "mscaleSolvesTheEquation", fn := fun _ => fun
  | [d1, d2, d3, d4] => { results := [.lit (.bool true)], args := [d1, d2, d3, d4] }
  | _ => none }
def mscaleSolvesTheEquationRow : OpenClaim := { program := "ytegnonhgildhoaagreat", sum := "2094560c3949add1941acdcd34425b0d47a4be985256904da6a99b8416ce6bc7", func := "robuststats/robuststatslaw19.MscaleSolvesTheEquation", spec := "mscaleSolvesTheEquation", unfollowed := true, recurses := true, named := ["math/bits.overflowError"], apart := false }
def MscaleSolvesTheEquationSaid : Prop := mscaleSolvesTheEquationRow.holds Tryz.pinned (OpenSpec.ofChange mscaleSolvesTheEquationSpec)

/-- ITS FALSE NEIGHBOUR: 'it returns false'. Refute it at one input. -/
def mscaleSolvesTheEquationWrong : ChangeSpec := { name := "mscaleSolvesTheEquation", fn := fun _ => fun
  | [d1, d2, d3, d4] => { results := [.lit (.bool false)], args := [d1, d2, d3, d4] }
  | _ => none }
def MscaleSolvesTheEquationWrongFalsely : Prop := mscaleSolvesTheEquationRow.holds Tryz.pinned (OpenSpec.ofChange mscaleSolvesTheEquationWrong)

/-- 'robuststatslaw19.MscaleOfEqualResiduals': WHATEVER THE INPUT: true; the input reads as it did. -/
def mscaleOfEqualResidualsSpec : ChangeSpec := { name := "mscaleOfEqualResiduals", fn := fun _ => fun
  | [d1, d2, d3, d4] => { results := [.lit (.bool true)], args := [d1, d2, d3, d4] }
  | _ => none }
def mscaleOfEqualResidualsRow : OpenClaim := { program := "ytegnonhgildhoaagreat", sum := "2094560c3949add1941acdcd34425b0d47a4be985256904da6a99b8416ce6bc7", func := "robuststats/robuststatslaw19.MscaleOfEqualResiduals", spec := "mscaleOfEqualResiduals", unfollowed := true, recurses := true, named := ["math/bits.overflowError"], apart := false }
def MscaleOfEqualResidualsSaid : Prop := mscaleOfEqualResidualsRow.holds Tryz.pinned (OpenSpec.ofChange mscaleOfEqualResidualsSpec)

/-- ITS FALSE NEIGHBOUR: 'it returns false'. Refute it at one input. -/
def mscaleOfEqualResidualsWrong : ChangeSpec := { name := "mscaleOfEqualResiduals", fn := fun _ => fun
  | [d1, d2, d3, d4] => { results := [.lit (.bool false)], args := [d1, d2, d3, d4] }
  | _ => none }
def MscaleOfEqualResidualsWrongFalsely : Prop := mscaleOfEqualResidualsRow.holds Tryz.pinned (OpenSpec.ofChange mscaleOfEqualResidualsWrong)

/- THE SECOND FORM. 'bulk': how many values and letters a reading holds, each counted each time it is reached (what is shared counts as often as it is met; a slice's spare places count too). A statement '..UptoSaid' is the law's where the arguments, and the package variables that the reading takes, are together of bulk at most 1048576: NARROWER than '..Said'. Prove '..Said' where nothing that the law and all that it calls make is longer than what came in: it says more and counts as full. Else prove '..UptoSaid'. A law counts once. -/
mutual
def uptoBulk {H : Type} : DataW H → Nat
  | .lit (.string bytes) => bytes.length + 1
  | .lit _ => 1
  | .nil => 1
  | .ptr d => uptoBulk d + 1
  | .slice elems spare => uptoBulkAll elems + uptoBulkAll spare + 1
  | .agg parts => uptoBulkAll parts + 1
  | .iface _ d => uptoBulk d + 1
  | .map entries => uptoBulkEntries entries + 1
  | .held _ => 1
def uptoBulkAll {H : Type} : List (DataW H) → Nat
  | [] => 0
  | d :: r => uptoBulk d + uptoBulkAll r
def uptoBulkEntries {H : Type} : List (Lit × DataW H) → Nat
  | [] => 0
  | x :: r => uptoBulkEntry x + uptoBulkEntries r
def uptoBulkEntry {H : Type} : Lit × DataW H → Nat
  | (.string bytes, d) => bytes.length + uptoBulk d + 1
  | (_, d) => uptoBulk d + 1
 end
def uptoSmall : (H : Type) → List (DataW H) → Bool := fun _ ds => decide (uptoBulkAll ds ≤ 1048576)
def OpenSpec.upto (s : _root_.Go.ChangeSpec) : _root_.Go.OpenSpec := { _root_.Go.OpenSpec.ofChange s with cond := some uptoSmall }

/-- 'robuststatslaw19.MscaleMeans', WHERE WHAT IT READS IS OF BULK AT MOST 1048576: true; the input reads as it did. -/
def mscaleMeansUptoRow : OpenClaim := { program := "ytegnonhgildhoaagreat", sum := "2094560c3949add1941acdcd34425b0d47a4be985256904da6a99b8416ce6bc7", func := "robuststats/robuststatslaw19.MscaleMeans", spec := "mscaleMeans", unfollowed := true, recurses := true, named := ["math/bits.overflowError"], apart := false, narrowed := true }
def MscaleMeansUptoSaid : Prop := mscaleMeansUptoRow.holds Tryz.pinned (OpenSpec.upto mscaleMeansSpec)

/-- 'robuststatslaw19.MscaleEncloses', WHERE WHAT IT READS IS OF BULK AT MOST 1048576: true; the input reads as it did. -/
def mscaleEnclosesUptoRow : OpenClaim := { program := "ytegnonhgildhoaagreat", sum := "2094560c3949add1941acdcd34425b0d47a4be985256904da6a99b8416ce6bc7", func := "robuststats/robuststatslaw19.MscaleEncloses", spec := "mscaleEncloses", unfollowed := true, recurses := true, named := ["math/bits.overflowError"], apart := false, narrowed := true }
def MscaleEnclosesUptoSaid : Prop := mscaleEnclosesUptoRow.holds Tryz.pinned (OpenSpec.upto mscaleEnclosesSpec)

/-- 'robuststatslaw19.MscaleGrowsWithResiduals', WHERE WHAT IT READS IS OF BULK AT MOST 1048576: true; the input reads as it did. -/
def mscaleGrowsWithResidualsUptoRow : OpenClaim := { program := "ytegnonhgildhoaagreat", sum := "2094560c3949add1941acdcd34425b0d47a4be985256904da6a99b8416ce6bc7", func := "robuststats/robuststatslaw19.MscaleGrowsWithResiduals", spec := "mscaleGrowsWithResiduals", unfollowed := true, recurses := true, named := ["math/bits.overflowError"], apart := false, narrowed := true }
def MscaleGrowsWithResidualsUptoSaid : Prop := mscaleGrowsWithResidualsUptoRow.holds Tryz.pinned (OpenSpec.upto mscaleGrowsWithResidualsSpec)

/-- 'robuststatslaw19.MscaleIsEquivariant', WHERE WHAT IT READS IS OF BULK AT MOST 1048576: true; the input reads as it did. -/
def mscaleIsEquivariantUptoRow : OpenClaim := { program := "ytegnonhgildhoaagreat", sum := "2094560c3949add1941acdcd34425b0d47a4be985256904da6a99b8416ce6bc7", func := "robuststats/robuststatslaw19.MscaleIsEquivariant", spec := "mscaleIsEquivariant", unfollowed := true, recurses := true, named := ["math/bits.overflowError"], apart := false, narrowed := true }
def MscaleIsEquivariantUptoSaid : Prop := mscaleIsEquivariantUptoRow.holds Tryz.pinned (OpenSpec.upto mscaleIsEquivariantSpec)

/-- 'robuststatslaw19.MscaleSolvesTheEquation', WHERE WHAT IT READS IS OF BULK AT MOST 1048576: true; the input reads as it did. -/
def mscaleSolvesTheEquationUptoRow : OpenClaim := { program := "ytegnonhgildhoaagreat", sum := "2094560c3949add1941acdcd34425b0d47a4be985256904da6a99b8416ce6bc7", func := "robuststats/robuststatslaw19.MscaleSolvesTheEquation", spec := "mscaleSolvesTheEquation", unfollowed := true, recurses := true, named := ["math/bits.overflowError"], apart := false, narrowed := true }
def MscaleSolvesTheEquationUptoSaid : Prop := mscaleSolvesTheEquationUptoRow.holds Tryz.pinned (OpenSpec.upto mscaleSolvesTheEquationSpec)

/-- 'robuststatslaw19.MscaleOfEqualResiduals', WHERE WHAT IT READS IS OF BULK AT MOST 1048576: true; the input reads as it did. -/
def mscaleOfEqualResidualsUptoRow : OpenClaim := { program := "ytegnonhgildhoaagreat", sum := "2094560c3949add1941acdcd34425b0d47a4be985256904da6a99b8416ce6bc7", func := "robuststats/robuststatslaw19.MscaleOfEqualResiduals", spec := "mscaleOfEqualResiduals", unfollowed := true, recurses := true, named := ["math/bits.overflowError"], apart := false, narrowed := true }
def MscaleOfEqualResidualsUptoSaid : Prop := mscaleOfEqualResidualsUptoRow.holds Tryz.pinned (OpenSpec.upto mscaleOfEqualResidualsSpec)

end Rows
end Go.Proofs.YtegnonhgildhoaaGreat
