/-
  No cell of these rows narrows 'for every input' (looked for: loops, veiled, ifaces, maps, wideKeys, modest, calm, conditions, laid).
  DERIVED. THE GIVEN ROWS OF THIS SEAT. 3 by the template 'for every input the law returns true; each argument reads behind the call as it read before'; 0 by the template 'total and deterministic' (their statements: YtbiifkfbkaejlaaGreatTotals.lean).
  GIVEN WITH THE SEED: the statements are not yours to turn. If you find one false, say at which input.
  Laid BY PROGRAM, IN A SANDBOX (cutbox-rows.mjs): the forced cells as the released guide's own fill.sh prints them over the translation a7f9ac74938ac2fd… (all of the seat's roots in one cut). By AI agents, Wed Nov 11 2026. No macro, syntax, notation, axiom, sorry.
-/
import Derived.Test.YtbiifkfbkaejlaaGreatChecked
import GoSem.Claim
import GoSem.ClaimJoined
import GoSem.ClaimMapViews
import Derived.JoinedTies
import Derived.KernelRfl
namespace Go.Proofs.YtbiifkfbkaejlaaGreat
/- THE CELL 'sum', in the pinned program and in every row, IS THE sha256 OF THE DUMP (.gsa) THAT YtbiifkfbkaejlaaGreatProg.lean LOADS. Nothing in Lean hashes anything: it is a label: what it is worth is what the hold of that sum in a sandbox is worth. -/
noncomputable def Tryz.pinned : Pinned := { name := "ytbiifkfbkaejlaagreat", sum := "a7f9ac74938ac2fddb01db76fd3b910d4a0aedd3e2114a77b8ad778dc4ba23d5", checked := Tryz.checked }
namespace Rows
def none {H : Type} : Left H := { results := [], args := [] }

/-- 'robuststatslaw21.SregressBoundsAreLeast': WHATEVER THE INPUT: true; the input reads as it did. -/
def sregressBoundsAreLeastSpec : ChangeSpec := { name := "sregressBoundsAreLeast", fn := fun _ => fun
  | [d1, d2, d3] => { results := [.lit (.bool true)], args := [d1, d2, d3] }
  | _ => none }
def sregressBoundsAreLeastRow : OpenClaim := { program := "ytbiifkfbkaejlaagreat", sum := "a7f9ac74938ac2fddb01db76fd3b910d4a0aedd3e2114a77b8ad778dc4ba23d5", func := "robuststats/robuststatslaw21.SregressBoundsAreLeast", spec := "sregressBoundsAreLeast", unfollowed := true, recurses := true, named := ["math/bits.overflowError"], apart := false }
def SregressBoundsAreLeastSaid : Prop := sregressBoundsAreLeastRow.holds Tryz.pinned (OpenSpec.ofChange sregressBoundsAreLeastSpec)

/-- ITS FALSE NEIGHBOUR: 'it returns false'. Refute it at one input. -/
def sregressBoundsAreLeastWrong : ChangeSpec := { name := "sregressBoundsAreLeast", fn := fun _ => fun
  | [d1, d2, d3] => { results := [.lit (.bool false)], args := [d1, d2, d3] }
  | _ => none }
def SregressBoundsAreLeastWrongFalsely : Prop := sregressBoundsAreLeastRow.holds Tryz.pinned (OpenSpec.ofChange sregressBoundsAreLeastWrong)

/-- 'robuststatslaw21.SregressCellsFillTheBox': WHATEVER THE INPUT: true; the input reads as it did. -/
def sregressCellsFillTheBoxSpec : ChangeSpec := { name := "sregressCellsFillTheBox", fn := fun _ => fun
  | [d1, d2, d3, d4] => { results := [.lit (.bool true)], args := [d1, d2, d3, d4] }
  | _ => none }
def sregressCellsFillTheBoxRow : OpenClaim := { program := "ytbiifkfbkaejlaagreat", sum := "a7f9ac74938ac2fddb01db76fd3b910d4a0aedd3e2114a77b8ad778dc4ba23d5", func := "robuststats/robuststatslaw21.SregressCellsFillTheBox", spec := "sregressCellsFillTheBox", unfollowed := true, recurses := true, named := ["math/bits.overflowError"], apart := false }
def SregressCellsFillTheBoxSaid : Prop := sregressCellsFillTheBoxRow.holds Tryz.pinned (OpenSpec.ofChange sregressCellsFillTheBoxSpec)

/-- ITS FALSE NEIGHBOUR: 'it returns false'. Refute it at one input. -/
def sregressCellsFillTheBoxWrong : ChangeSpec := { name := "sregressCellsFillTheBox", fn := fun _ => fun
  | [d1, d2, d3, d4] => { results := [.lit (.bool false)], args := [d1, d2, d3, d4] }
  | _ => none }
def SregressCellsFillTheBoxWrongFalsely : Prop := sregressCellsFillTheBoxRow.holds Tryz.pinned (OpenSpec.ofChange sregressCellsFillTheBoxWrong)

/-- 'robuststatslaw21.SregressRefusesArguments': WHATEVER THE INPUT: true; the input reads as it did. -/
def sregressRefusesArgumentsSpec : ChangeSpec := { name := "sregressRefusesArguments", fn := fun _ => fun
  | [d1, d2, d3, d4, d5, d6, d7] => { results := [.lit (.bool true)], args := [d1, d2, d3, d4, d5, d6, d7] }
  | _ => none }
def sregressRefusesArgumentsRow : OpenClaim := { program := "ytbiifkfbkaejlaagreat", sum := "a7f9ac74938ac2fddb01db76fd3b910d4a0aedd3e2114a77b8ad778dc4ba23d5", func := "robuststats/robuststatslaw21.SregressRefusesArguments", spec := "sregressRefusesArguments", unfollowed := true, recurses := true, named := ["math/bits.overflowError"], apart := false }
def SregressRefusesArgumentsSaid : Prop := sregressRefusesArgumentsRow.holds Tryz.pinned (OpenSpec.ofChange sregressRefusesArgumentsSpec)

/-- ITS FALSE NEIGHBOUR: 'it returns false'. Refute it at one input. -/
def sregressRefusesArgumentsWrong : ChangeSpec := { name := "sregressRefusesArguments", fn := fun _ => fun
  | [d1, d2, d3, d4, d5, d6, d7] => { results := [.lit (.bool false)], args := [d1, d2, d3, d4, d5, d6, d7] }
  | _ => none }
def SregressRefusesArgumentsWrongFalsely : Prop := sregressRefusesArgumentsRow.holds Tryz.pinned (OpenSpec.ofChange sregressRefusesArgumentsWrong)

/- THE SECOND FORM. 'bulk': how many values and letters a reading holds, each counted each time it is reached (what is shared counts as often as it is met; a slice's spare places count too). A statement '..UptoSaid' is the law's where the arguments, and the package variables that the reading takes, are together of bulk at most 1048576: NARROWER than '..Said'. Prove '..Said' where nothing that the law and all that it calls make is longer than what came in: it says more and counts as full. Else prove '..UptoSaid'. A law counts once. -/
mutual
def uptoBulk {H : Type} : DataW H → Nat
  | .lit (.string bytes) => bytes.length + 1
  | .lit _ => 1
  | .nil => 1
  | .ptr d => uptoBulk d + 1
  | .slice elems spare => uptoBulkAll elems + uptoBulkAll spare + 1
  | .agg parts => uptoBulkAll parts + 1
  | .iface _ d => uptoBulk d + 1
  | .map entries => uptoBulkEntries entries + 1
  | .held _ => 1
def uptoBulkAll {H : Type} : List (DataW H) → Nat
  | [] => 0
  | d :: r => uptoBulk d + uptoBulkAll r
def uptoBulkEntries {H : Type} : List (Lit × DataW H) → Nat
  | [] => 0
  | x :: r => uptoBulkEntry x + uptoBulkEntries r
def uptoBulkEntry {H : Type} : Lit × DataW H → Nat
  | (.string bytes, d) => bytes.length + uptoBulk d + 1
  | (_, d) => uptoBulk d + 1
 end
def uptoSmall : (H : Type) → List (DataW H) → Bool := fun _ ds => decide (uptoBulkAll ds ≤ 1048576)
def OpenSpec.upto (s : _root_.Go.ChangeSpec) : _root_.Go.OpenSpec := { _root_.Go.OpenSpec.ofChange s with cond := some uptoSmall }

/-- 'robuststatslaw21.SregressBoundsAreLeast', WHERE WHAT IT READS IS OF BULK AT MOST 1048576: true; the input reads as it did. -/
def sregressBoundsAreLeastUptoRow : OpenClaim := { program := "ytbiifkfbkaejlaagreat", sum := "a7f9ac74938ac2fddb01db76fd3b910d4a0aedd3e2114a77b8ad778dc4ba23d5", func := "robuststats/robuststatslaw21.SregressBoundsAreLeast", spec := "sregressBoundsAreLeast", unfollowed := true, recurses := true, named := ["math/bits.overflowError"], apart := false, narrowed := true }
def SregressBoundsAreLeastUptoSaid : Prop := sregressBoundsAreLeastUptoRow.holds Tryz.pinned (OpenSpec.upto sregressBoundsAreLeastSpec)

/-- 'robuststatslaw21.SregressCellsFillTheBox', WHERE WHAT IT READS IS OF BULK AT MOST 1048576: true; the input reads as it did. -/
def sregressCellsFillTheBoxUptoRow : OpenClaim := { program := "ytbiifkfbkaejlaagreat", sum := "a7f9ac74938ac2fddb01db76fd3b910d4a0aedd3e2114a77b8ad778dc4ba23d5", func := "robuststats/robuststatslaw21.SregressCellsFillTheBox", spec := "sregressCellsFillTheBox", unfollowed := true, recurses := true, named := ["math/bits.overflowError"], apart := false, narrowed := true }
def SregressCellsFillTheBoxUptoSaid : Prop := sregressCellsFillTheBoxUptoRow.holds Tryz.pinned (OpenSpec.upto sregressCellsFillTheBoxSpec)

/-- 'robuststatslaw21.SregressRefusesArguments', WHERE WHAT IT READS IS OF BULK AT MOST 1048576: true; the input reads as it did. -/
def sregressRefusesArgumentsUptoRow : OpenClaim := { program := "ytbiifkfbkaejlaagreat", sum := "a7f9ac74938ac2fddb01db76fd3b910d4a0aedd3e2114a77b8ad778dc4ba23d5", func := "robuststats/robuststatslaw21.SregressRefusesArguments", spec := "sregressRefusesArguments", unfollowed := true, recurses := true, named := ["math/bits.overflowError"], apart := false, narrowed := true }
def SregressRefusesArgumentsUptoSaid : Prop := sregressRefusesArgumentsUptoRow.holds Tryz.pinned (OpenSpec.upto sregressRefusesArgumentsSpec)

end Rows
end Go.Proofs.YtbiifkfbkaejlaaGreat
