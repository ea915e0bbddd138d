/- An own array that grows from now on. -/
import Derived.Test.YtegnonhgildhoaaGreatEA
import Derived.Test.YtegnonhgildhoaaGreatN0
namespace Go.Proofs.YtegnonhgildhoaaGreat.E
open Go Go.RowKit
set_option linter.unusedVariables false
section
variable {P : Program} {ops : Array Oper} {n : Nat} {X : Nat → Prop} {w0 : World} {D : Nat → Prop} {l l' l1 : Slots} {M M' : List Blk} {F F' : List Fact} {Q : Exit → Act → World → Prop}
theorem glM_own (b k e : Nat) (c : Array Value) : glM (some ⟨b, k, #[]⟩) c e = [(b, .cells c e (0, 0))] := by
  simp [glM]
theorem RN.toGrow {k b e cap : Nat} {c : Array Value} (M1 M2 : List Blk) (hM : M = M1 ++ ([(b, .cells c e (0, 0))] ++ M2)) (r : RN P n X w0 D ops Q k l (M1 ++ (glM (some ⟨b, cap, #[]⟩) c e ++ M2)) F) : RN P n X w0 D ops Q k l M F := by
  rw [hM, ← glM_own b cap e c]; exact r
theorem gOk_own (b k : Nat) : gOk 1 (some ⟨b, k, #[]⟩) k := ⟨by simp, Nat.le_refl _⟩
theorem fU_nil0 : ∀ w, fU saNil (toL 0) w := by rw [toL_zero]; exact fU_nil
end
end Go.Proofs.YtegnonhgildhoaaGreat.E
