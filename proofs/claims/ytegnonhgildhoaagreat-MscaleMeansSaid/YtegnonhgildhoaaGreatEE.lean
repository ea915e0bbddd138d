/- Several operations that may come up; blocks in another order. -/
import Derived.Test.YtegnonhgildhoaaGreatED
namespace Go.Proofs.YtegnonhgildhoaaGreat.E
open Go Go.RowKit
set_option linter.unusedVariables false
section
variable {P : Program} {ops : Array Oper} {n : Nat} {X : Nat → Prop} {w0 : World} {D : Nat → Prop} {l l' l1 : Slots} {M M' : List Blk} {F F' : List Fact} {Q : Exit → Act → World → Prop} {ds L L' : List Nat}
def AllI : List Nat → (Nat → Prop) → Prop
  | [], _ => True
  | i :: r, p => p i ∧ AllI r p
theorem AllI.mem {is : List Nat} {p : Nat → Prop} (h : AllI is p) : ∀ i ∈ is, p i := by
  induction is with
  | nil => intro i hi; cases hi
  | cons j r ih =>
    intro i hi
    rcases List.mem_cons.1 hi with rfl | hi
    · exact h.1
    · exact ih h.2 i hi
theorem RD.forkL {is : List Nat} (hr : (List.range ops.size).filter (readyL ops L) = is) (hne : is.isEmpty = false) (hi : Nat.blt L.length ops.size = true) (h : AllI is (fun i => RDi P n X w0 D ops Q ds L i l M F)) : RD P n X w0 D ops Q ds L l M F := fun a w fuel hf hc hs => by
  rw [Nat.blt_eq] at hi
  obtain ⟨k, rfl, hk⟩ := len_le hf hi
  have hr' : Region.ready .any ops (lst ops.size L) = is := by rw [ready_list, hr]
  refine ⟨fun h0 => (by rw [h0] at hr'; subst hr'; cases hne), fun q hq => ?_⟩
  have hq' := hq
  rw [hr'] at hq'
  exact h.mem q hq' a w k hk hc hq hs
end
end Go.Proofs.YtegnonhgildhoaaGreat.E
