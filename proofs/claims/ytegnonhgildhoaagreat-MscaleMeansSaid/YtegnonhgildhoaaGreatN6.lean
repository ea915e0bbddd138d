/- The bytes of a constant text. -/
import Derived.Test.YtegnonhgildhoaaGreatE9
import Derived.Test.YtegnonhgildhoaaGreatN5
namespace Go.Proofs.YtegnonhgildhoaaGreat.E
open Go Go.RowKit
set_option linter.unusedVariables false
def regOps : Code → Nat → Option (Array Oper)
  | .region r ops _, k => if r = k then some ops else none
  | .seq a b, k => (regOps a k).orElse (fun _ => regOps b k)
  | .cond _ a b, k => (regOps a k).orElse (fun _ => regOps b k)
  | .block _ a, k => regOps a k
  | .loop a, k => regOps a k
  | _, _ => none
def idxOperand (f : Func) (r i : Nat) : Operand := match f.body with
  | some c => match regOps c r with
    | some ops => match (opOf ops i).op with
      | .index _ x _ => x
      | _ => .tmp 0
    | none => .tmp 0
  | none => .tmp 0
def strAt (x : Operand) (m : Nat) : Option Nat := match x with
  | .const (.string s) => (s[m]?).map (·.toNat)
  | _ => none
theorem uw8b {e : Int} (n : Nat) (h : e = (n : Nat)) (hb : n < 256) : IntKind.u8.wrap e = (n : Nat) := by
  rw [h]; simp [IntKind.wrap, IntKind.signed, IntKind.bits]; omega
section
variable {P : Program} {ops : Array Oper} {n : Nat} {X : Nat → Prop} {w0 : World} {D : Nat → Prop} {l l' l1 : Slots} {M M' M1 M2 : List Blk} {F F' : List Fact} {Q : Exit → Act → World → Prop}
theorem q_sidx {i t m v : Nat} {x ix : Operand} {K : IntKind} {i0 : Int} (hop : (opOf ops i).op = .index t x ix) (hs : strAt x m = some v) (hix : rho l ix = .int K i0) (ht : P.underlying t = some .string) (hi : i0 = (m : Nat)) :
    ∀ w, Now M F w → (execOp (rho l) (opOf ops i)).run P w = .ok (.value (.int .u8 (v : Nat))) w := by
  intro w hw
  cases x with
  | const c =>
    cases c with
    | string s =>
      simp only [strAt, Option.map_eq_some_iff] at hs
      obtain ⟨b, hb, rfl⟩ := hs
      have h0 : (0 : Int) ≤ i0 := by omega
      have h1 : i0.toNat = m := by omega
      unfold execOp
      simp only [hop, hix]
      refine run_v ?_
      have hun : (underlying t).run P w = .ok .string w := by simp [underlying, program, Sem.run, ht]
      have hb' : s[m]? = some b := hb
      simp [Instr.index, asIntOf, Sem.run_bind, Sem.run, hun, Result.andThen, rho, h0, h1, hb', pure]
    | _ => simp [strAt] at hs
  | _ => simp [strAt] at hs
end
end Go.Proofs.YtegnonhgildhoaaGreat.E
