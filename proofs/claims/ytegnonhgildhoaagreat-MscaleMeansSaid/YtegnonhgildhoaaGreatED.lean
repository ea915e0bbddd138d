/- The newest blocks dropped ahead of code. -/
import Derived.Test.YtegnonhgildhoaaGreatEC
namespace Go.Proofs.YtegnonhgildhoaaGreat.E
open Go Go.RowKit
set_option linter.unusedVariables false
/-! side goals, by the tactics that settle them -/
theorem k_ {p : Prop} (h : p := by kernel_rfl) : p := h
theorem y_ {p : Prop} (h : p := by first | assumption | exact Lb_toL _ | omega | (simp; done) | (simp; omega)) : p := h
theorem x_ {p : Prop} (h : p := by first | omega | (simp; done) | (simp; omega)) : p := h
theorem v1_ {p : Prop} (h : p := by first | rfl | (rw [e_1]; done) | (rw [← e_1]; done) | (rw [e_1]; rfl) | (rw [← e_1]; rfl) | (simp only [e_1]; done) | (simp only [e_1]; rfl) | (simp only [← e_1]; done) | (simp only [← e_1]; rfl) | (simp only [zneg0, num0, zden0]; done) | (simp only [e_1, zneg0, num0, zden0]; done) | (simp only [e_1, encQ_zero]; done) | (simp only [e_1, encQ_zero]; rfl)) : p := h
theorem v2_ {p : Prop} (h : p := by first | rfl | (rw [e_1, e_2]; done) | (rw [← e_1, ← e_2]; done) | (rw [e_1, e_2]; rfl) | (rw [← e_1, ← e_2]; rfl) | (simp only [e_1, e_2]; done) | (simp only [e_1, e_2]; rfl) | (simp only [← e_1, ← e_2]; done) | (simp only [← e_1, ← e_2]; rfl) | (simp only [zneg0, num0, zden0]; done) | (simp only [e_1, e_2, zneg0, num0, zden0]; done) | (simp only [e_1, e_2, encQ_zero]; done) | (simp only [e_1, e_2, encQ_zero]; rfl)) : p := h
theorem v3_ {p : Prop} (h : p := by first | rfl | (rw [e_1, e_2, e_3]; done) | (rw [← e_1, ← e_2, ← e_3]; done) | (rw [e_1, e_2, e_3]; rfl) | (rw [← e_1, ← e_2, ← e_3]; rfl) | (simp only [e_1, e_2, e_3]; done) | (simp only [e_1, e_2, e_3]; rfl) | (simp only [← e_1, ← e_2, ← e_3]; done) | (simp only [← e_1, ← e_2, ← e_3]; rfl) | (simp only [zneg0, num0, zden0]; done) | (simp only [e_1, e_2, e_3, zneg0, num0, zden0]; done) | (simp only [e_1, e_2, e_3, encQ_zero]; done) | (simp only [e_1, e_2, e_3, encQ_zero]; rfl)) : p := h
def no (k : Nat) : List (Option Nat) := List.replicate k none
def pt (b : Nat) : Value := .pointer (some ⟨b, 0, none⟩)
section
variable {P : Program} {ops : Array Oper} {n : Nat} {X : Nat → Prop} {w0 : World} {D : Nat → Prop} {l l' l1 : Slots} {M M' : List Blk} {F F' : List Fact} {Q : Exit → Act → World → Prop}
theorem RN.bq {ops : Array Oper} {k k' : Nat} (mis : List (Option Nat)) (ts : List Nat) (zs : List Nat) (h : pruneN ts (batN P ops n mis k l M []) = some (k', l', M, dup zs)) (r : RN P n X w0 D ops Q k' l' M F) : RN P n X w0 D ops Q k l M F := RN.bat mis ts zs h r
theorem RN.fin {ops : Array Oper} {k : Nat} {y : Code} (hk : Nat.ble ops.size k = true) (h : J P n X w0 D y Q l M F) : RN P n X w0 D ops (Exit.then (y.wp P Q) Q) k l M F := RN.done hk (KN.next h)
theorem J.sreg {ops : Array Oper} {id : Nat} {y : Code} (h : RN P n X w0 D ops (Exit.then (y.wp P Q) Q) 0 l M F) : J P n X w0 D (.seq (.region id ops false) y) Q l M F := J.seq (J.regN h)
theorem J.dropF {c : Code} (k : Nat) (h : J P n X w0 D c Q l (M.drop k) F) : J P n X w0 D c Q l M F := fun a w hs => h a w (hs.sub (SubL.refl l) (List.drop_sublist k M) (fun p hp => hp))
theorem KN.share (m : Nat) {b : Nat} {o : Obj} (hm : M[m]? = some (b, o)) (hM : dropN M m = M') (r : KN n X w0 D Q l M' (fBlk b o :: F)) : KN n X w0 D Q l M F :=
  fun a w hs => r a w ⟨hs.defers, hs.size, hs.tmps, hM ▸ hs.mem.share hm⟩
theorem KN.turn (t : Nat) {v v' : Value} (ht : look l t = some v) (hv : v = v') (k : KN n X w0 D Q ((t, v') :: l) M F) : KN n X w0 D Q l M F := fun a w hs => k a w (hs.turn t ht hv)
theorem allRat_cons {p : PR} {ps : List PR} {w : World} (h : fRat p.1 p.2 w) (ht : allRat ps w) : allRat (p :: ps) w := fun q hq => by
  rcases List.mem_cons.1 hq with rfl | hq
  · exact h
  · exact ht q hq
end
end Go.Proofs.YtegnonhgildhoaaGreat.E
