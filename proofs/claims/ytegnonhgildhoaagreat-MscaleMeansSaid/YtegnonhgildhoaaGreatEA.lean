/- A slice compared with nil; a list that is read, appended to a slice of the call's own. -/
import Derived.Test.YtegnonhgildhoaaGreatE9
namespace Go.Proofs.YtegnonhgildhoaaGreat.E
open Go Go.RowKit
set_option linter.unusedVariables false
set_option linter.unusedSimpArgs false
section
variable {P : Program} {ops : Array Oper} {n : Nat} {X : Nat → Prop} {w0 : World} {D : Nat → Prop} {l l' l1 : Slots} {M M' M1 M2 : List Blk} {F F' : List Fact} {Q : Exit → Act → World → Prop} {ds L L' : List Nat}
theorem run_eqnil (d : Nat) {T e k c : Nat} {A : Option Addr} (hT : P.underlying T = some (.slice e)) (w : World) : (Op.equalIn (d + 1) T (.slice A k c) (.slice none 0 0)).run P w = .ok A.isNone w := by
  have hun : (underlying T).run P w = .ok (.slice e) w := by simp [underlying, program, Sem.run, hT]
  rw [Op.equalIn, Sem.run_bind, hun]
  cases A <;> rfl
theorem run_eqnil' {T e k c : Nat} {A : Option Addr} (hT : P.underlying T = some (.slice e)) (w : World) : (Op.equal T (.slice A k c) (.slice none 0 0)).run P w = .ok A.isNone w := run_eqnil 9999 hT w
theorem q_nileq {i T T' e k c : Nat} {x y : Operand} {A : Option Addr} (hop : (opOf ops i).op = .binOp .eql T x y T') (hx : rho l x = .slice A k c) (hy : rho l y = .slice none 0 0) (hT : P.underlying T = some (.slice e)) :
    ∀ w, Now M F w → (execOp (rho l) (opOf ops i)).run P w = .ok (.value (.bool A.isNone)) w := by
  intro w _
  have hr := run_eqnil' (k := k) (c := c) (A := A) hT w
  unfold execOp
  simp only [hop, hx, hy]
  simp [eqGuard, binOp, Sem.run_bind, Sem.run, hr, Result.andThen, pure]
theorem ot_ucat {o : Oper} {T e by_ : Nat} {x y : Operand} {go : Option GB} {zs xs : List Nat} {s : SA} (j : Nat) (M1 M2 : List Blk) (hF : pick F [j] = [fU s xs])
    (hM : M = M1 ++ (glM go (encU zs) e ++ M2)) (hkd : (knownOp l o.op && dstOk n o.dst) = true) (hop : o.op = .call { callee := .builtin .append, args := #[x, y], argTypes := #[T, T] })
    (hx : rho l x = sl (glS go) zs.length) (hy : rho l y = sl s xs.length) (hT : P.underlying T = some (.slice e)) (hi : (P.info? e).map (fun i => (i.size, i.bytes, i.zero)) = some (1, by_, some (.int .u32 0)))
    (hok : gOk 1 go zs.length) (hb : (zs.length + xs.length) * by_ ≤ 140737488355328) (h63 : zs.length + xs.length ≤ 140737488355328) :
    OT P n X w0 D o Q l M F (ι := Option GB) (fun g => gOk 1 g (zs ++ xs).length) (fun g => putL o.dst (sl (glS g) (zs ++ xs).length) l) (fun g => M1 ++ (glM g (encU (zs ++ xs)) e ++ M2)) (fun _ => F) := by
  by_cases h0 : xs.length = 0
  · have : xs = [] := List.length_eq_zero_iff.1 h0
    subst this
    intro a w hs K hK
    rw [Bool.and_eq_true] at hkd
    have hcap : zs.length ≤ (glS go).c := by
      cases go with
      | none => exact Nat.le_of_eq hok
      | some g => exact hok.2
    have hrun : (execOp (rho l) o).run P w = .ok (.value (sl (glS go) zs.length)) w := by
      unfold execOp
      simp only [hop, resolve, Sem.run_bind, invoke, builtin]
      show Sem.run P (do pure (Next.value (← Builtin.append_ #[T, T] o.type ((#[x, y] : Array Operand).map (rho l)))) : Sem Next) w = _
      have : (#[x, y] : Array Operand).map (rho l) = #[.slice (glS go).A zs.length (glS go).c, .slice s.A 0 s.c] := by simp [hx, hy, sl]
      rw [this]
      obtain ⟨inf, hinf, hq⟩ := Option.map_eq_some_iff.1 hi
      simp only [Prod.mk.injEq] at hq
      refine run_v ?_
      unfold sl
      generalize (glS go).A = B at *
      generalize (glS go).c = cp at *
      cases hA : s.A with
      | none => cases B <;> simp [Builtin.append_, run_underlying hT, sizeOf, typeInfo, hinf, Builtin.lenOf, run_firstCells_none, hcap, storeCells]
      | some ad => cases B <;> simp [Builtin.append_, run_underlying hT, sizeOf, typeInfo, hinf, hq.1, Builtin.lenOf, Builtin.firstCells, loadCells, loadCellsFrom, hcap, storeCells]
    unfold Oper.wp
    rw [hs.exec hkd.1, hrun, Oper.upon_value]
    have h1 := hs.put hkd.2 (sl (glS go) zs.length) hs.mem
    exact hK go _ _ (by simpa using hok) (by simpa [hM] using h1)
  · have hA : ∀ w, Now M F w → s.A = some s.ad := fun w hw => ((hw.nowP hF (fU s xs) (by simp)).2 0 (by omega)).1
    intro a w hs K hK
    have hA' := hA w hs.mem.toNow
    have h := OT.app (P := P) (n := n) (X := X) (w0 := w0) (D := D) (F := F) (Q := Q) (M := M) (l := l) (o := o) (type := 0) (go := go) (cs := encU zs) (n1 := zs.length) (new := (encU xs).toList) (ad := s.ad) (k := xs.length) (c := s.c) (z := .int .u32 0) M1 M2 hM hkd hop hx (by rw [hy, sl, hA']) hT hi rfl (by rw [encU_size, Nat.mul_one]) (by rw [Array.length_toList, encU_size, Nat.mul_one])
      (fun w hw j v hj => by
        have hlt : j < xs.length := by have := (List.getElem?_eq_some_iff.1 hj).1; simpa [encU] using this
        have hc := ((hw.nowP hF (fU s xs) (by simp)).2 j hlt).2.2
        rw [hc]
        have := encU_get hlt
        simp only [Array.getElem?_toList] at hj
        rw [hj] at this; exact this.symm)
      (fun u hu => by simp [encU] at hu; obtain ⟨q, _, rfl⟩ := hu; rfl) hok (by omega) hb h63
    refine h a w hs K (fun g a' w' hg hst => hK (some g) a' w' (by simpa using hg) ?_)
    simp only [Array.toArray_toList, encU_app] at hst
    simpa using hst
end
end Go.Proofs.YtegnonhgildhoaaGreat.E
