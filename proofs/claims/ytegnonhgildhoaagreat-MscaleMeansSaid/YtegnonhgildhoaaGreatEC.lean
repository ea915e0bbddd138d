/- Two operations that may come up in either order. -/
import Derived.Test.YtegnonhgildhoaaGreatEA
namespace Go.Proofs.YtegnonhgildhoaaGreat.E
open Go Go.RowKit
set_option linter.unusedVariables false
section
variable {P : Program} {ops : Array Oper} {n : Nat} {X : Nat → Prop} {w0 : World} {D : Nat → Prop} {l l' l1 : Slots} {M M' : List Blk} {F F' : List Fact} {Q : Exit → Act → World → Prop} {ds L L' : List Nat}
/-- Operation i is taken next. -/
def RDi (P : Program) (n : Nat) (X : Nat → Prop) (w0 : World) (D : Nat → Prop) (ops : Array Oper) (Q : Exit → Act → World → Prop) (ds L : List Nat) (i : Nat) (l : Slots) (M : List Blk) (F : List Fact) : Prop :=
  ∀ a w k, L.length + 1 + k = ops.size → Clo ops (lst ops.size L) → i ∈ Region.ready .any ops (lst ops.size L) → St n X w0 D l M F a w →
    wpOp P ops Q i (fun a' w' => (i ∉ ds → Now M F w → Now M F w') ∧ WA P ops Q ds (Now M F) k ((lst ops.size L).setIfInBounds i true) a' w') a w
theorem RDi.op {i : Nat} {ι : Type} {φ : ι → Prop} {l' : ι → Slots} {M' : ι → List Blk} {F' : ι → List Fact} (hok : regOk ops ds = true) (hw : wantedL ops l (opOf ops i) = some true) (h : OT P n X w0 D (opOf ops i) Q l M F φ l' M' F')
    (hsub : ∀ x, (∀ m ∈ M, m ∈ M' x) ∧ ∀ p ∈ F, p ∈ F' x) (r : ∀ x, φ x → RD P n X w0 D ops Q ds (i :: L) (l' x) (M' x) (F' x)) : RDi P n X w0 D ops Q ds L i l M F := fun a w k hk hc hready hs => by
  simp only [regOk, Bool.and_eq_true] at hok
  have hlt := readyL_lt (ready_iff.1 hready)
  have ho : ops[i]? = some (opOf ops i) := by simp [opOf, hlt]
  unfold wpOp
  rw [ho]
  simp only [hs.wanted hw, if_true]
  refine .inl (h a w hs _ (fun x a' w' hx hs' => ?_))
  have hm : Now M F w' := hs'.mem.toNow.sub (hsub x).1 (hsub x).2
  refine ⟨fun _ _ => hm, ?_⟩
  refine WA_strong (tailOk_spec hok.2) (fun w hw => hw.sub (hsub x).1 (hsub x).2) k _ a' w' (hc.set hready) hs'.mem.toNow ?_
  rw [lst_set]
  exact r x hx a' w' k (by simpa using hk) (lst_set ▸ hc.set hready) hs'
theorem RDi.call {i : Nat} {f : FuncId} {args : Array Value} {Fin : List Fact} {ι : Type} {val : ι → Value} {φ : ι → Prop} {Fout : ι → List Fact} (spec : Spec P f args Fin val φ Fout) (is : List Nat) (hok : regOk ops ds = true)
    (hk : (knownOp l (opOf ops i).op && dstOk n (opOf ops i).dst) = true) (hw : wantedL ops l (opOf ops i) = some true) (hc : callOf l (opOf ops i).op = some (f, args)) (hF : pick F is = Fin)
    (r : ∀ x, φ x → RD P n X w0 D ops Q ds (i :: L) (putL (opOf ops i).dst (val x) l) M (Fout x ++ F)) : RDi P n X w0 D ops Q ds L i l M F :=
  RDi.op hok hw (OT.call spec is ⟨hk, hc⟩ hF) (fun x => ⟨fun _ hm => hm, fun p hp => List.mem_append_right _ hp⟩) r
theorem RDi.new {i : Nat} (v : Nat → Value) (o' : Obj) (hok : regOk ops ds = true) (hk : (knownOp l (opOf ops i).op && dstOk n (opOf ops i).dst) = true) (hw : wantedL ops l (opOf ops i) = some true)
    (hrun : ∀ w, (execOp (rho l) (opOf ops i)).run P w = .ok (.value (v w.heap.size)) (w.alloc o')) (r : ∀ b, RD P n X w0 D ops Q ds (i :: L) (putL (opOf ops i).dst (v b) l) ((b, o') :: M) F) : RDi P n X w0 D ops Q ds L i l M F :=
  RDi.op hok hw (OT.new v o' hk hrun) (fun b => ⟨fun _ hm => List.mem_cons_of_mem _ hm, fun p hp => hp⟩) (fun b _ => r b)
/-- The newest blocks are no longer asked for. -/
theorem KN.dropF (k : Nat) (h : KN n X w0 D Q l (M.drop k) F) : KN n X w0 D Q l M F := fun a w hs => h a w (hs.sub (SubL.refl l) (List.drop_sublist k M) (fun p hp => hp))
end
end Go.Proofs.YtegnonhgildhoaaGreat.E
