/- Contracts: a call by its contract, a new block, a contract out of a body, what is returned, loops. -/
import Derived.Test.YtegnonhgildhoaaGreatE3
import Derived.Laws.Sem
namespace Go.Proofs.YtegnonhgildhoaaGreat.E
open Go Go.RowKit
set_option linter.unusedVariables false
set_option linter.unusedSimpArgs false
/-- Called in whatever world in which the facts of Fin hold off X, f returns a value 'val x' with 'φ x'; nothing that was there is written; the facts 'Fout x' hold off X. -/
structure Spec (P : Program) (f : FuncId) (args : Array Value) (Fin : List Fact) {ι : Type} (val : ι → Value) (φ : ι → Prop) (Fout : ι → List Fact) : Prop where
  enters : ∀ w, (callFunc f args).run P w = .ok (.enter f args) w
  calls : ∀ (X : Nat → Prop) (w : World), (∀ k, X k → k < w.heap.size) → (∀ p ∈ Fin, Rob X p w) →
    Calls P f args w (fun e w' => ∃ x, e = .returned (val x) ∧ φ x ∧ Frm (fun _ => False) w w' ∧ ∀ p ∈ Fout x, Rob X p w')
/-- As Spec, and the call owns the blocks of Min, whose contents it may turn; it leaves Mout. -/
structure SpecM (P : Program) (f : FuncId) (args : Array Value) (Min : List Blk) (Fin : List Fact) {ι : Type} (val : ι → Value) (φ : ι → Prop) (Mout : ι → List Blk) (Fout : ι → List Fact) : Prop where
  enters : ∀ w, (callFunc f args).run P w = .ok (.enter f args) w
  calls : ∀ (X : Nat → Prop) (w : World), (∀ k, X k → k < w.heap.size ∧ ¬ keys Min k) → (∀ m ∈ Min, w.heap[m.1]? = some m.2) → (Min.map (·.1)).Nodup → (∀ p ∈ Fin, Rob (fun k => X k ∨ keys Min k) p w) →
    Calls P f args w (fun e w' => ∃ x, e = .returned (val x) ∧ φ x ∧ Mem X w (keys Min) (Mout x) (Fout x) w')
def callOf (l : Slots) : Op → Option (FuncId × Array Value)
  | .call c => match c.callee with
    | .value x => match rho l x with
      | .func (.func f) first captured => some (f, (first.toList ++ c.args.toList.map (rho l) ++ captured.toList).toArray)
      | _ => none
    | _ => none
  | _ => none
section
variable {P : Program} {ops : Array Oper} {n : Nat} {X : Nat → Prop} {w0 : World} {D : Nat → Prop} {l l' l1 : Slots} {M M' : List Blk} {F F' : List Fact} {Q : Exit → Act → World → Prop} {ds L L' : List Nat}
theorem callOf_run {o : Oper} {f : FuncId} {args : Array Value} (h : callOf l o.op = some (f, args)) (w : World) (he : (callFunc f args).run P w = .ok (.enter f args) w) : (execOp (rho l) o).run P w = .ok (.enter f args) w := by
  unfold callOf at h
  split at h
  · rename_i c hop
    split at h
    · rename_i x hcal
      split at h
      · rename_i g first captured hv
        simp only [Option.some.injEq, Prod.mk.injEq] at h
        obtain ⟨rfl, rfl⟩ := h
        unfold execOp
        simp only [hop, resolve, hcal, hv, Deferred.ofValue, Sem.run_bind, invoke]
        have : first ++ c.args.map (rho l) ++ captured = (first.toList ++ c.args.toList.map (rho l) ++ captured.toList).toArray := by
          apply Array.ext'; simp
        show Sem.run P (callFunc g (first ++ c.args.map (rho l) ++ captured)) w = _
        rw [this]; exact he
      · cases h
    · cases h
  · cases h
theorem Mem.call {w w' : World} {G : List Fact} (h : Mem X w0 D M F w) (hf : Frm (fun _ => False) w w') (hG : ∀ p ∈ G, Rob (fun k => X k ∨ keys M k) p w') : Mem X w0 D M (G ++ F) w' := by
  have hkeep : ∀ k, k < w.heap.size → w'.heap[k]? = w.heap[k]? := fun k hk => hf.off.2 k hk (fun h => h)
  have hlt : ∀ m ∈ M, m.1 < w.heap.size := fun m hm => (Array.getElem?_eq_some_iff.1 (h.blk m hm)).1
  refine ⟨h.frm.trans ⟨hf.os, hf.tape, hf.output, hf.off.mono (fun _ h => h.elim)⟩, fun m hm => by rw [hkeep _ (hlt m hm)]; exact h.blk m hm, h.own, h.nodup, h.xs, fun p hp => ?_⟩
  rcases List.mem_append.1 hp with hp | hp
  · exact hG p hp
  · exact (h.facts p hp).step (hf.off.mono (fun _ h => h.elim)) (fun k hk => .inl hk)
theorem OT.call {f : FuncId} {args : Array Value} {Fin : List Fact} {ι : Type} {val : ι → Value} {φ : ι → Prop} {Fout : ι → List Fact} (spec : Spec P f args Fin val φ Fout) (is : List Nat) {o : Oper}
    (hc : (knownOp l o.op && dstOk n o.dst) = true ∧ callOf l o.op = some (f, args)) (hF : pick F is = Fin) :
    OT P n X w0 D o Q l M F φ (fun x => putL o.dst (val x) l) (fun _ => M) (fun x => Fout x ++ F) := by
  intro a w hs K hK
  obtain ⟨hkd, hc⟩ := hc
  rw [Bool.and_eq_true] at hkd
  unfold Oper.wp
  rw [hs.exec hkd.1, callOf_run hc w (spec.enters w), Oper.upon_enter]
  have hx : ∀ k, X k ∨ keys M k → k < w.heap.size := by
    rintro k (hk | hk)
    · exact Nat.lt_of_lt_of_le (hs.mem.xs k hk).1 hs.mem.frm.off.1
    · obtain ⟨m, hm, rfl⟩ := List.mem_map.1 hk
      exact (Array.getElem?_eq_some_iff.1 (hs.mem.blk m hm)).1
  refine (spec.calls (fun k => X k ∨ keys M k) w hx (hF ▸ pick_rob hs.mem.facts is)).mono ?_
  rintro e w' ⟨x, rfl, hφ, hf, hG⟩
  exact hK x _ w' hφ (hs.put hkd.2 _ (hs.mem.call hf hG))
theorem OT.new {o : Oper} (v : Nat → Value) (o' : Obj) (hk : (knownOp l o.op && dstOk n o.dst) = true) (hr : ∀ w, (execOp (rho l) o).run P w = .ok (.value (v w.heap.size)) (w.alloc o')) :
    OT P n X w0 D o Q l M F (ι := Nat) (fun _ => True) (fun b => putL o.dst (v b) l) (fun b => (b, o') :: M) (fun _ => F) := by
  intro a w hs K hK
  rw [Bool.and_eq_true] at hk
  unfold Oper.wp
  rw [hs.exec hk.1, hr w, Oper.upon_value]
  exact hK w.heap.size _ _ trivial (hs.put hk.2 _ (hs.mem.alloc o'))
/-- An operation that leaves a value, by what is known of the memory. -/
theorem OT.val {o : Oper} (v : Value) (hk : (knownOp l o.op && dstOk n o.dst) = true) (hr : ∀ w, Now M F w → (execOp (rho l) o).run P w = .ok (.value v) w) :
    OT P n X w0 D o Q l M F (ι := Unit) (fun _ => True) (fun _ => putL o.dst v l) (fun _ => M) (fun _ => F) := by
  intro a w hs K hK
  rw [Bool.and_eq_true] at hk
  unfold Oper.wp
  rw [hs.exec hk.1, hr w hs.mem.toNow, Oper.upon_value]
  exact hK () _ _ trivial (hs.put hk.2 _ hs.mem)
theorem RN.call {k : Nat} {f : FuncId} {args : Array Value} {Fin : List Fact} {ι : Type} {val : ι → Value} {φ : ι → Prop} {Fout : ι → List Fact} (spec : Spec P f args Fin val φ Fout) (is : List Nat)
    (hk : (Nat.blt k ops.size && knownOp l (opOf ops k).op && dstOk n (opOf ops k).dst) = true) (hw : wantedL ops l (opOf ops k) = some true) (hc : callOf l (opOf ops k).op = some (f, args)) (hF : pick F is = Fin)
    (r : ∀ x, φ x → RN P n X w0 D ops Q (k + 1) (putL (opOf ops k).dst (val x) l) M (Fout x ++ F)) : RN P n X w0 D ops Q k l M F := by
  simp only [Bool.and_eq_true] at hk
  exact RN.op hk.1.1 hw (OT.call spec is ⟨by simp [hk.1.2, hk.2], hc⟩ hF) r
theorem RN.new {k : Nat} (v : Nat → Value) (o' : Obj) (hk : (Nat.blt k ops.size && knownOp l (opOf ops k).op && dstOk n (opOf ops k).dst) = true) (hw : wantedL ops l (opOf ops k) = some true)
    (hr : ∀ w, (execOp (rho l) (opOf ops k)).run P w = .ok (.value (v w.heap.size)) (w.alloc o')) (r : ∀ b, RN P n X w0 D ops Q (k + 1) (putL (opOf ops k).dst (v b) l) ((b, o') :: M) F) : RN P n X w0 D ops Q k l M F := by
  simp only [Bool.and_eq_true] at hk
  exact RN.op hk.1.1 hw (OT.new v o' (by simp [hk.1.2, hk.2]) hr) (fun b _ => r b)
theorem RN.val {k : Nat} (v : Value) (hk : (Nat.blt k ops.size && knownOp l (opOf ops k).op && dstOk n (opOf ops k).dst) = true) (hw : wantedL ops l (opOf ops k) = some true)
    (hr : ∀ w, Now M F w → (execOp (rho l) (opOf ops k)).run P w = .ok (.value v) w) (r : RN P n X w0 D ops Q (k + 1) (putL (opOf ops k).dst v l) M F) : RN P n X w0 D ops Q k l M F := by
  simp only [Bool.and_eq_true] at hk
  exact RN.op hk.1.1 hw (OT.val v (by simp [hk.1.2, hk.2]) hr) (fun _ _ => r)
theorem RN.split {k : Nat} (t : Nat) (b : Bool) (hb : look l t = some (.bool b)) (ht : b = true → RN P n X w0 D ops Q k ((t, .bool true) :: l) M F) (hf : b = false → RN P n X w0 D ops Q k ((t, .bool false) :: l) M F) : RN P n X w0 D ops Q k l M F := by
  have key : ∀ c, b = c → RN P n X w0 D ops Q k ((t, .bool c) :: l) M F → RN P n X w0 D ops Q k l M F := fun c e h a w hs =>
    h a w ⟨hs.defers, hs.size, fun u v hu => by
      simp only [look] at hu
      cases hbt : Nat.beq t u with
      | true => rw [hbt, cond_true] at hu; rw [← Nat.eq_of_beq_eq_true hbt]; exact hs.tmps t v (by rw [hb, e]; exact hu)
      | false => rw [hbt, cond_false] at hu; exact hs.tmps u v hu, hs.mem⟩
  cases b with
  | true => exact key true rfl (ht rfl)
  | false => exact key false rfl (hf rfl)
theorem RD.split {t : Nat} (b : Bool) (hb : look l t = some (.bool b)) (ht : b = true → RD P n X w0 D ops Q ds L ((t, .bool true) :: l) M F) (hf : b = false → RD P n X w0 D ops Q ds L ((t, .bool false) :: l) M F) : RD P n X w0 D ops Q ds L l M F := by
  have key : ∀ c, b = c → RD P n X w0 D ops Q ds L ((t, .bool c) :: l) M F → RD P n X w0 D ops Q ds L l M F := fun c e h a w fuel h1 h2 hs =>
    h a w fuel h1 h2 ⟨hs.defers, hs.size, fun u v hu => by
      simp only [look] at hu
      cases hbt : Nat.beq t u with
      | true => rw [hbt, cond_true] at hu; rw [← Nat.eq_of_beq_eq_true hbt]; exact hs.tmps t v (by rw [hb, e]; exact hu)
      | false => rw [hbt, cond_false] at hu; exact hs.tmps u v hu, hs.mem⟩
  cases b with
  | true => exact key true rfl (ht rfl)
  | false => exact key false rfl (hf rfl)
theorem RD.call {i : Nat} {f : FuncId} {args : Array Value} {Fin : List Fact} {ι : Type} {val : ι → Value} {φ : ι → Prop} {Fout : ι → List Fact} (spec : Spec P f args Fin val φ Fout) (is : List Nat) (hok : regOk ops ds = true)
    (hr : (List.range ops.size).filter (readyL ops L) = [i]) (hi : (ds.elem i || !Nat.blt L.length ops.size || !knownOp l (opOf ops i).op || !dstOk n (opOf ops i).dst) = false) (hw : wantedL ops l (opOf ops i) = some true)
    (hc : callOf l (opOf ops i).op = some (f, args)) (hF : pick F is = Fin)
    (r : ∀ x, φ x → RD P n X w0 D ops Q ds (i :: L) (putL (opOf ops i).dst (val x) l) M (Fout x ++ F)) : RD P n X w0 D ops Q ds L l M F := by
  simp only [Bool.or_eq_false_iff, Bool.not_eq_false'] at hi
  exact RD.op hok hr (by rw [hi.1.1.1, hi.1.1.2]; rfl) hw (OT.call spec is ⟨by simp [hi.1.2, hi.2], hc⟩ hF) (fun x => ⟨fun _ hm => hm, fun p hp => List.mem_append_right _ hp⟩) r
theorem RD.new {i : Nat} (v : Nat → Value) (o' : Obj) (hok : regOk ops ds = true)
    (hr : (List.range ops.size).filter (readyL ops L) = [i]) (hi : (ds.elem i || !Nat.blt L.length ops.size || !knownOp l (opOf ops i).op || !dstOk n (opOf ops i).dst) = false) (hw : wantedL ops l (opOf ops i) = some true)
    (hrun : ∀ w, (execOp (rho l) (opOf ops i)).run P w = .ok (.value (v w.heap.size)) (w.alloc o')) (r : ∀ b, RD P n X w0 D ops Q ds (i :: L) (putL (opOf ops i).dst (v b) l) ((b, o') :: M) F) : RD P n X w0 D ops Q ds L l M F := by
  simp only [Bool.or_eq_false_iff, Bool.not_eq_false'] at hi
  exact RD.op hok hr (by rw [hi.1.1.1, hi.1.1.2]; rfl) hw (OT.new v o' (by simp [hi.1.2, hi.2]) hrun) (fun b => ⟨fun _ hm => List.mem_cons_of_mem _ hm, fun p hp => hp⟩) (fun b _ => r b)
/-- A quiet operation by what is known of the memory, taken first. -/
theorem RD.val [NoPanic Q] {i : Nat} (v : Value) (hok : regOk ops ds = true) (hm : (mayTake ops ds L i && knownOp l (opOf ops i).op && dstOk n (opOf ops i).dst) = true) (hw : wantedL ops l (opOf ops i) = some true)
    (hr : ∀ w, Now M F w → (execOp (rho l) (opOf ops i)).run P w = .ok (.value v) w) (r : RD P n X w0 D ops Q ds (i :: L) (putL (opOf ops i).dst v l) M F) : RD P n X w0 D ops Q ds L l M F := by
  simp only [Bool.and_eq_true] at hm
  simp only [regOk, Bool.and_eq_true] at hok
  have hlt : i < ops.size := by
    have := hm.1.1
    simp only [mayTake, Bool.and_eq_true] at this
    exact readyL_lt this.1.1.1
  exact RD.take1 hok.1 hok.2 hm.1.1 (by simp [opOf, hlt]) hm.2 (fun a w hs => .inl ⟨hs.wanted hw, fun w' hm' => by rw [hs.exec hm.1.2]; exact hr w' hm'⟩) r
theorem RN.fact {k : Nat} {φ : Prop} (h : ∀ w, (∀ p ∈ F, p w) → φ) (r : φ → RN P n X w0 D ops Q k l M F) : RN P n X w0 D ops Q k l M F := fun a w hs => r (h w (fun p hp => (hs.mem.facts p hp).now)) a w hs
theorem RD.fact {φ : Prop} (h : ∀ w, (∀ p ∈ F, p w) → φ) (r : φ → RD P n X w0 D ops Q ds L l M F) : RD P n X w0 D ops Q ds L l M F := fun a w fuel h1 h2 hs => r (h w (fun p hp => (hs.mem.facts p hp).now)) a w fuel h1 h2 hs
theorem Mem.also {w : World} (hm : Mem X w0 D M F w) (q : Fact) (h : ∀ w, (∀ p ∈ F, p w) → q w) : Mem X w0 D M (q :: F) w := hm.consF (G := [q]) (fun p hp => by
  simp only [List.mem_singleton] at hp; subst hp
  exact fun w' ho => h w' (fun p hp => hm.facts p hp w' ho))
theorem RN.also {k : Nat} (q : Fact) (h : ∀ w, (∀ p ∈ F, p w) → q w) (r : RN P n X w0 D ops Q k l M (q :: F)) : RN P n X w0 D ops Q k l M F := fun a w hs => r a w ⟨hs.defers, hs.size, hs.tmps, hs.mem.also q h⟩
theorem RD.also (q : Fact) (h : ∀ w, (∀ p ∈ F, p w) → q w) (hok : regOk ops ds = true) (r : RD P n X w0 D ops Q ds L l M (q :: F)) : RD P n X w0 D ops Q ds L l M F := fun a w fuel h1 h2 hs => by
  simp only [regOk, Bool.and_eq_true] at hok
  exact WA_strong (S' := Now M (q :: F)) (tailOk_spec hok.2) (fun w hw => hw.sub (fun _ hm => hm) (fun p hp => List.mem_cons_of_mem _ hp)) fuel _ a w h2 (hs.mem.also q h).toNow (r a w fuel h1 h2 ⟨hs.defers, hs.size, hs.tmps, hs.mem.also q h⟩)
theorem RN.share {k : Nat} (m : Nat) {b : Nat} {o : Obj} (hm : M[m]? = some (b, o)) (hM : dropN M m = M') (r : RN P n X w0 D ops Q k l M' (fBlk b o :: F)) : RN P n X w0 D ops Q k l M F :=
  fun a w hs => r a w ⟨hs.defers, hs.size, hs.tmps, hM ▸ hs.mem.share hm⟩
theorem dropN_or {α : Type} : ∀ (l : List α) (k : Nat) (x y : α), l[k]? = some x → y ∈ l → y = x ∨ y ∈ dropN l k
  | [], _, _, _, h, _ => by simp at h
  | z :: r, 0, x, y, h, hy => by
    simp only [List.getElem?_cons_zero, Option.some.injEq] at h
    subst h
    exact (List.mem_cons.1 hy)
  | z :: r, k + 1, x, y, h, hy => by
    simp only [List.getElem?_cons_succ] at h
    rcases List.mem_cons.1 hy with rfl | hy
    · exact .inr List.mem_cons_self
    · exact (dropN_or r k x y h hy).imp id (fun h => List.mem_cons_of_mem _ h)
theorem RD.share (m : Nat) {b : Nat} {o : Obj} (hm : M[m]? = some (b, o)) (hM : dropN M m = M') (hok : regOk ops ds = true) (r : RD P n X w0 D ops Q ds L l M' (fBlk b o :: F)) : RD P n X w0 D ops Q ds L l M F := fun a w fuel h1 h2 hs => by
  simp only [regOk, Bool.and_eq_true] at hok
  have hs' : St n X w0 D l M' (fBlk b o :: F) a w := ⟨hs.defers, hs.size, hs.tmps, hM ▸ hs.mem.share hm⟩
  refine WA_strong (S' := Now M' (fBlk b o :: F)) (tailOk_spec hok.2) (fun w hw => ⟨fun p hp => ?_, fun p hp => hw.facts p (List.mem_cons_of_mem _ hp)⟩) fuel _ a w h2 hs'.mem.toNow (r a w fuel h1 h2 hs')
  rcases dropN_or M m (b, o) p hm hp with rfl | hp
  · exact hw.facts (fBlk b o) List.mem_cons_self
  · exact hw.blk p (hM ▸ hp)
/-! ### from a body to a contract -/
def RetQ (P : Program) (fn : Func) (X : Nat → Prop) (w0 : World) {ι : Type} (val : ι → Value) (φ : ι → Prop) (Fout : ι → List Fact) : Exit → Act → World → Prop :=
  bodyPost P fn (fun e w' => ∃ x, e = .returned (val x) ∧ φ x ∧ Frm (fun _ => False) w0 w' ∧ ∀ p ∈ Fout x, Rob X p w')
instance {P : Program} {fn : Func} {X : Nat → Prop} {w0 : World} {ι : Type} {val : ι → Value} {φ : ι → Prop} {Fout : ι → List Fact} : NoPanic (RetQ P fn X w0 val φ Fout) :=
  ⟨fun c a w h => by obtain ⟨_, x, hx, _⟩ := h; cases hx⟩
def RetM (P : Program) (fn : Func) (X : Nat → Prop) (w0 : World) (D : Nat → Prop) {ι : Type} (val : ι → Value) (φ : ι → Prop) (Mout : ι → List Blk) (Fout : ι → List Fact) : Exit → Act → World → Prop :=
  bodyPost P fn (fun e w' => ∃ x, e = .returned (val x) ∧ φ x ∧ Mem X w0 D (Mout x) (Fout x) w')
instance {P : Program} {fn : Func} {X : Nat → Prop} {w0 : World} {D : Nat → Prop} {ι : Type} {val : ι → Value} {φ : ι → Prop} {Mout : ι → List Blk} {Fout : ι → List Fact} : NoPanic (RetM P fn X w0 D val φ Mout Fout) :=
  ⟨fun c a w h => by obtain ⟨_, x, hx, _⟩ := h; cases hx⟩
def enumL : Nat → List Value → Slots
  | _, [] => []
  | k, v :: r => (k, v) :: enumL (k + 1) r
theorem enumL_get : ∀ (vs : List Value) (k t : Nat) (v : Value), look (enumL k vs) t = some v → k ≤ t ∧ vs[t - k]? = some v
  | [], k, t, v, h => by simp [enumL, look] at h
  | u :: r, k, t, v, h => by
    simp only [enumL, look] at h
    cases hb : Nat.beq k t with
    | true =>
      rw [hb, cond_true] at h
      have := Nat.eq_of_beq_eq_true hb
      subst this
      exact ⟨Nat.le_refl _, by simpa using h⟩
    | false =>
      rw [hb, cond_false] at h
      obtain ⟨h1, h2⟩ := enumL_get r (k + 1) t v h
      refine ⟨by omega, ?_⟩
      rw [show t - k = (t - (k + 1)) + 1 by omega, List.getElem?_cons_succ]; exact h2
theorem start_st {args : Array Value} {ntmps : Nat} {w : World} (hn : Nat.ble args.size ntmps = true) (hm : Mem X w0 D M F w) :
    St ntmps X w0 D (enumL 0 args.toList) M F { tmps := args ++ Array.replicate (ntmps - args.size) undef, defers := [] } w := by
  have hle := Nat.le_of_ble_eq_true hn
  refine ⟨rfl, by simp; omega, fun t v ht => ?_, hm⟩
  have := (enumL_get _ _ _ _ ht).2
  simp only [Nat.sub_zero, Array.getElem?_toList] at this
  have hlt : t < args.size := (Array.getElem?_eq_some_iff.1 this).1
  rw [Array.getElem?_append_left hlt]; exact this
theorem enters_of {f : FuncId} {fn : Func} (hf : P.funcs[f]? = some fn) (hok : (!(fn.name == "runtime.NumGoroutine") && fn.body.isSome) = true) (args : Array Value) (w : World) : (callFunc f args).run P w = .ok (.enter f args) w := by
  simp only [Bool.and_eq_true, Bool.not_eq_true'] at hok
  have h1 : fn.name ≠ "runtime.NumGoroutine" := by simpa using hok.1
  obtain ⟨c, hc⟩ := Option.isSome_iff_exists.1 hok.2
  simp [callFunc, hf, h1, hc]
theorem Spec.of_body {f : FuncId} {fn : Func} {args : Array Value} {Fin : List Fact} {ι : Type} {val : ι → Value} {φ : ι → Prop} {Fout : ι → List Fact} (c : Code) (hf : P.funcs[f]? = some fn) (hb : fn.body = some c)
    (hn : (Nat.ble args.size fn.ntmps && (!(fn.name == "runtime.NumGoroutine") && fn.body.isSome)) = true)
    (h : ∀ X w0, J P fn.ntmps X w0 (fun _ => False) c (RetQ P fn X w0 val φ Fout) (enumL 0 args.toList) [] Fin) : Spec P f args Fin val φ Fout := by
  rw [Bool.and_eq_true] at hn
  refine ⟨fun w => enters_of hf hn.2 args w, fun X w hX hF => calls_of_wp hf hb ?_⟩
  exact h X w _ w (start_st hn.1 ⟨Frm.refl _ w, fun m hm => (by cases hm), fun m hm => (by cases hm), List.nodup_nil, fun k hk => ⟨hX k hk, fun h => h⟩, fun p hp => (hF p hp).step (Off.refl _ w) (fun k hk => hk.elim .inl (fun h => by simp [keys] at h))⟩)
theorem SpecM.of_body {f : FuncId} {fn : Func} {args : Array Value} {Min : List Blk} {Fin : List Fact} {ι : Type} {val : ι → Value} {φ : ι → Prop} {Mout : ι → List Blk} {Fout : ι → List Fact} (c : Code) (hf : P.funcs[f]? = some fn) (hb : fn.body = some c)
    (hn : (Nat.ble args.size fn.ntmps && (!(fn.name == "runtime.NumGoroutine") && fn.body.isSome)) = true)
    (h : ∀ X w0, J P fn.ntmps X w0 (keys Min) c (RetM P fn X w0 (keys Min) val φ Mout Fout) (enumL 0 args.toList) Min Fin) : SpecM P f args Min Fin val φ Mout Fout := by
  rw [Bool.and_eq_true] at hn
  refine ⟨fun w => enters_of hf hn.2 args w, fun X w hX hM hnd hF => calls_of_wp hf hb ?_⟩
  exact h X w _ w (start_st hn.1 ⟨Frm.refl _ w, hM, fun m hm => .inl (List.mem_map.2 ⟨m, hm, rfl⟩), hnd, hX, hF⟩)
/-! ### what is returned -/
def resL (P : Program) (l : Slots) (M : List Blk) : List ResultVar → List (Option Nat) → Option (List Value × List (Nat × Nat))
  | [], _ => some ([], [])
  | .tmp t :: r, _ :: ms => match look l t, resL P l M r ms with
    | some v, some (vs, ob) => some (v :: vs, ob)
    | _, _ => none
  | .cell a T :: r, some m :: ms => match look l a, M[m]? with
    | some (.pointer (some ad)), some (b, .cells c E fz) => match runR P (loadVar T ad) c [], resL P l M r ms with
      | some (v, ob), some (vs, ob') => some (v :: vs, ob.map (fun k => (k, b)) ++ ob')
      | _, _ => none
    | _, _ => none
  | _, _ => none
def oneV : List Value → Value
  | [v] => v
  | vs => .tuple vs.toArray
def resV (P : Program) (l : Slots) (M : List Blk) (rs : Array ResultVar) (ms : List (Option Nat)) : Option (Value × List (Nat × Nat)) :=
  match resL P l M rs.toList ms with
  | some (vs, ob) => some (oneV vs, ob)
  | none => none
def resF (tmps : Array Value) : ResultVar → Sem Value
  | .tmp t => pure (tmps.getD t undef)
  | .cell b t => do loadVar t (← asAddr (tmps.getD b undef))
theorem results_eq (fn : Func) (tmps : Array Value) : results fn tmps = (do let vs ← fn.results.mapM (resF tmps); pure (if h : vs.size = 1 then vs[0] else .tuple vs)) := by
  unfold results
  congr 1
  try (congr 1; funext r; cases r <;> rfl)
theorem mapM_cons_run {f : ResultVar → Sem Value} {x : ResultVar} {r : List ResultVar} {v : Value} {vs : List Value} {w : World} (h1 : (f x).run P w = .ok v w) (h2 : (r.mapM f).run P w = .ok vs w) : ((x :: r).mapM f).run P w = .ok (v :: vs) w := by
  rw [List.mapM_cons]
  show Sem.run P ((f x).bind fun v => ((r.mapM f).bind fun vs => Sem.pure (v :: vs))) w = _
  rw [Sem.run_bind', h1]
  show Sem.run P ((r.mapM f).bind fun vs => Sem.pure (v :: vs)) w = _
  rw [Sem.run_bind', h2]
  rfl
theorem resL_sound {a : Act} {w : World} (hs : St n X w0 D l M F a w) : ∀ (rs : List ResultVar) (ms : List (Option Nat)) {vs : List Value} {ob : List (Nat × Nat)}, resL P l M rs ms = some (vs, ob) → (∀ p ∈ ob, p.1 = p.2) →
    (rs.mapM (resF a.tmps)).run P w = .ok vs w
  | [], _, vs, ob, h, _ => by
    simp only [resL, Option.some.injEq, Prod.mk.injEq] at h
    obtain ⟨rfl, rfl⟩ := h
    rfl
  | .tmp t :: r, _ :: ms, vs, ob, h, hob => by
    simp only [resL] at h
    split at h
    · rename_i v vs1 ob1 hv hr
      simp only [Option.some.injEq, Prod.mk.injEq] at h
      obtain ⟨rfl, rfl⟩ := h
      have ht := hs.tmps t v hv
      exact mapM_cons_run (by show Sem.run P (Sem.pure (a.tmps.getD t undef)) w = _; rw [Array.getD_eq_getD_getElem?, ht]; rfl) (resL_sound hs r ms hr hob)
    · cases h
  | .cell b T :: r, some m :: ms, vs, ob, h, hob => by
    simp only [resL] at h
    split at h
    · rename_i ad bb c E fz hv hM
      split at h
      · rename_i v ob1 vs1 ob2 hl hr
        simp only [Option.some.injEq, Prod.mk.injEq] at h
        obtain ⟨rfl, rfl⟩ := h
        have ht := hs.tmps b _ hv
        obtain ⟨obx, he, hrun⟩ := runR_sound _ hl
        simp only [List.append_nil] at he
        subst he
        have hload := hrun w bb E fz (fun k hk => hob (k, bb) (List.mem_append_left _ (List.mem_map.2 ⟨k, hk, rfl⟩))) (.inr (hs.mem.blk _ (List.mem_of_getElem? hM)))
        refine mapM_cons_run ?_ (resL_sound hs r ms hr (fun p hp => hob p (List.mem_append_right _ hp)))
        show Sem.run P (do loadVar T (← asAddr (a.tmps.getD b undef)) : Sem Value) w = _
        rw [Array.getD_eq_getD_getElem?, ht]
        exact hload
      · cases h
    · cases h
  | .cell b T :: r, none :: ms, vs, ob, h, _ => by simp [resL] at h
  | .cell b T :: r, [], vs, ob, h, _ => by simp [resL] at h
  | .tmp t :: r, [], vs, ob, h, _ => by simp [resL] at h
theorem resV_sound {a : Act} {w : World} {fn : Func} (hs : St n X w0 D l M F a w) {ms : List (Option Nat)} {v : Value} {ob : List (Nat × Nat)} (h : resV P l M fn.results ms = some (v, ob)) (hob : ∀ p ∈ ob, p.1 = p.2) :
    (results fn a.tmps).run P w = .ok v w := by
  unfold resV at h
  cases hr : resL P l M fn.results.toList ms with
  | none => rw [hr] at h; cases h
  | some q =>
    obtain ⟨vs, ob1⟩ := q
    rw [hr] at h
    simp only [Option.some.injEq, Prod.mk.injEq] at h
    obtain ⟨rfl, rfl⟩ := h
    have h1 := resL_sound hs fn.results.toList ms hr hob
    rw [results_eq, Array.mapM_eq_mapM_toList]
    have h2 : Sem.run P (List.toArray <$> fn.results.toList.mapM (resF a.tmps)) w = .ok vs.toArray w := by
      show Sem.run P ((fn.results.toList.mapM (resF a.tmps)).bind fun vs => Sem.pure vs.toArray) w = _
      rw [Sem.run_bind', h1]; rfl
    show Sem.run P ((List.toArray <$> fn.results.toList.mapM (resF a.tmps)).bind fun vs => Sem.pure (if h : vs.size = 1 then vs[0] else .tuple vs)) w = _
    rw [Sem.run_bind', h2]
    show Result.ok (if h : vs.toArray.size = 1 then vs.toArray[0] else .tuple vs.toArray) w = Result.ok (oneV vs) w
    cases vs with
    | nil => simp [oneV]
    | cons v r => cases r with
      | nil => simp [oneV]
      | cons u r => simp [oneV]
theorem KR.ret {fn : Func} {ι : Type} {val : ι → Value} {φ : ι → Prop} {Fout : ι → List Fact} (x : ι) (ms : List (Option Nat)) (is zs : List Nat) {v : Value} (hr : resV P l M fn.results ms = some (v, dup zs)) (hv : v = val x) (hφ : φ x) (hF : pick F is = Fout x) :
    KR n X w0 (fun _ => False) (RetQ P fn X w0 val φ Fout) l M F := fun a w hs =>
  ⟨hs.defers, v, resV_sound hs hr dup_eq, x, by rw [hv], hφ, hs.mem.frm, fun p hp => (pick_rob hs.mem.facts is p (hF ▸ hp)).step (Off.refl _ w) (fun k hk => .inl (.inl hk))⟩
theorem KN.ret {fn : Func} {ι : Type} {val : ι → Value} {φ : ι → Prop} {Fout : ι → List Fact} (x : ι) (ms : List (Option Nat)) (is zs : List Nat) {v : Value} (hr : resV P l M fn.results ms = some (v, dup zs)) (hv : v = val x) (hφ : φ x) (hF : pick F is = Fout x) :
    KN n X w0 (fun _ => False) (RetQ P fn X w0 val φ Fout) l M F := fun a w hs =>
  ⟨hs.defers, v, resV_sound hs hr dup_eq, x, by rw [hv], hφ, hs.mem.frm, fun p hp => (pick_rob hs.mem.facts is p (hF ▸ hp)).step (Off.refl _ w) (fun k hk => .inl (.inl hk))⟩
theorem KR.retM {fn : Func} {ι : Type} {val : ι → Value} {φ : ι → Prop} {Mout : ι → List Blk} {Fout : ι → List Fact} (x : ι) (ms : List (Option Nat)) (is zs : List Nat) {v : Value} (hr : resV P l M fn.results ms = some (v, dup zs)) (hv : v = val x) (hφ : φ x) (hM : Mout x = M) (hF : pick F is = Fout x) :
    KR n X w0 D (RetM P fn X w0 D val φ Mout Fout) l M F := fun a w hs =>
  ⟨hs.defers, v, resV_sound hs hr dup_eq, x, by rw [hv], hφ, by rw [hM, ← hF]; exact hs.mem.pickF is⟩
theorem KN.retM {fn : Func} {ι : Type} {val : ι → Value} {φ : ι → Prop} {Mout : ι → List Blk} {Fout : ι → List Fact} (x : ι) (ms : List (Option Nat)) (is zs : List Nat) {v : Value} (hr : resV P l M fn.results ms = some (v, dup zs)) (hv : v = val x) (hφ : φ x) (hM : Mout x = M) (hF : pick F is = Fout x) :
    KN n X w0 D (RetM P fn X w0 D val φ Mout Fout) l M F := fun a w hs =>
  ⟨hs.defers, v, resV_sound hs hr dup_eq, x, by rw [hv], hφ, by rw [hM, ← hF]; exact hs.mem.pickF is⟩
/-! ### loops -/
/-- What a round leaves: the state of some y that is nearer to the end. -/
def LoopQ (n : Nat) (X : Nat → Prop) (w0 : World) (D : Nat → Prop) {ι : Type} (ψ : ι → Prop) (m : ι → Nat) (li : ι → Slots) (Mi : ι → List Blk) (Fi : ι → List Fact) (x : ι) : Act → World → Prop :=
  fun a w => ∃ y, m y < m x ∧ ψ y ∧ St n X w0 D (li y) (Mi y) (Fi y) a w
theorem J.loop {c : Code} {ι : Type} (ψ : ι → Prop) (m : ι → Nat) (li : ι → Slots) (Mi : ι → List Blk) (Fi : ι → List Fact) (x0 : ι) (ts : List Nat) (is : List Nat) (h0 : ψ x0) (hl : prune l ts = li x0) (hM : M = Mi x0) (hF : pick F is = Fi x0)
    (round : ∀ x, ψ x → J P n X w0 D c (Exit.then (LoopQ n X w0 D ψ m li Mi Fi x) Q) (li x) (Mi x) (Fi x)) : J P n X w0 D (.loop c) Q l M F := fun a w hs => by
  refine wp_loop_ghost (fun k a w => ∃ x, m x = k ∧ ψ x ∧ St n X w0 D (li x) (Mi x) (Fi x) a w) (m x0) ⟨x0, rfl, h0, ?_⟩ ?_
  · have h1 := hs.sub (.of_prune hl) (List.Sublist.refl M) (fun p hp => hp)
    exact ⟨h1.defers, h1.size, h1.tmps, by rw [← hM, ← hF]; exact hs.mem.pickF is⟩
  · rintro k a w ⟨x, rfl, hx, hst⟩
    refine wp_mono (round x hx a w hst) ?_
    intro e a' w' hq
    cases e with
    | normal =>
      obtain ⟨y, hy, hψ, hst'⟩ := hq
      exact ⟨m y, hy, y, rfl, hψ, hst'⟩
    | exit id => exact hq
    | goto l => exact hq
    | ret => exact hq
    | panic c => exact hq
    | outgrown => exact hq
theorem KN.round {ι : Type} {ψ : ι → Prop} {m : ι → Nat} {li : ι → Slots} {Mi : ι → List Blk} {Fi : ι → List Fact} {x : ι} (y : ι) (ts : List Nat) (is : List Nat) (hm : m y < m x) (hψ : ψ y) (hl : prune l ts = li y) (hM : M = Mi y) (hF : pick F is = Fi y) :
    KN n X w0 D (Exit.then (LoopQ n X w0 D ψ m li Mi Fi x) Q) l M F := fun a w hs => by
  have h1 := hs.sub (.of_prune hl) (List.Sublist.refl M) (fun p hp => hp)
  exact ⟨y, hm, hψ, h1.defers, h1.size, h1.tmps, by rw [← hM, ← hF]; exact hs.mem.pickF is⟩
end
end Go.Proofs.YtegnonhgildhoaaGreat.E
