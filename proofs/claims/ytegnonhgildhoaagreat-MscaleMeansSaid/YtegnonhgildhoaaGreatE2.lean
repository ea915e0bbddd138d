/- Operations asked of the kernel: what an operation yields out of the known slots and one known block; batches of operations. -/
import Derived.Test.YtegnonhgildhoaaGreatE1
namespace Go.Proofs.YtegnonhgildhoaaGreat.E
open Go Go.RowKit
set_option linter.unusedVariables false
set_option linter.unusedSimpArgs false
/-- A value that one cell holds. -/
def oneC : Value → Bool
  | .agg _ | .tuple _ => false
  | _ => true
def runR (P : Program) {α : Type} : Sem α → Array Value → List Nat → Option (α × List Nat)
  | .pure a, _, ob => some (a, ob)
  | .load _ a k, c, ob => match a.spot with
    | none => match c[a.off]? with
      | some v => runR P (k v) c (a.block :: ob)
      | none => none
    | some _ => none
  | .program k, c, ob => runR P (k P) c ob
  | .mark _ k, c, ob => runR P k c ob
  | _, _, _ => none
def runB (P : Program) {α : Type} : Sem α → Array Value → List Nat → Option (α × Array Value × List Nat)
  | .pure a, c, ob => some (a, c, ob)
  | .load _ a k, c, ob => match a.spot with
    | none => match c[a.off]? with
      | some v => runB P (k v) c (a.block :: ob)
      | none => none
    | some _ => none
  | .store _ a v k, c, ob => match a.spot, oneC v, c[a.off]? with
    | none, true, some _ => runB P k (c.setIfInBounds a.off v) (a.block :: ob)
    | _, _, _ => none
  | .program k, c, ob => runB P (k P) c ob
  | .mark _ k, c, ob => runB P k c ob
  | _, _, _ => none
section
variable {P : Program} {α : Type}
theorem cell_of {w : World} {a : Addr} {c : Array Value} {T : TypeId} {fz : Nat × Nat} (h : w.heap[a.block]? = some (.cells c T fz)) (hs : a.spot = none) : w.cell? a = c[a.off]? := by
  simp [World.cell?, h, hs]
theorem runR_sound (s : Sem α) : ∀ {c : Array Value} {ob ob' : List Nat} {x : α}, runR P s c ob = some (x, ob') → ∃ obx, ob' = obx ++ ob ∧
    ∀ (w : World) (b : Nat) (T : TypeId) (fz : Nat × Nat), (∀ k ∈ obx, k = b) → (obx = [] ∨ w.heap[b]? = some (.cells c T fz)) → s.run P w = .ok x w := by
  induction s with
  | pure a => intro c ob ob' x h; simp only [runR, Option.some.injEq, Prod.mk.injEq] at h; obtain ⟨rfl, rfl⟩ := h; exact ⟨[], rfl, fun _ _ _ _ _ _ => rfl⟩
  | load m a k ih =>
    intro c ob ob' x h
    simp only [runR] at h
    cases hs : a.spot with
    | some _ => rw [hs] at h; cases h
    | none =>
      rw [hs] at h
      cases hc : c[a.off]? with
      | none => simp only [hc] at h; cases h
      | some v =>
        simp only [hc] at h
        obtain ⟨obx, rfl, hr⟩ := ih v h
        refine ⟨obx ++ [a.block], by simp, fun w b T fz hk hb => ?_⟩
        have hab : a.block = b := hk _ (by simp)
        have hb' : w.heap[b]? = some (.cells c T fz) := hb.resolve_left (by simp)
        have hcell : w.cell? a = some v := by rw [cell_of (by rw [hab]; exact hb') hs, hc]
        simp only [Sem.run, hcell]
        exact hr w b T fz (fun k hk' => hk k (List.mem_append_left _ hk')) (.inr hb')
  | program k ih => intro c ob ob' x h; simp only [runR] at h; obtain ⟨obx, e, hr⟩ := ih P h; exact ⟨obx, e, fun w b T fz hk hb => by simp only [Sem.run]; exact hr w b T fz hk hb⟩
  | mark m k ih => intro c ob ob' x h; simp only [runR] at h; obtain ⟨obx, e, hr⟩ := ih h; exact ⟨obx, e, fun w b T fz hk hb => by simp only [Sem.run]; exact hr w b T fz hk hb⟩
  | _ => intro c ob ob' x h; simp only [runR] at h; cases h
def setBlk (w : World) (b : Nat) (o : Obj) : World := { w with heap := w.heap.setIfInBounds b o }
theorem setBlk_same {w : World} {b : Nat} {o : Obj} (h : w.heap[b]? = some o) : setBlk w b o = w := by
  have : w.heap.setIfInBounds b o = w.heap := by
    apply Array.ext_getElem?
    intro i
    by_cases e : b = i
    · subst e; rw [Array.getElem?_setIfInBounds_self_of_lt (Array.getElem?_eq_some_iff.1 h).1, h]
    · rw [Array.getElem?_setIfInBounds_ne e]
  simp [setBlk, this]
theorem setBlk_setBlk (w : World) (b : Nat) (o o' : Obj) : setBlk (setBlk w b o) b o' = setBlk w b o' := by simp [setBlk]
theorem setCell_eq {w : World} {a : Addr} {c : Array Value} {T : TypeId} {fz : Nat × Nat} (h : w.heap[a.block]? = some (.cells c T fz)) (hs : a.spot = none) (v : Value) :
    w.setCell a v = setBlk w a.block (.cells (c.setIfInBounds a.off v) T fz) := by
  have : (w.setCell a v).heap = w.heap.setIfInBounds a.block (.cells (c.setIfInBounds a.off v) T fz) := by
    apply Array.ext_getElem?
    intro i
    simp only [World.setCell, Array.getElem?_modify]
    by_cases e : a.block = i
    · subst e
      rw [if_pos rfl, h, Array.getElem?_setIfInBounds_self_of_lt (Array.getElem?_eq_some_iff.1 h).1]
      simp [hs]
    · rw [if_neg e, Array.getElem?_setIfInBounds_ne e]
  show ({ w with heap := (w.setCell a v).heap } : World) = _
  rw [this]; rfl
theorem setBlk_get {w : World} {b : Nat} {o o' : Obj} (h : w.heap[b]? = some o) : (setBlk w b o').heap[b]? = some o' := by
  simp only [setBlk]
  rw [Array.getElem?_setIfInBounds_self_of_lt (Array.getElem?_eq_some_iff.1 h).1]
theorem runB_sound (s : Sem α) : ∀ {c c' : Array Value} {ob ob' : List Nat} {x : α}, runB P s c ob = some (x, c', ob') → ∃ obx, ob' = obx ++ ob ∧
    ∀ (w : World) (b : Nat) (T : TypeId) (lo : Nat), (∀ k ∈ obx, k = b) → w.heap[b]? = some (.cells c T (lo, 0)) → s.run P w = .ok x (setBlk w b (.cells c' T (lo, 0))) := by
  induction s with
  | pure a =>
    intro c c' ob ob' x h
    simp only [runB, Option.some.injEq, Prod.mk.injEq] at h
    obtain ⟨rfl, rfl, rfl⟩ := h
    exact ⟨[], rfl, fun w b T lo _ hb => by rw [setBlk_same hb]; rfl⟩
  | load m a k ih =>
    intro c c' ob ob' x h
    simp only [runB] at h
    cases hs : a.spot with
    | some _ => rw [hs] at h; cases h
    | none =>
      rw [hs] at h
      cases hc : c[a.off]? with
      | none => simp only [hc] at h; cases h
      | some v =>
        simp only [hc] at h
        obtain ⟨obx, rfl, hr⟩ := ih v h
        refine ⟨obx ++ [a.block], by simp, fun w b T lo hk hb => ?_⟩
        have hab : a.block = b := hk _ (by simp)
        have hcell : w.cell? a = some v := by rw [cell_of (by rw [hab]; exact hb) hs, hc]
        simp only [Sem.run, hcell]
        exact hr w b T lo (fun k hk' => hk k (List.mem_append_left _ hk')) hb
  | store m a v k ih =>
    intro c c' ob ob' x h
    simp only [runB] at h
    split at h
    · rename_i u hs hv hc
      obtain ⟨obx, rfl, hr⟩ := ih h
      refine ⟨obx ++ [a.block], by simp, fun w b T lo hk hb => ?_⟩
      have hab : a.block = b := hk _ (by simp)
      subst hab
      have hcell : w.cell? a = some u := by rw [cell_of hb hs, hc]
      have hfz : w.frozen? a = false := by simp [World.frozen?, hb]
      have hrun : (Sem.store m a v k).run P w = k.run P (w.setCell a v) := by
        cases v <;> first | (simp [oneC] at hv; done) | simp [Sem.run, hcell, hfz]
      rw [hrun, setCell_eq hb hs v, hr _ a.block T lo (fun k hk' => hk k (List.mem_append_left _ hk')) (setBlk_get hb), setBlk_setBlk]
    · cases h
  | program k ih => intro c c' ob ob' x h; simp only [runB] at h; obtain ⟨obx, e, hr⟩ := ih P h; exact ⟨obx, e, fun w b T fz hk hb => by simp only [Sem.run]; exact hr w b T fz hk hb⟩
  | mark m k ih => intro c c' ob ob' x h; simp only [runB] at h; obtain ⟨obx, e, hr⟩ := ih h; exact ⟨obx, e, fun w b T fz hk hb => by simp only [Sem.run]; exact hr w b T fz hk hb⟩
  | _ => intro c c' ob ob' x h; simp only [runB] at h; cases h
end
/-! ### one operation out of a state -/
def opOf (ops : Array Oper) (i : Nat) : Oper := (ops[i]?).getD default
def wantedL (ops : Array Oper) (l : Slots) (o : Oper) : Option Bool :=
  match o.guard with
  | none => some true
  | some (j, want) => match (ops[j]?).bind (·.dst) with
    | some t => match look l t with
      | some (.bool b) => some (b == want)
      | some _ => some false
      | none => none
    | none => none
section
variable {P : Program} {ops : Array Oper} {n : Nat} {X : Nat → Prop} {w0 : World} {D : Nat → Prop} {l l' : Slots} {M M' : List Blk} {F F' : List Fact} {a : Act} {w w' : World} {Q : Exit → Act → World → Prop}
theorem St.wanted (h : St n X w0 D l M F a w) {o : Oper} {b : Bool} (hw : wantedL ops l o = some b) : Region.wanted o (yielded ops a.tmps) = b := by
  unfold wantedL at hw
  unfold Region.wanted
  cases hg : o.guard with
  | none => rw [hg] at hw; simpa using hw
  | some gw =>
    obtain ⟨j, want⟩ := gw
    rw [hg] at hw
    cases ht : (ops[j]?).bind (·.dst) with
    | none => simp only [ht] at hw; cases hw
    | some t =>
      simp only [ht] at hw
      cases hv : look l t with
      | none => simp only [hv] at hw; cases hw
      | some v =>
        simp only [hv] at hw
        have htm := h.tmps t v hv
        cases v <;> first
          | (simp only [Option.some.injEq] at hw; subst hw; simp [yielded, ht, htm]; done)
          | (cases hw; done)
/-- An operation that only reads: none, or one block (number mi of M). -/
def goR (P : Program) (ops : Array Oper) (n : Nat) (l : Slots) (M : List Blk) (i : Nat) (mi : Option Nat) : Option (Value × List (Nat × Nat)) :=
  match ops[i]? with
  | none => none
  | some o => match dstOk n o.dst, wantedL ops l o with
    | true, some false => some (undef, [])
    | true, some true => match knownOp l o.op with
      | true => match mi with
        | none => match runR P (execOp (rho l) o) #[] [] with
          | some (.value v, []) => some (v, [])
          | _ => none
        | some m => match M[m]? with
          | some (b, .cells c T fz) => match runR P (execOp (rho l) o) c [] with
            | some (.value v, ob) => some (v, ob.map fun k => (k, b))
            | _ => none
          | _ => none
      | false => none
    | _, _ => none
theorem goR_sound {i : Nat} {mi : Option Nat} {v : Value} {ob : List (Nat × Nat)} (h : goR P ops n l M i mi = some (v, ob)) (hob : ∀ p ∈ ob, p.1 = p.2) :
    ∃ o, ops[i]? = some o ∧ dstOk n o.dst = true ∧ ∀ a w, St n X w0 D l M F a w → YieldsIf P ops (Now M F) o v a := by
  unfold goR at h
  cases ho : ops[i]? with
  | none => rw [ho] at h; cases h
  | some o =>
    rw [ho] at h
    simp only at h
    cases hd : dstOk n o.dst with
    | false => rw [hd] at h; cases h
    | true =>
      rw [hd] at h
      refine ⟨o, rfl, hd, ?_⟩
      cases hw : wantedL ops l o with
      | none => rw [hw] at h; cases h
      | some b =>
        rw [hw] at h
        cases b with
        | false =>
          simp only [Option.some.injEq, Prod.mk.injEq] at h
          obtain ⟨rfl, _⟩ := h
          exact fun a w hs => .inr ⟨hs.wanted hw, rfl⟩
        | true =>
          simp only at h
          cases hk : knownOp l o.op with
          | false => rw [hk] at h; cases h
          | true =>
            rw [hk] at h
            simp only at h
            refine fun a w hs => .inl ⟨hs.wanted hw, fun w' hm => ?_⟩
            rw [hs.exec hk]
            cases mi with
            | none =>
              simp only at h
              split at h
              · rename_i hr
                simp only [Option.some.injEq, Prod.mk.injEq] at h
                obtain ⟨rfl, rfl⟩ := h
                obtain ⟨obx, he, hrun⟩ := runR_sound _ hr
                have : obx = [] := by simpa using he.symm
                exact hrun w' 0 0 (0, 0) (by rw [this]; simp) (.inl this)
              · cases h
            | some m =>
              simp only at h
              split at h
              · rename_i b c T fz hM
                split at h
                · rename_i v1 ob1 hr
                  simp only [Option.some.injEq, Prod.mk.injEq] at h
                  obtain ⟨rfl, rfl⟩ := h
                  obtain ⟨obx, he, hrun⟩ := runR_sound _ hr
                  simp only [List.append_nil] at he
                  subst he
                  refine hrun w' b T fz (fun k hk => hob (k, b) (List.mem_map.2 ⟨k, hk, rfl⟩)) (.inr (hm.blk _ (List.mem_of_getElem? hM)))
                · cases h
              · cases h
/-- An operation in a plain region: it may write one block. -/
def goB (P : Program) (ops : Array Oper) (n : Nat) (l : Slots) (M : List Blk) (i : Nat) (mi : Option Nat) : Option (Slots × List Blk × List (Nat × Nat)) :=
  match mi with
  | none => match goR P ops n l M i none with
    | some (v, ob) => some (putL (opOf ops i).dst v l, M, ob)
    | none => none
  | some m => match ops[i]? with
    | none => none
    | some o => match dstOk n o.dst, wantedL ops l o with
      | true, some false => some (putL o.dst undef l, M, [])
      | true, some true => match knownOp l o.op with
        | true => match M[m]? with
          | some (b, .cells c T (lo, 0)) => match runB P (execOp (rho l) o) c [] with
            | some (.value v, c', ob) => some (putL o.dst v l, M.set m (b, .cells c' T (lo, 0)), ob.map fun k => (k, b))
            | some (.skip, c', ob) => some (putL o.dst undef l, M.set m (b, .cells c' T (lo, 0)), ob.map fun k => (k, b))
            | _ => none
          | _ => none
        | false => none
      | _, _ => none
theorem Mem.setBlk (h : Mem X w0 D M F w) {m : Nat} {b : Nat} {o o' : Obj} (hm : M[m]? = some (b, o)) : Mem X w0 D (M.set m (b, o')) F (setBlk w b o') := by
  have hb := h.blk _ (List.mem_of_getElem? hm)
  have hmlt := (List.getElem?_eq_some_iff.1 hm).1
  have hmap : (M.set m (b, o')).map (·.1) = M.map (·.1) := by
    rw [List.map_set]
    apply List.ext_getElem?
    intro i
    by_cases e : m = i
    · subst e
      rw [List.getElem?_set_self (by simpa using hmlt), List.getElem?_map, hm]; rfl
    · rw [List.getElem?_set_ne e]
  have hoff : Off (fun k => k = b) w (E.setBlk w b o') := ⟨by simp [E.setBlk], fun k _ hk => by simp only [E.setBlk]; rw [Array.getElem?_setIfInBounds_ne (Ne.symm hk)]⟩
  have hmem : (b, o) ∈ M := List.mem_of_getElem? hm
  refine ⟨⟨h.frm.os, h.frm.tape, h.frm.output, ?_⟩, ?_, ?_, by rw [hmap]; exact h.nodup, h.xs, ?_⟩
  · refine ⟨Nat.le_trans h.frm.off.1 hoff.1, fun k hk hD => ?_⟩
    rw [hoff.2 k (Nat.lt_of_lt_of_le hk h.frm.off.1) (fun e => ?_), h.frm.off.2 k hk hD]
    subst e
    rcases h.own _ hmem with h1 | h1
    · exact hD h1
    · exact absurd hk (Nat.not_lt.2 h1)
  · intro p hp
    obtain ⟨i, hi⟩ := List.mem_iff_getElem?.1 hp
    by_cases e : m = i
    · subst e
      rw [List.getElem?_set_self hmlt] at hi
      cases hi
      exact setBlk_get hb
    · rw [List.getElem?_set_ne e] at hi
      have hpM := List.mem_of_getElem? hi
      have hne : p.1 ≠ b := fun he => e ((List.getElem?_inj (by simpa using hmlt) h.nodup).1 (by rw [List.getElem?_map, List.getElem?_map, hm, hi]; simp [he]))
      rw [hoff.2 _ (Array.getElem?_eq_some_iff.1 (h.blk p hpM)).1 hne]
      exact h.blk p hpM
  · intro p hp
    have : p.1 ∈ (M.set m (b, o')).map (·.1) := List.mem_map.2 ⟨p, hp, rfl⟩
    rw [hmap] at this
    obtain ⟨q, hq, he⟩ := List.mem_map.1 this
    rw [← he]; exact h.own q hq
  · intro p hp
    refine (h.facts p hp).step ⟨hoff.1, fun k hk hn => hoff.2 k hk (fun e => hn (.inr ?_))⟩ (fun k hk => .inl (hk.imp id (fun hk => ?_)))
    · subst e; exact List.mem_map.2 ⟨_, hmem, rfl⟩
    · simpa [keys, hmap] using hk
theorem goB_sound {i : Nat} {mi : Option Nat} {ob : List (Nat × Nat)} (h : goB P ops n l M i mi = some (l', M', ob)) (hob : ∀ p ∈ ob, p.1 = p.2) (hs : St n X w0 D l M F a w)
    {K : Act → World → Prop} (hK : ∀ a' w', St n X w0 D l' M' F a' w' → K a' w') : wpOp P ops Q i K a w := by
  unfold goB at h
  cases mi with
  | none =>
    simp only at h
    cases hg : goR P ops n l M i none with
    | none => rw [hg] at h; cases h
    | some r =>
      obtain ⟨v, ob1⟩ := r
      rw [hg] at h
      simp only [Option.some.injEq, Prod.mk.injEq] at h
      obtain ⟨rfl, rfl, rfl⟩ := h
      obtain ⟨o, ho, hd, hy⟩ := goR_sound (X := X) (w0 := w0) (D := D) (F := F) hg hob
      have he : opOf ops i = o := by simp [opOf, ho]
      refine (hy a w hs).wpOp ho hs.mem.toNow (hK _ _ ?_)
      rw [he]
      exact hs.put hd v hs.mem
  | some m =>
    simp only at h
    cases ho : ops[i]? with
    | none => rw [ho] at h; cases h
    | some o =>
      rw [ho] at h
      simp only at h
      cases hd : dstOk n o.dst with
      | false => rw [hd] at h; cases h
      | true =>
        rw [hd] at h
        cases hw : wantedL ops l o with
        | none => rw [hw] at h; cases h
        | some b =>
          rw [hw] at h
          have hwa := hs.wanted hw
          unfold wpOp
          rw [ho]
          cases b with
          | false =>
            simp only [Option.some.injEq, Prod.mk.injEq] at h
            obtain ⟨rfl, rfl, rfl⟩ := h
            simp only [hwa]
            exact hK _ _ (hs.put hd _ hs.mem)
          | true =>
            simp only at h
            simp only [hwa, if_true]
            refine .inl ?_
            cases hk : knownOp l o.op with
            | false => rw [hk] at h; cases h
            | true =>
              rw [hk] at h
              simp only at h
              unfold Oper.wp
              rw [hs.exec hk]
              split at h
              · rename_i b c T lo hM
                have hblk := hs.mem.blk _ (List.mem_of_getElem? hM)
                split at h
                · rename_i v c' ob1 hr
                  simp only [Option.some.injEq, Prod.mk.injEq] at h
                  obtain ⟨rfl, rfl, rfl⟩ := h
                  obtain ⟨obx, he, hrun⟩ := runB_sound _ hr
                  simp only [List.append_nil] at he
                  subst he
                  rw [hrun w b T lo (fun k hk => hob (k, b) (List.mem_map.2 ⟨k, hk, rfl⟩)) hblk]
                  exact hK _ _ (hs.put hd _ (hs.mem.setBlk hM))
                · rename_i c' ob1 hr
                  simp only [Option.some.injEq, Prod.mk.injEq] at h
                  obtain ⟨rfl, rfl, rfl⟩ := h
                  obtain ⟨obx, he, hrun⟩ := runB_sound _ hr
                  simp only [List.append_nil] at he
                  subst he
                  rw [hrun w b T lo (fun k hk => hob (k, b) (List.mem_map.2 ⟨k, hk, rfl⟩)) hblk]
                  exact hK _ _ (hs.put hd _ (hs.mem.setBlk hM))
                · cases h
              · cases h
end
end Go.Proofs.YtegnonhgildhoaaGreat.E
