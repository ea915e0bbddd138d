/- A small logic of states over the model's own rules: what is known of a frame's slots, which blocks a call owns, and facts that hold whatever the owned blocks hold. Plain theorems. -/
import Derived.Calls
import Derived.OrdersHeld
import Derived.Below
import Derived.KernelRfl
import Derived.Deep.LoopGhost
namespace Go.Proofs.YtegnonhgildhoaaGreat.E
open Go Go.RowKit
set_option linter.unusedVariables false
set_option linter.unusedSimpArgs false
/-! ### worlds that agree off a set of blocks -/
def Off (A : Nat → Prop) (w w' : World) : Prop := w.heap.size ≤ w'.heap.size ∧ ∀ k, k < w.heap.size → ¬ A k → w'.heap[k]? = w.heap[k]?
def Rob (A : Nat → Prop) (p : World → Prop) (w : World) : Prop := ∀ w', Off A w w' → p w'
theorem Off.refl (A : Nat → Prop) (w : World) : Off A w w := ⟨Nat.le_refl _, fun _ _ _ => rfl⟩
theorem Off.trans {A : Nat → Prop} {a b c : World} (h : Off A a b) (k : Off A b c) : Off A a c :=
  ⟨Nat.le_trans h.1 k.1, fun i hi hA => (k.2 i (Nat.lt_of_lt_of_le hi h.1) hA).trans (h.2 i hi hA)⟩
theorem Off.mono {A B : Nat → Prop} {a b : World} (h : Off A a b) (hAB : ∀ k, A k → B k) : Off B a b :=
  ⟨h.1, fun k hk hB => h.2 k hk (fun hA => hB (hAB k hA))⟩
theorem Rob.now {A : Nat → Prop} {p : World → Prop} {w : World} (h : Rob A p w) : p w := h w (Off.refl A w)
/-- A fact stays robust: the world turns off A, and the set may grow by blocks that were not there. -/
theorem Rob.step {A A' : Nat → Prop} {p : World → Prop} {w w' : World} (h : Rob A p w) (ho : Off A w w') (hA : ∀ k, A' k → A k ∨ w.heap.size ≤ k) : Rob A' p w' := by
  intro w'' h2
  refine h w'' ⟨Nat.le_trans ho.1 h2.1, fun k hk hnA => ?_⟩
  rw [h2.2 k (Nat.lt_of_lt_of_le hk ho.1) (fun hA' => (hA k hA').elim hnA (fun hle => by omega)), ho.2 k hk hnA]
theorem Rob.imp {A : Nat → Prop} {p q : World → Prop} {w : World} (h : Rob A p w) (hpq : ∀ w, p w → q w) : Rob A q w := fun w' ho => hpq w' (h w' ho)
/-! ### states -/
abbrev Blk := Nat × Obj
abbrev Slots := List (Nat × Value)
abbrev Fact := World → Prop
def keys (M : List Blk) (k : Nat) : Prop := k ∈ M.map (·.1)
structure Frm (D : Nat → Prop) (w w' : World) : Prop where
  os : w'.os = w.os
  tape : w'.tape = w.tape
  output : w'.output = w.output
  off : Off D w w'
theorem Frm.refl (D : Nat → Prop) (w : World) : Frm D w w := ⟨rfl, rfl, rfl, Off.refl D w⟩
theorem Frm.trans {D : Nat → Prop} {a b c : World} (h : Frm D a b) (k : Frm D b c) : Frm D a c := ⟨k.os.trans h.os, k.tape.trans h.tape, k.output.trans h.output, h.off.trans k.off⟩
structure Mem (X : Nat → Prop) (w0 : World) (D : Nat → Prop) (M : List Blk) (F : List Fact) (w : World) : Prop where
  frm : Frm D w0 w
  blk : ∀ m ∈ M, w.heap[m.1]? = some m.2
  own : ∀ m ∈ M, D m.1 ∨ w0.heap.size ≤ m.1
  nodup : (M.map (·.1)).Nodup
  xs : ∀ k, X k → k < w0.heap.size ∧ ¬ D k
  facts : ∀ p ∈ F, Rob (fun k => X k ∨ keys M k) p w
/-- What is known of the memory, now. -/
structure Now (M : List Blk) (F : List Fact) (w : World) : Prop where
  blk : ∀ m ∈ M, w.heap[m.1]? = some m.2
  facts : ∀ p ∈ F, p w
theorem Mem.toNow {X : Nat → Prop} {w0 : World} {D : Nat → Prop} {M : List Blk} {F : List Fact} {w : World} (h : Mem X w0 D M F w) : Now M F w := ⟨h.blk, fun p hp => (h.facts p hp).now⟩
theorem Now.sub {M M' : List Blk} {F F' : List Fact} {w : World} (h : Now M F w) (hM : ∀ m ∈ M', m ∈ M) (hF : ∀ p ∈ F', p ∈ F) : Now M' F' w := ⟨fun m hm => h.blk m (hM m hm), fun p hp => h.facts p (hF p hp)⟩
def look : Slots → Nat → Option Value
  | [], _ => none
  | (k, v) :: r, t => bif Nat.beq k t then some v else look r t
structure St (n : Nat) (X : Nat → Prop) (w0 : World) (D : Nat → Prop) (l : Slots) (M : List Blk) (F : List Fact) (a : Act) (w : World) : Prop where
  defers : a.defers = []
  size : a.tmps.size = n
  tmps : ∀ t v, look l t = some v → a.tmps[t]? = some v
  mem : Mem X w0 D M F w
def rho (l : Slots) : Operand → Value
  | .tmp t => (look l t).getD undef
  | .const v => v
  | .global g => .pointer (some ⟨g, 0, none⟩)
  | .func f => .func (.func f) #[] #[]
def knownX (l : Slots) : Operand → Bool
  | .tmp t => (look l t).isSome
  | _ => true
def knownOp (l : Slots) (o : Op) : Bool := o.operands.toList.all (knownX l) && match o with | .select .. => false | _ => true
section
variable {P : Program} {n : Nat} {X : Nat → Prop} {w0 : World} {D : Nat → Prop} {l l' : Slots} {M M' : List Blk} {F F' : List Fact} {a : Act} {w w' : World} {Q : Exit → Act → World → Prop}
theorem St.eval (h : St n X w0 D l M F a w) {x : Operand} (hx : knownX l x = true) : a.eval x = rho l x := by
  cases x with
  | tmp t =>
    simp only [knownX, Option.isSome_iff_exists] at hx
    obtain ⟨v, hv⟩ := hx
    have := h.tmps t v hv
    simp [Act.eval, rho, hv, Array.getD_eq_getD_getElem?, this]
  | _ => rfl
theorem St.exec (h : St n X w0 D l M F a w) {o : Oper} (hk : knownOp l o.op = true) : execOp a.eval o = execOp (rho l) o := by
  simp only [knownOp, Bool.and_eq_true] at hk
  refine execOp_congr o (fun cs b hs => ?_) (fun x hx => h.eval ?_)
  · rw [hs] at hk; simp at hk
  · exact List.all_eq_true.1 hk.1 x (by simpa using hx)
def putL : Option Tmp → Value → Slots → Slots
  | some d, v, l => (d, v) :: l
  | none, _, l => l
def dstOk (n : Nat) : Option Tmp → Bool
  | some d => Nat.blt d n
  | none => true
theorem St.put (h : St n X w0 D l M F a w) {d : Option Tmp} (hd : dstOk n d = true) (v : Value) (hm : Mem X w0 D M' F' w') : St n X w0 D (putL d v l) M' F' (a.put d v) w' := by
  cases d with
  | none => exact ⟨h.defers, h.size, h.tmps, hm⟩
  | some d =>
    refine ⟨h.defers, by simp [Act.put, h.size], fun t u ht => ?_, hm⟩
    simp only [putL, look] at ht
    have hd' : d < a.tmps.size := by rw [h.size]; simpa [dstOk, Nat.blt_eq] using hd
    by_cases e : d = t
    · subst e
      rw [show Nat.beq d d = true from Nat.beq_refl d] at ht
      simp only [cond_true, Option.some.injEq] at ht
      subst ht
      simp [Act.put, hd']
    · have hb : Nat.beq d t = false := by
        cases hb : Nat.beq d t with
        | true => exact absurd (Nat.eq_of_beq_eq_true hb) e
        | false => rfl
      rw [hb, cond_false] at ht
      simp only [Act.put]
      rw [Array.getElem?_setIfInBounds_ne e]
      exact h.tmps t u ht
/-! ### weakening -/
def SubL (l' l : Slots) : Prop := ∀ t v, look l' t = some v → look l t = some v
def prune (l : Slots) : List Nat → Slots
  | [] => []
  | t :: ts => match look l t with
    | some v => (t, v) :: prune l ts
    | none => prune l ts
theorem prune_sub (l : Slots) : ∀ ts, SubL (prune l ts) l
  | [] => fun t v h => by simp [prune, look] at h
  | t :: ts => fun u v h => by
    simp only [prune] at h
    cases hv : look l t with
    | none => rw [hv] at h; exact prune_sub l ts u v h
    | some x =>
      rw [hv] at h
      simp only [look] at h
      cases hb : Nat.beq t u with
      | true =>
        rw [hb, cond_true] at h
        rw [← Nat.eq_of_beq_eq_true hb, hv]; exact h
      | false => rw [hb, cond_false] at h; exact prune_sub l ts u v h
theorem Mem.sub (h : Mem X w0 D M F w) (hM : List.Sublist M' M) (hF : ∀ p ∈ F', p ∈ F) : Mem X w0 D M' F' w :=
  ⟨h.frm, fun m hm => h.blk m (hM.subset hm), fun m hm => h.own m (hM.subset hm), h.nodup.sublist (hM.map _), h.xs, fun p hp => (h.facts p (hF p hp)).step (Off.refl _ w) (fun k hk => .inl (hk.imp id (fun hk => (hM.map (·.1)).subset hk)))⟩
theorem St.sub (h : St n X w0 D l M F a w) (hl : SubL l' l) (hM : List.Sublist M' M) (hF : ∀ p ∈ F', p ∈ F) : St n X w0 D l' M' F' a w :=
  ⟨h.defers, h.size, fun t v ht => h.tmps t v (hl t v ht), h.mem.sub hM hF⟩
theorem SubL.refl (l : Slots) : SubL l l := fun _ _ h => h
/-- Facts of F by their numbers. -/
def pick (F : List Fact) (is : List Nat) : List Fact := is.map fun i => F.getD i (fun _ => True)
theorem pick_rob {A : Nat → Prop} (h : ∀ p ∈ F, Rob A p w) (is : List Nat) : ∀ p ∈ pick F is, Rob A p w := by
  intro p hp
  obtain ⟨i, _, rfl⟩ := List.mem_map.1 hp
  rw [List.getD_eq_getElem?_getD]
  cases hi : F[i]? with
  | none => exact fun _ _ => trivial
  | some q => exact h q (List.mem_of_getElem? hi)
theorem Mem.pickF (h : Mem X w0 D M F w) (is : List Nat) : Mem X w0 D M (pick F is) w := ⟨h.frm, h.blk, h.own, h.nodup, h.xs, pick_rob h.facts is⟩
theorem Mem.consF (h : Mem X w0 D M F w) {G : List Fact} (hG : ∀ p ∈ G, Rob (fun k => X k ∨ keys M k) p w) : Mem X w0 D M (G ++ F) w :=
  ⟨h.frm, h.blk, h.own, h.nodup, h.xs, fun p hp => (List.mem_append.1 hp).elim (hG p) (h.facts p)⟩
/-- A draw. -/
theorem Mem.drew (h : Mem X w0 D M F w) : Mem X w0 D M F w.drew :=
  ⟨⟨h.frm.os, h.frm.tape, h.frm.output, h.frm.off⟩, h.blk, h.own, h.nodup, h.xs, fun p hp => fun w' ho => h.facts p hp w' ho⟩
theorem alloc_heap (w : World) (o : Obj) : (w.alloc o).heap = w.heap.push o := rfl
/-- A new block. -/
theorem Mem.alloc (h : Mem X w0 D M F w) (o : Obj) : Mem X w0 D ((w.heap.size, o) :: M) F (w.alloc o) := by
  have hlt : ∀ m ∈ M, m.1 < w.heap.size := fun m hm => (Array.getElem?_eq_some_iff.1 (h.blk m hm)).1
  have hx : ∀ k, X k → k < w.heap.size := fun k hk => Nat.lt_of_lt_of_le (h.xs k hk).1 h.frm.off.1
  have hkeep : ∀ k, k < w.heap.size → (w.alloc o).heap[k]? = w.heap[k]? := fun k hk => Below.heap_alloc w o k hk
  refine ⟨⟨h.frm.os, h.frm.tape, h.frm.output, h.frm.off.trans ⟨by rw [alloc_heap]; simp, fun k hk _ => hkeep k hk⟩⟩, ?_, ?_, ?_, h.xs, ?_⟩
  · intro m hm
    rcases List.mem_cons.1 hm with rfl | hm
    · rw [alloc_heap]; simp
    · rw [hkeep _ (hlt m hm)]; exact h.blk m hm
  · intro m hm
    rcases List.mem_cons.1 hm with rfl | hm
    · exact .inr h.frm.off.1
    · exact h.own m hm
  · simp only [List.map_cons, List.nodup_cons]
    refine ⟨fun hm => ?_, h.nodup⟩
    obtain ⟨m, hm, he⟩ := List.mem_map.1 hm
    have := hlt m hm
    omega
  · intro p hp
    refine (h.facts p hp).step ⟨by rw [alloc_heap]; simp, fun k hk _ => hkeep k hk⟩ (fun k hk => ?_)
    rcases hk with hk | hk
    · exact .inl (.inl hk)
    · simp only [keys, List.map_cons, List.mem_cons] at hk
      rcases hk with rfl | hk
      · exact .inr (Nat.le_refl _)
      · exact .inl (.inr hk)
end
end Go.Proofs.YtegnonhgildhoaaGreat.E
