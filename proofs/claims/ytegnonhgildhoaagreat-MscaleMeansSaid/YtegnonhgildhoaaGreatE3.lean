/- Judgements on code out of a state, regions step by step, contracts. -/
import Derived.Test.YtegnonhgildhoaaGreatE2
namespace Go.Proofs.YtegnonhgildhoaaGreat.E
open Go Go.RowKit
set_option linter.unusedVariables false
set_option linter.unusedSimpArgs false
section
variable (P : Program) (n : Nat) (X : Nat → Prop) (w0 : World) (D : Nat → Prop)
def J (c : Code) (Q : Exit → Act → World → Prop) (l : Slots) (M : List Blk) (F : List Fact) : Prop := ∀ a w, St n X w0 D l M F a w → c.wp P Q a w
def KN (Q : Exit → Act → World → Prop) (l : Slots) (M : List Blk) (F : List Fact) : Prop := ∀ a w, St n X w0 D l M F a w → Q .normal a w
def KX (id : Nat) (Q : Exit → Act → World → Prop) (l : Slots) (M : List Blk) (F : List Fact) : Prop := ∀ a w, St n X w0 D l M F a w → Q (.exit id) a w
def KR (Q : Exit → Act → World → Prop) (l : Slots) (M : List Blk) (F : List Fact) : Prop := ∀ a w, St n X w0 D l M F a w → Q .ret a w
def RN (ops : Array Oper) (Q : Exit → Act → World → Prop) (k : Nat) (l : Slots) (M : List Blk) (F : List Fact) : Prop :=
  ∀ a w, St n X w0 D l M F a w → wpOps P ops Q ((List.range ops.size).drop k) a w
def RD (ops : Array Oper) (Q : Exit → Act → World → Prop) (ds : List Nat) (L : List Nat) (l : Slots) (M : List Blk) (F : List Fact) : Prop :=
  ∀ a w fuel, L.length + fuel = ops.size → Clo ops (lst ops.size L) → St n X w0 D l M F a w → WA P ops Q ds (Now M F) fuel (lst ops.size L) a w
def OT (o : Oper) (Q : Exit → Act → World → Prop) (l : Slots) (M : List Blk) (F : List Fact) {ι : Type} (φ : ι → Prop) (l' : ι → Slots) (M' : ι → List Blk) (F' : ι → List Fact) : Prop :=
  ∀ a w, St n X w0 D l M F a w → ∀ K : Act → World → Prop, (∀ x a' w', φ x → St n X w0 D (l' x) (M' x) (F' x) a' w' → K a' w') → o.wp P a w K Q
end
section
variable {P : Program} {ops : Array Oper} {n : Nat} {X : Nat → Prop} {w0 : World} {D : Nat → Prop} {l l' l1 : Slots} {M M' : List Blk} {F F' : List Fact} {Q : Exit → Act → World → Prop} {ds L L' : List Nat}
/-! ### code -/
theorem J.seq {x y : Code} (h : J P n X w0 D x (Exit.then (y.wp P Q) Q) l M F) : J P n X w0 D (.seq x y) Q l M F := fun a w hs => wp_seq (h a w hs)
theorem KN.next {y : Code} (h : J P n X w0 D y Q l M F) : KN n X w0 D (Exit.then (y.wp P Q) Q) l M F := h
theorem KN.blk {id : Nat} (h : KN n X w0 D Q l M F) : KN n X w0 D (Exit.inBlock id Q) l M F := h
theorem KX.next {id : Nat} {nx : Act → World → Prop} (h : KX n X w0 D id Q l M F) : KX n X w0 D id (Exit.then nx Q) l M F := h
theorem KX.hit {id : Nat} (h : KN n X w0 D Q l M F) : KX n X w0 D id (Exit.inBlock id Q) l M F := fun a w hs => by simp only [Exit.inBlock, if_true]; exact h a w hs
theorem KR.next {nx : Act → World → Prop} (h : KR n X w0 D Q l M F) : KR n X w0 D (Exit.then nx Q) l M F := h
theorem KR.blk {id : Nat} (h : KR n X w0 D Q l M F) : KR n X w0 D (Exit.inBlock id Q) l M F := h
theorem J.skip (h : KN n X w0 D Q l M F) : J P n X w0 D .skip Q l M F := fun a w hs => wp_skip (h a w hs)
theorem J.exit {id : Nat} (h : KX n X w0 D id Q l M F) : J P n X w0 D (.exit id) Q l M F := fun a w hs => wp_exit (h a w hs)
theorem J.ret (h : KR n X w0 D Q l M F) : J P n X w0 D .ret Q l M F := fun a w hs => wp_ret (h a w hs)
theorem J.block {id : Nat} {c : Code} (h : J P n X w0 D c (Exit.inBlock id Q) l M F) : J P n X w0 D (.block id c) Q l M F := fun a w hs => wp_block (h a w hs)
def condB (l : Slots) : Operand → Option Bool
  | .tmp t => match look l t with
    | some (.bool b) => some b
    | _ => none
  | .const (.bool b) => some b
  | _ => none
theorem St.cond {a : Act} {w : World} (h : St n X w0 D l M F a w) {c : Operand} {b : Bool} (hc : condB l c = some b) : a.eval c = .bool b := by
  cases c with
  | tmp t =>
    simp only [condB] at hc
    cases hv : look l t with
    | none => simp only [hv] at hc; cases hc
    | some v =>
      rw [h.eval (by simp [knownX, hv])]
      simp only [rho, hv, Option.getD_some]
      simp only [hv] at hc
      cases v <;> first | (simp only [Option.some.injEq] at hc; subst hc; rfl) | (cases hc; done)
  | const v =>
    cases v <;> first | (simp only [condB, Option.some.injEq] at hc; subst hc; rfl) | (cases hc; done)
  | global g => simp [condB] at hc
  | func f => simp [condB] at hc
theorem J.condT {c : Operand} {x y : Code} (hc : condB l c = some true) (h : J P n X w0 D x Q l M F) : J P n X w0 D (.cond c x y) Q l M F := fun a w hs => wp_cond_true (hs.cond hc) (h a w hs)
theorem J.condF {c : Operand} {x y : Code} (hc : condB l c = some false) (h : J P n X w0 D y Q l M F) : J P n X w0 D (.cond c x y) Q l M F := fun a w hs => wp_cond_false (hs.cond hc) (h a w hs)
theorem J.cond {c : Operand} {x y : Code} (b : Bool) (hc : condB l c = some b) (ht : b = true → J P n X w0 D x Q l M F) (hf : b = false → J P n X w0 D y Q l M F) : J P n X w0 D (.cond c x y) Q l M F :=
  fun a w hs => wp_cond_split (hs.cond hc) (fun h => ht h a w hs) (fun h => hf h a w hs)
/-! ### turning a state -/
theorem SubL.of_prune {ts : List Nat} (h : prune l ts = l') : SubL l' l := h ▸ prune_sub l ts
theorem J.facts {c : Code} (is : List Nat) (h : pick F is = F') (k : J P n X w0 D c Q l M F') : J P n X w0 D c Q l M F := fun a w hs => k a w ⟨hs.defers, hs.size, hs.tmps, h ▸ hs.mem.pickF is⟩
/-- What a fact says of the values alone. -/
theorem J.fact {c : Code} {φ : Prop} (h : ∀ w, (∀ p ∈ F, p w) → φ) (k : φ → J P n X w0 D c Q l M F) : J P n X w0 D c Q l M F := fun a w hs => k (h w (fun p hp => (hs.mem.facts p hp).now)) a w hs
/-- A fact that follows. -/
theorem J.also {c : Code} (q : Fact) (h : ∀ w, (∀ p ∈ F, p w) → q w) (k : J P n X w0 D c Q l M (q :: F)) : J P n X w0 D c Q l M F :=
  fun a w hs => k a w ⟨hs.defers, hs.size, hs.tmps, hs.mem.consF (G := [q]) (fun p hp => by
    simp only [List.mem_singleton] at hp; subst hp
    exact fun w' ho => h w' (fun p hp => hs.mem.facts p hp w' ho))⟩
/-- A block that is no longer written is a fact. -/
def fBlk (b : Nat) (o : Obj) : Fact := fun w => w.heap[b]? = some o
def dropN {α : Type} : List α → Nat → List α
  | [], _ => []
  | _ :: r, 0 => r
  | x :: r, k + 1 => x :: dropN r k
theorem dropN_sub {α : Type} : ∀ (l : List α) (k : Nat), List.Sublist (dropN l k) l
  | [], _ => List.Sublist.refl _
  | x :: r, 0 => List.sublist_cons_self x r
  | x :: r, k + 1 => (dropN_sub r k).cons_cons x
theorem dropN_not {α β : Type} (f : α → β) : ∀ (l : List α) (k : Nat) (x : α), l[k]? = some x → (l.map f).Nodup → f x ∉ (dropN l k).map f
  | [], k, x, h, _ => by simp at h
  | y :: r, 0, x, h, hn => by
    simp only [List.getElem?_cons_zero, Option.some.injEq] at h
    subst h
    simpa [dropN] using (List.nodup_cons.1 hn).1
  | y :: r, k + 1, x, h, hn => by
    simp only [List.getElem?_cons_succ] at h
    simp only [List.map_cons, List.nodup_cons] at hn
    have hx : f x ∈ r.map f := List.mem_map.2 ⟨x, List.mem_of_getElem? h, rfl⟩
    simp only [dropN, List.map_cons, List.mem_cons, not_or]
    exact ⟨fun e => hn.1 (e ▸ hx), dropN_not f r k x h hn.2⟩
theorem Mem.share {w : World} {m b : Nat} {o : Obj} (h : Mem X w0 D M F w) (hm : M[m]? = some (b, o)) : Mem X w0 D (dropN M m) (fBlk b o :: F) w := by
  have h1 := h.sub (dropN_sub M m) (fun p hp => hp)
  have hmem := List.mem_of_getElem? hm
  refine h1.consF (G := [fBlk b o]) (fun p hp => ?_)
  simp only [List.mem_singleton] at hp
  subst hp
  intro w' ho
  have hb := h.blk _ hmem
  show w'.heap[b]? = some o
  rw [ho.2 b (Array.getElem?_eq_some_iff.1 hb).1 ?_]; exact hb
  rintro (hx | hk)
  · have := h.xs b hx
    rcases h.own _ hmem with h2 | h2
    · exact this.2 h2
    · have h3 : w0.heap.size ≤ b := h2
      omega
  · exact dropN_not (·.1) M m (b, o) hm h.nodup hk
theorem J.share {c : Code} (m : Nat) {b : Nat} {o : Obj} (hm : M[m]? = some (b, o)) (hM : dropN M m = M') (k : J P n X w0 D c Q l M' (fBlk b o :: F)) : J P n X w0 D c Q l M F :=
  fun a w hs => k a w ⟨hs.defers, hs.size, hs.tmps, hM ▸ hs.mem.share hm⟩
/-! ### plain regions -/
theorem J.regN {id : Nat} (h : RN P n X w0 D ops Q 0 l M F) : J P n X w0 D (.region id ops false) Q l M F := fun a w hs => wp_region (by have := h a w hs; simpa using this)
theorem RN.done {k : Nat} (hk : Nat.ble ops.size k = true) (h : KN n X w0 D Q l M F) : RN P n X w0 D ops Q k l M F := fun a w hs => by
  rw [List.drop_eq_nil_of_le (by simpa using Nat.le_of_ble_eq_true hk)]
  exact h a w hs
theorem drop_range {n k : Nat} (h : k < n) : (List.range n).drop k = k :: (List.range n).drop (k + 1) := by
  rw [List.drop_eq_getElem_cons (by simpa using h)]; simp
def batN (P : Program) (ops : Array Oper) (n : Nat) : List (Option Nat) → Nat → Slots → List Blk → List (Nat × Nat) → Option (Nat × Slots × List Blk × List (Nat × Nat))
  | [], k, l, M, ob => some (k, l, M, ob)
  | mi :: r, k, l, M, ob => match goB P ops n l M k mi with
    | some (l', M', ob') => batN P ops n r (k + 1) l' M' (ob' ++ ob)
    | none => none
def pruneN (ts : List Nat) : Option (Nat × Slots × List Blk × List (Nat × Nat)) → Option (Nat × Slots × List Blk × List (Nat × Nat))
  | some (k, l, M, ob) => some (k, prune l ts, M, ob)
  | none => none
def dup (zs : List Nat) : List (Nat × Nat) := zs.map fun z => (z, z)
theorem dup_eq {zs : List Nat} : ∀ p ∈ dup zs, p.1 = p.2 := by
  intro p hp
  obtain ⟨z, _, rfl⟩ := List.mem_map.1 hp
  rfl
theorem goR_lt {i : Nat} {mi : Option Nat} {r : Value × List (Nat × Nat)} (h : goR P ops n l M i mi = some r) : i < ops.size := by
  unfold goR at h
  cases ho : ops[i]? with
  | none => rw [ho] at h; cases h
  | some o => exact (Array.getElem?_eq_some_iff.1 ho).1
theorem goB_lt {i : Nat} {mi : Option Nat} {r : Slots × List Blk × List (Nat × Nat)} (h : goB P ops n l M i mi = some r) : i < ops.size := by
  unfold goB at h
  cases mi with
  | none =>
    simp only at h
    cases hg : goR P ops n l M i none with
    | none => rw [hg] at h; cases h
    | some r => exact goR_lt hg
  | some m =>
    simp only at h
    cases ho : ops[i]? with
    | none => rw [ho] at h; cases h
    | some o => exact (Array.getElem?_eq_some_iff.1 ho).1
theorem batN_sound : ∀ (mis : List (Option Nat)) {k k' : Nat} {l l' : Slots} {M M' : List Blk} {ob ob' : List (Nat × Nat)}, batN P ops n mis k l M ob = some (k', l', M', ob') → (∀ p ∈ ob', p.1 = p.2) →
    (∀ p ∈ ob, p.1 = p.2) ∧ (RN P n X w0 D ops Q k' l' M' F → RN P n X w0 D ops Q k l M F)
  | [], k, k', l, l', M, M', ob, ob', h, hob => by
    simp only [batN, Option.some.injEq, Prod.mk.injEq] at h
    obtain ⟨rfl, rfl, rfl, rfl⟩ := h
    exact ⟨hob, id⟩
  | mi :: r, k, k', l, l', M, M', ob, ob', h, hob => by
    simp only [batN] at h
    cases hg : goB P ops n l M k mi with
    | none => rw [hg] at h; cases h
    | some q =>
      obtain ⟨l1, M1, ob1⟩ := q
      rw [hg] at h
      simp only at h
      obtain ⟨h1, h2⟩ := batN_sound r h hob
      refine ⟨fun p hp => h1 p (List.mem_append_right _ hp), fun hk a w hs => ?_⟩
      rw [drop_range (goB_lt hg), wpOps_cons]
      exact goB_sound hg (fun p hp => h1 p (List.mem_append_left _ hp)) hs (fun a' w' hs' => h2 hk a' w' hs')
theorem RN.bat {k : Nat} (mis : List (Option Nat)) (ts : List Nat) {k' : Nat} (zs : List Nat) (h : pruneN ts (batN P ops n mis k l M []) = some (k', l', M', dup zs)) (r : RN P n X w0 D ops Q k' l' M' F) : RN P n X w0 D ops Q k l M F := by
  unfold pruneN at h
  split at h
  · rename_i k1 l1 M1 ob1 hb
    simp only [Option.some.injEq, Prod.mk.injEq] at h
    obtain ⟨rfl, hl, rfl, rfl⟩ := h
    exact (batN_sound mis hb dup_eq).2 (fun a w hs => r a w (hs.sub (.of_prune hl) (List.Sublist.refl _) (fun _ hp => hp)))
  · cases h
theorem RN.op {k : Nat} {ι : Type} {φ : ι → Prop} {l' : ι → Slots} {M' : ι → List Blk} {F' : ι → List Fact} (hk : Nat.blt k ops.size = true) (hw : wantedL ops l (opOf ops k) = some true)
    (h : OT P n X w0 D (opOf ops k) Q l M F φ l' M' F') (r : ∀ x, φ x → RN P n X w0 D ops Q (k + 1) (l' x) (M' x) (F' x)) : RN P n X w0 D ops Q k l M F := fun a w hs => by
  rw [Nat.blt_eq] at hk
  rw [drop_range hk, wpOps_cons]
  have ho : ops[k]? = some (opOf ops k) := by simp [opOf, hk]
  unfold wpOp
  rw [ho]
  simp only [hs.wanted hw, if_true]
  exact .inl (h a w hs _ (fun x a' w' hx hs' => r x hx a' w' hs'))
/-! ### regions whose order is open -/
theorem J.regD {id : Nat} [NoPanic Q] (hm : P.follows .mixedOrders = true) (ds : List Nat) (h : RD P n X w0 D ops Q ds [] l M F) : J P n X w0 D (.region id ops true) Q l M F := fun a w hs =>
  wp_region_any hm (wpAny_of_WA _ _ _ _ (by
    have := h a w.drew ops.size (by simp) (fun j oj hj hl => by
      rw [lst_get] at hl
      by_cases hlt : j < ops.size
      · rw [if_pos hlt] at hl; simp at hl
      · rw [if_neg hlt] at hl; cases hl) ⟨hs.defers, hs.size, hs.tmps, hs.mem.drew⟩
    rw [lst_nil] at this
    exact this))
theorem RD.done (hr : (List.range ops.size).filter (readyL ops L) = []) (h : KN n X w0 D Q l M F) : RD P n X w0 D ops Q ds L l M F := fun a w fuel _ _ hs => by
  have hr' : Region.ready .any ops (lst ops.size L) = [] := by rw [ready_list, hr]
  cases fuel with
  | zero => exact ⟨hr', h a w hs⟩
  | succ k => exact ⟨fun _ => h a w hs, by rw [hr']; simp⟩
def noSel (ops : Array Oper) : Bool := ops.toList.all fun o => match o.op with | .select .. => false | _ => true
theorem noSel_spec (h : noSel ops = true) (j : Nat) (o : Oper) (cs : Array SelectCase) (b : Bool) (ho : ops[j]? = some o) : o.op ≠ .select cs b := by
  intro heq
  have := List.all_eq_true.1 h o (by simpa using Array.mem_of_getElem? ho)
  simp [heq] at this
/-- Operation i may be taken first. -/
def mayTake (ops : Array Oper) (ds L : List Nat) (i : Nat) : Bool := readyL ops L i && freeL ops L i (opOf ops i) && !ds.elem i && Nat.blt L.length ops.size
theorem len_le {a b c : Nat} (h : a + b = c) (hlt : a < c) : ∃ k, b = k + 1 ∧ a + 1 + k = c := ⟨b - 1, by omega, by omega⟩
theorem RD.take1 [NoPanic Q] {i : Nat} {v : Value} (hsel : noSel ops = true) (hT : tailOk ops ds = true) (hm : mayTake ops ds L i = true) {o : Oper} (ho : ops[i]? = some o) (hd : dstOk n o.dst = true)
    (hy : ∀ a w, St n X w0 D l M F a w → YieldsIf P ops (Now M F) o v a) (r : RD P n X w0 D ops Q ds (i :: L) (putL o.dst v l) M F) : RD P n X w0 D ops Q ds L l M F := fun a w fuel hf hc hs => by
  simp only [mayTake, Bool.and_eq_true, Bool.not_eq_true'] at hm
  obtain ⟨⟨⟨h1, h2⟩, h3⟩, h4⟩ := hm
  rw [Nat.blt_eq] at h4
  obtain ⟨k, rfl, hk⟩ := len_le hf h4
  have he : opOf ops i = o := by simp [opOf, ho]
  rw [he] at h2
  have hready : i ∈ Region.ready .any ops (lst ops.size L) := ready_iff.2 h1
  have hr' : WA P ops Q ds (Now M F) k ((lst ops.size L).setIfInBounds i true) (a.put o.dst v) w := by
    rw [lst_set]
    exact r _ w k (by simpa using hk) (lst_set ▸ hc.set hready) (hs.put hd v hs.mem)
  cases hp : pureOp o with
  | false => exact WA_first ho (noSel_spec hsel) (tailOk_spec hT) (fun hi => by rw [List.elem_iff.2 hi] at h3; cases h3) hp k _ a w (freeL_spec h2) hc hready (hy a w hs) hs.mem.toNow hr'
  | true => exact WA_firstP ho (noSel_spec hsel) k _ a w (freeL_spec h2) hc hready (yields_pure hp hs.mem.toNow (hy a w hs)) hr'
def batD (P : Program) (ops : Array Oper) (n : Nat) (ds : List Nat) (M : List Blk) : List (Nat × Option Nat) → List Nat → Slots → List (Nat × Nat) → Option (List Nat × Slots × List (Nat × Nat))
  | [], L, l, ob => some (L, l, ob)
  | (i, mi) :: r, L, l, ob => match mayTake ops ds L i with
    | true => match goR P ops n l M i mi with
      | some (v, ob') => batD P ops n ds M r (i :: L) (putL (opOf ops i).dst v l) (ob' ++ ob)
      | none => none
    | false => none
def pruneD (ts : List Nat) : Option (List Nat × Slots × List (Nat × Nat)) → Option (List Nat × Slots × List (Nat × Nat))
  | some (L, l, ob) => some (L, prune l ts, ob)
  | none => none
theorem batD_sound [NoPanic Q] (hsel : noSel ops = true) (hT : tailOk ops ds = true) : ∀ (is : List (Nat × Option Nat)) {L L' : List Nat} {l l' : Slots} {ob ob' : List (Nat × Nat)}, batD P ops n ds M is L l ob = some (L', l', ob') → (∀ p ∈ ob', p.1 = p.2) →
    (∀ p ∈ ob, p.1 = p.2) ∧ (RD P n X w0 D ops Q ds L' l' M F → RD P n X w0 D ops Q ds L l M F)
  | [], L, L', l, l', ob, ob', h, hob => by
    simp only [batD, Option.some.injEq, Prod.mk.injEq] at h
    obtain ⟨rfl, rfl, rfl⟩ := h
    exact ⟨hob, id⟩
  | (i, mi) :: r, L, L', l, l', ob, ob', h, hob => by
    simp only [batD] at h
    cases hm : mayTake ops ds L i with
    | false => rw [hm] at h; cases h
    | true =>
      rw [hm] at h
      simp only at h
      cases hg : goR P ops n l M i mi with
      | none => rw [hg] at h; cases h
      | some q =>
        obtain ⟨v, ob1⟩ := q
        rw [hg] at h
        simp only at h
        obtain ⟨h1, h2⟩ := batD_sound hsel hT r h hob
        refine ⟨fun p hp => h1 p (List.mem_append_right _ hp), fun hk => ?_⟩
        obtain ⟨o, ho, hd, hy⟩ := goR_sound (X := X) (w0 := w0) (D := D) (F := F) hg (fun p hp => h1 p (List.mem_append_left _ hp))
        have he : opOf ops i = o := by simp [opOf, ho]
        rw [he] at h2
        exact RD.take1 hsel hT hm ho hd hy (h2 hk)
/-- The region's own checks, once: no select in it, and ds come last. -/
def regOk (ops : Array Oper) (ds : List Nat) : Bool := noSel ops && tailOk ops ds
theorem RD.bat [NoPanic Q] (hok : regOk ops ds = true) (is : List (Nat × Option Nat)) (ts : List Nat) (zs : List Nat) (h : pruneD ts (batD P ops n ds M is L l []) = some (L', l', dup zs)) (r : RD P n X w0 D ops Q ds L' l' M F) : RD P n X w0 D ops Q ds L l M F := by
  simp only [regOk, Bool.and_eq_true] at hok
  unfold pruneD at h
  split at h
  · rename_i L1 l1 ob1 hb
    simp only [Option.some.injEq, Prod.mk.injEq] at h
    obtain ⟨rfl, hl, rfl⟩ := h
    exact (batD_sound hok.1 hok.2 is hb dup_eq).2 (fun a w fuel hf hc hs => r a w fuel hf hc (hs.sub (.of_prune hl) (List.Sublist.refl _) (fun _ hp => hp)))
  · cases h
/-- The one operation that may come up now (none of ds): it keeps what is known of the memory. -/
theorem RD.op {i : Nat} {ι : Type} {φ : ι → Prop} {l' : ι → Slots} {M' : ι → List Blk} {F' : ι → List Fact} (hok : regOk ops ds = true)
    (hr : (List.range ops.size).filter (readyL ops L) = [i]) (hi : (ds.elem i || !Nat.blt L.length ops.size) = false) (hw : wantedL ops l (opOf ops i) = some true) (h : OT P n X w0 D (opOf ops i) Q l M F φ l' M' F')
    (hsub : ∀ x, (∀ m ∈ M, m ∈ M' x) ∧ ∀ p ∈ F, p ∈ F' x) (r : ∀ x, φ x → RD P n X w0 D ops Q ds (i :: L) (l' x) (M' x) (F' x)) : RD P n X w0 D ops Q ds L l M F := fun a w fuel hf hc hs => by
  simp only [regOk, Bool.and_eq_true] at hok
  simp only [Bool.or_eq_false_iff, Bool.not_eq_false'] at hi
  obtain ⟨hi1, hi2⟩ := hi
  rw [Nat.blt_eq] at hi2
  obtain ⟨k, rfl, hk⟩ := len_le hf hi2
  have hr' : Region.ready .any ops (lst ops.size L) = [i] := by rw [ready_list, hr]
  have hready : i ∈ Region.ready .any ops (lst ops.size L) := by rw [hr']; simp
  refine ⟨fun h0 => (by rw [h0] at hready; cases hready), fun j hj => ?_⟩
  rw [hr'] at hj
  simp only [List.mem_singleton] at hj
  subst hj
  have hlt := readyL_lt (ready_iff.1 hready)
  have ho : ops[j]? = some (opOf ops j) := by simp [opOf, hlt]
  unfold wpOp
  rw [ho]
  simp only [hs.wanted hw, if_true]
  refine .inl (h a w hs _ (fun x a' w' hx hs' => ?_))
  have hm : Now M F w' := hs'.mem.toNow.sub (hsub x).1 (hsub x).2
  refine ⟨fun _ _ => hm, ?_⟩
  refine WA_strong (tailOk_spec hok.2) (fun w hw => hw.sub (hsub x).1 (hsub x).2) k _ a' w' (hc.set hready) hs'.mem.toNow ?_
  rw [lst_set]
  exact r x hx a' w' k (by simpa using hk) (lst_set ▸ hc.set hready) hs'
/-- A store (of ds) that alone may come up. -/
theorem RD.last {i : Nat} (mi : Option Nat) (ts : List Nat) (zs : List Nat) (hok : regOk ops ds = true)
    (hr : (List.range ops.size).filter (readyL ops L) = [i]) (hi : (!ds.elem i || !Nat.blt L.length ops.size) = false) (h : pruneN ts ((goB P ops n l M i mi).map fun q => (0, q)) = some (0, l', M', dup zs))
    (r : RD P n X w0 D ops Q ds (i :: L) l' M' F) : RD P n X w0 D ops Q ds L l M F := fun a w fuel hf hc hs => by
  simp only [regOk, Bool.and_eq_true] at hok
  simp only [Bool.or_eq_false_iff, Bool.not_eq_false'] at hi
  obtain ⟨hi1, hi2⟩ := hi
  rw [Nat.blt_eq] at hi2
  obtain ⟨k, rfl, hk⟩ := len_le hf hi2
  have hr' : Region.ready .any ops (lst ops.size L) = [i] := by rw [ready_list, hr]
  have hready : i ∈ Region.ready .any ops (lst ops.size L) := by rw [hr']; simp
  have hid : i ∈ ds := by simpa using hi1
  refine ⟨fun h0 => (by rw [h0] at hready; cases hready), fun j hj => ?_⟩
  rw [hr'] at hj
  simp only [List.mem_singleton] at hj
  subst hj
  cases hg : goB P ops n l M j mi with
  | none => rw [hg] at h; cases h
  | some q =>
    obtain ⟨l1, M1, ob1⟩ := q
    rw [hg] at h
    simp only [pruneN, Option.map_some, Option.some.injEq, Prod.mk.injEq, true_and] at h
    obtain ⟨hl, rfl, rfl⟩ := h
    refine goB_sound hg dup_eq hs (fun a' w' hs' => ⟨fun hn => absurd hid hn, ?_⟩)
    refine WA_tail (S' := Now M1 F) k _ a' w' (fun j' hj' hd => (tailOk_spec hok.2 j hid j' hj' hd).imp id (fun h => getD_set_true (hc.ready h hready))) ?_
    rw [lst_set]
    exact r a' w' k (by simpa using hk) (lst_set ▸ hc.set hready) (hs'.sub (.of_prune hl) (List.Sublist.refl _) (fun _ hp => hp))
end
end Go.Proofs.YtegnonhgildhoaaGreat.E
