/- Regions whose order is open: an operation that only reads may be taken first; the stores come last. -/
import Derived.Test.YtegnonhgildhoaaGreatE0
namespace Go.Proofs.YtegnonhgildhoaaGreat.E
open Go Go.RowKit
set_option linter.unusedVariables false
set_option linter.unusedSimpArgs false
/-- What follows a panic never holds: no contract here lets a call panic. -/
class NoPanic (Q : Exit → Act → World → Prop) : Prop where
  no : ∀ c a w, ¬ Q (.panic c) a w
instance {nx : Act → World → Prop} {Q : Exit → Act → World → Prop} [h : NoPanic Q] : NoPanic (Exit.then nx Q) := ⟨fun c a w hq => h.no c a w hq⟩
instance {id : Nat} {Q : Exit → Act → World → Prop} [h : NoPanic Q] : NoPanic (Exit.inBlock id Q) := ⟨fun c a w hq => h.no c a w hq⟩
section
variable {P : Program} {ops : Array Oper} {Q : Exit → Act → World → Prop} {S S' : World → Prop} {ds : List Nat}
inductive Anc (ops : Array Oper) : Nat → Nat → Prop where
  | base {d : Nat} {o : Oper} {e : Edge} : ops[d]? = some o → e ∈ o.after → Region.binds .any e = true → Anc ops e.on d
  | step {j d : Nat} {o : Oper} {e : Edge} : ops[d]? = some o → e ∈ o.after → Region.binds .any e = true → Anc ops j e.on → Anc ops j d
def Clo (ops : Array Oper) (listed : Array Bool) : Prop :=
  ∀ j oj, ops[j]? = some oj → listed.getD j false = true → ∀ e ∈ oj.after, Region.binds .any e = true → listed.getD e.on false = true
theorem Clo.anc {listed : Array Bool} (hc : Clo ops listed) {j d : Nat} (h : Anc ops j d) : listed.getD d false = true → listed.getD j false = true := by
  induction h with
  | base ho he hb => exact fun hl => hc _ _ ho hl _ he hb
  | step ho he hb _ ih => exact fun hl => ih (hc _ _ ho hl _ he hb)
theorem Clo.ready {listed : Array Bool} (hc : Clo ops listed) {j d : Nat} (h : Anc ops j d) (hd : d ∈ Region.ready .any ops listed) : listed.getD j false = true := by
  obtain ⟨_, o, ho, hall⟩ := mem_ready.1 hd
  cases h with
  | base ho' he hb => rw [ho] at ho'; cases ho'; exact hall _ he hb
  | step ho' he hb h' => rw [ho] at ho'; cases ho'; exact hc.anc h' (hall _ he hb)
theorem Clo.set {listed : Array Bool} {i : Nat} (h : Clo ops listed) (hi : i ∈ Region.ready .any ops listed) : Clo ops (listed.setIfInBounds i true) := by
  obtain ⟨_, oi, hoi, hall⟩ := mem_ready.1 hi
  intro j oj hj hl e he hb
  by_cases hij : i = j
  · subst hij
    have : oj = oi := Option.some.inj (hj.symm.trans hoi)
    subst this
    exact getD_set_true (hall e he hb)
  · rw [getD_set_ne false hij] at hl
    exact getD_set_true (h j oj hj hl e he hb)
/-- An operation on values alone: it does not look at the world. -/
def pureOp (o : Oper) : Bool := match o.op with
  | .move _ => true
  | .assign _ => true
  | .extract .. => true
  | _ => false
def pureI (ops : Array Oper) (j : Nat) : Bool := match ops[j]? with
  | some o => pureOp o
  | none => false
theorem pure_run {o : Oper} (h : pureOp o = true) (ρ : Operand → Value) : (∃ v, ∀ w, (execOp ρ o).run P w = .ok (.value v) w) ∨ (∀ w v w', (execOp ρ o).run P w ≠ .ok v w') := by
  unfold pureOp at h
  unfold execOp
  split at h
  · rename_i x hop
    rw [hop]; exact .inl ⟨ρ x, fun w => rfl⟩
  · rename_i x hop
    rw [hop]; exact .inl ⟨ρ x, fun w => rfl⟩
  · rename_i t ix hop
    rw [hop]
    simp only
    cases hv : ρ t with
    | tuple vs =>
      cases he : vs[ix]? with
      | some u => refine .inl ⟨u, fun w => ?_⟩; simp [Instr.extract, he, Sem.run_bind, Sem.run, pure]
      | none => refine .inr (fun w v w' => ?_); simp [Instr.extract, he, Sem.run_bind, Sem.run, stuck]
    | _ => refine .inr (fun w v w' => ?_); simp [Instr.extract, Sem.run_bind, Sem.run, stuck]
  · cases h
theorem pure_halt {o : Oper} (h : pureOp o = true) (ρ : Operand → Value) (w : World) : ∀ v w', (execOp ρ o).run P w ≠ .halt (.panic v) w' := by
  unfold pureOp at h
  unfold execOp
  split at h
  · rename_i x hop
    rw [hop]; intro v w' e; cases e
  · rename_i x hop
    rw [hop]; intro v w' e; cases e
  · rename_i t ix hop
    rw [hop]
    intro v w'
    simp only
    cases hv : ρ t with
    | tuple vs =>
      cases he : vs[ix]? with
      | some u => simp [Instr.extract, he, Sem.run_bind, Sem.run, pure]
      | none => simp [Instr.extract, he, Sem.run_bind, Sem.run, stuck]
    | _ => simp [Instr.extract, Sem.run_bind, Sem.run, stuck]
  · cases h
theorem wpOp_pure {i : Nat} (h : pureI ops i = true) {K : Act → World → Prop} {a : Act} {w : World} (hw : wpOp P ops Q i K a w) : wpOp P ops Q i (fun a' w' => w' = w ∧ K a' w') a w := by
  unfold pureI at h
  unfold wpOp at *
  cases ho : ops[i]? with
  | none => rw [ho] at h; cases h
  | some o =>
    rw [ho] at h hw
    simp only at h hw ⊢
    split
    · rename_i hwt
      rw [if_pos hwt] at hw
      rcases hw with hw | hw
      · refine .inl ?_
        rcases pure_run (P := P) h a.eval with ⟨v, hv⟩ | hv
        · unfold Oper.wp at *
          rw [hv w, Oper.upon_value] at *
          exact ⟨rfl, hw⟩
        · unfold Oper.wp at hw ⊢
          cases hr : (execOp a.eval o).run P w with
          | ok v w' => exact absurd hr (hv w v w')
          | halt e w' =>
            rw [hr] at hw
            cases e <;> first | exact absurd hr (pure_halt h a.eval w _ _) | exact hw
      · exact .inr hw
    · rename_i hwt
      rw [if_neg hwt] at hw
      exact ⟨trivial, hw⟩
theorem yields_pure {o : Oper} (h : pureOp o = true) {v : Value} {a : Act} {w : World} (hS : S w) (hy : YieldsIf P ops S o v a) : YieldsIf P ops (fun _ => True) o v a := by
  rcases hy with ⟨h1, h2⟩ | h2
  · refine .inl ⟨h1, fun w' _ => ?_⟩
    have h3 := h2 w hS
    rcases pure_run (P := P) h a.eval with ⟨u, hu⟩ | hu
    · rw [hu w] at h3
      rw [hu w']
      cases h3; rfl
    · exact absurd h3 (hu w _ _)
  · exact .inr h2
/-- Each of ds waits for all that is not of ds, but for operations on values alone. -/
def Tail (ops : Array Oper) (ds : List Nat) : Prop := ∀ d ∈ ds, ∀ j, j < ops.size → j ∉ ds → pureI ops j = true ∨ Anc ops j d
/-- Any order from here on; S holds behind each operation but those of ds. -/
def WA (P : Program) (ops : Array Oper) (Q : Exit → Act → World → Prop) (ds : List Nat) (S : World → Prop) : Nat → Array Bool → Act → World → Prop
  | 0, listed, a, w => Region.ready .any ops listed = [] ∧ Q .normal a w
  | fuel + 1, listed, a, w =>
    (Region.ready .any ops listed = [] → Q .normal a w) ∧
    ∀ i ∈ Region.ready .any ops listed, wpOp P ops Q i (fun a' w' => (i ∉ ds → S w → S w') ∧ WA P ops Q ds S fuel (listed.setIfInBounds i true) a' w') a w
theorem wpAny_of_WA : ∀ (fuel : Nat) (listed : Array Bool) (a : Act) (w : World), WA P ops Q ds S fuel listed a w → wpAny P .any ops Q fuel listed a w
  | 0, _, _, _, h => h
  | fuel + 1, _, _, _, h => ⟨h.1, fun i hi => wpOp_mono (fun a' w' h' => wpAny_of_WA fuel _ a' w' h'.2) (h.2 i hi)⟩
theorem getD_tf {listed : Array Bool} {j : Nat} (h : listed.getD j true = false) : listed.getD j false = false := by
  rcases Nat.lt_or_ge j listed.size with hl | hl
  · simp [hl] at h ⊢; exact h
  · simp [Array.getElem?_eq_none hl] at h
theorem WA_tail : ∀ (fuel : Nat) (listed : Array Bool) (a : Act) (w : World), (∀ j, j < ops.size → j ∉ ds → pureI ops j = true ∨ listed.getD j false = true) →
    WA P ops Q ds S' fuel listed a w → WA P ops Q ds S fuel listed a w
  | 0, _, _, _, _, h => h
  | fuel + 1, listed, a, w, hall, h => ⟨h.1, fun i hi => by
      have hset : ∀ j, j < ops.size → j ∉ ds → pureI ops j = true ∨ (listed.setIfInBounds i true).getD j false = true := fun j hj hd => (hall j hj hd).imp id (fun h => getD_set_true h)
      obtain ⟨h0, o, ho, _⟩ := mem_ready.1 hi
      by_cases hid : i ∈ ds
      · exact wpOp_mono (fun a' w' h' => ⟨fun hn => absurd hid hn, WA_tail fuel _ a' w' hset h'.2⟩) (h.2 i hi)
      · rcases hall i (Array.getElem?_eq_some_iff.1 ho).1 hid with hp | hl
        · refine wpOp_mono ?_ (wpOp_pure hp (h.2 i hi))
          intro a' w' h'
          exact ⟨fun _ hS => h'.1 ▸ hS, WA_tail fuel _ a' w' hset h'.2.2⟩
        · rw [getD_tf h0] at hl; cases hl⟩
theorem WA_strong (hT : Tail ops ds) (hSS : ∀ w, S' w → S w) : ∀ (fuel : Nat) (listed : Array Bool) (a : Act) (w : World), Clo ops listed → S' w →
    WA P ops Q ds S' fuel listed a w → WA P ops Q ds S fuel listed a w
  | 0, _, _, _, _, _, h => h
  | fuel + 1, listed, a, w, hc, hS, h => ⟨h.1, fun i hi => by
      by_cases hid : i ∈ ds
      · refine wpOp_mono (fun a' w' h' => ⟨fun hn => absurd hid hn, WA_tail fuel _ a' w' (fun j hj hd => (hT i hid j hj hd).imp id (fun h => getD_set_true (hc.ready h hi))) h'.2⟩) (h.2 i hi)
      · exact wpOp_mono (fun a' w' h' => ⟨fun _ _ => hSS _ (h'.1 hid hS), WA_strong hT hSS fuel _ a' w' (hc.set hi) (h'.1 hid hS) h'.2⟩) (h.2 i hi)⟩
theorem WA_first {i : Nat} {oi : Oper} {v : Value} (hi : ops[i]? = some oi) (hsel : ∀ (j : Nat) (o : Oper) cs b, ops[j]? = some o → o.op ≠ .select cs b)
    [hQ : NoPanic Q] (hT : Tail ops ds) (hid : i ∉ ds) (hnp : pureOp oi = false) :
    ∀ (fuel : Nat) (listed : Array Bool) (a : Act) (w : World),
      (∀ j oj, ops[j]? = some oj → j ≠ i → listed.getD j true = false → (∀ e ∈ oj.after, Region.binds .any e = true → e.on ≠ i) → oi.apart ops oj = true) →
      Clo ops listed → i ∈ Region.ready .any ops listed → YieldsIf P ops S oi v a → S w →
      WA P ops Q ds S fuel (listed.setIfInBounds i true) (a.put oi.dst v) w → WA P ops Q ds S (fuel + 1) listed a w := by
  have hilt : i < ops.size := (Array.getElem?_eq_some_iff.1 hi).1
  intro fuel
  induction fuel with
  | zero =>
    intro listed a w _ _ hr hy hS H
    refine ⟨fun h => (by rw [h] at hr; cases hr), fun j hj => ?_⟩
    by_cases hji : j = i
    · subst hji; exact hy.wpOp hi hS ⟨fun _ h => h, H⟩
    · have := ready_mono hj hji
      rw [H.1] at this
      cases this
  | succ fuel ih =>
    intro listed a w hfree hc hr hy hS H
    refine ⟨fun h => (by rw [h] at hr; cases hr), fun j hj => ?_⟩
    by_cases hji : j = i
    · subst hji; exact hy.wpOp hi hS ⟨fun _ h => h, H⟩
    · have h1 := H.2 j (ready_mono hj hji)
      obtain ⟨hjun, oj, hoj, hall⟩ := mem_ready.1 hj
      have hiun := (mem_ready.1 hr).1
      have hnot : ∀ e ∈ oj.after, Region.binds .any e = true → e.on ≠ i := fun e he hb heq => by
        have h1 := hall e he hb
        rw [heq] at h1
        rw [getD_tf hiun] at h1; cases h1
      have hjd : j ∉ ds := fun hm => by
        rcases hT j hm i hilt hid with hp | hp
        · rw [pureI, hi] at hp
          simp only at hp
          rw [hnp] at hp; cases hp
        · have := hc.ready hp hj
          rw [getD_tf hiun] at this; cases this
      have h2 := wpOp_putIf hoj (hfree j oj hoj hji hjun hnot) (fun cs b => hsel i oi cs b hi) (fun cs b => hsel j oj cs b hoj) (fun c a w hp => absurd hp (hQ.no _ _ _)) hy h1
      have hfree' : ∀ k ok, ops[k]? = some ok → k ≠ i → (listed.setIfInBounds j true).getD k true = false →
          (∀ e ∈ ok.after, Region.binds .any e = true → e.on ≠ i) → oi.apart ops ok = true := fun k ok hk hki hun hno => by
        refine hfree k ok hk hki ?_ hno
        by_cases hjk : j = k
        · subst hjk; exact hjun
        · rw [getD_set_ne true hjk] at hun; exact hun
      refine wpOp_mono (fun a' w' h3 => ⟨h3.2.1, ih (listed.setIfInBounds j true) a' w' hfree' (hc.set hj) (ready_mono hr (Ne.symm hji)) h3.1 (h3.2.1 hjd hS) ?_⟩) h2
      rw [Array.setIfInBounds_comm _ _ hji]
      exact h3.2.2
theorem WA_firstP {i : Nat} {oi : Oper} {v : Value} (hi : ops[i]? = some oi) (hsel : ∀ (j : Nat) (o : Oper) cs b, ops[j]? = some o → o.op ≠ .select cs b)
    [hQ : NoPanic Q] :
    ∀ (fuel : Nat) (listed : Array Bool) (a : Act) (w : World),
      (∀ j oj, ops[j]? = some oj → j ≠ i → listed.getD j true = false → (∀ e ∈ oj.after, Region.binds .any e = true → e.on ≠ i) → oi.apart ops oj = true) →
      Clo ops listed → i ∈ Region.ready .any ops listed → YieldsIf P ops (fun _ => True) oi v a →
      WA P ops Q ds S fuel (listed.setIfInBounds i true) (a.put oi.dst v) w → WA P ops Q ds S (fuel + 1) listed a w := by
  have hilt : i < ops.size := (Array.getElem?_eq_some_iff.1 hi).1
  intro fuel
  induction fuel with
  | zero =>
    intro listed a w _ _ hr hy H
    refine ⟨fun h => (by rw [h] at hr; cases hr), fun j hj => ?_⟩
    by_cases hji : j = i
    · subst hji; exact hy.wpOp hi trivial ⟨fun _ h => h, H⟩
    · have := ready_mono hj hji
      rw [H.1] at this
      cases this
  | succ fuel ih =>
    intro listed a w hfree hc hr hy H
    refine ⟨fun h => (by rw [h] at hr; cases hr), fun j hj => ?_⟩
    by_cases hji : j = i
    · subst hji; exact hy.wpOp hi trivial ⟨fun _ h => h, H⟩
    · have h1 := H.2 j (ready_mono hj hji)
      obtain ⟨hjun, oj, hoj, hall⟩ := mem_ready.1 hj
      have hiun := (mem_ready.1 hr).1
      have hnot : ∀ e ∈ oj.after, Region.binds .any e = true → e.on ≠ i := fun e he hb heq => by
        have h1 := hall e he hb
        rw [heq] at h1
        rw [getD_tf hiun] at h1; cases h1
      have h2 := wpOp_putIf hoj (hfree j oj hoj hji hjun hnot) (fun cs b => hsel i oi cs b hi) (fun cs b => hsel j oj cs b hoj) (fun c a w hp => absurd hp (hQ.no _ _ _)) hy h1
      have hfree' : ∀ k ok, ops[k]? = some ok → k ≠ i → (listed.setIfInBounds j true).getD k true = false →
          (∀ e ∈ ok.after, Region.binds .any e = true → e.on ≠ i) → oi.apart ops ok = true := fun k ok hk hki hun hno => by
        refine hfree k ok hk hki ?_ hno
        by_cases hjk : j = k
        · subst hjk; exact hjun
        · rw [getD_set_ne true hjk] at hun; exact hun
      refine wpOp_mono (fun a' w' h3 => ⟨h3.2.1, ih (listed.setIfInBounds j true) a' w' hfree' (hc.set hj) (ready_mono hr (Ne.symm hji)) h3.1 ?_⟩) h2
      rw [Array.setIfInBounds_comm _ _ hji]
      exact h3.2.2
end
/-! ### what is listed, by a list of numbers -/
def lst (n : Nat) (L : List Nat) : Array Bool := (Array.range n).map fun j => L.elem j
theorem lst_get {n : Nat} {L : List Nat} {j : Nat} (d : Bool) : (lst n L).getD j d = if j < n then L.elem j else d := by
  unfold lst
  rw [Array.getD_eq_getD_getElem?]
  by_cases h : j < n
  · simp [h]
  · simp [h]
theorem lst_set {n : Nat} {L : List Nat} {i : Nat} : (lst n L).setIfInBounds i true = lst n (i :: L) := by
  apply Array.ext
  · simp [lst]
  · intro j h1 h2
    simp only [lst, Array.size_setIfInBounds, Array.size_map, Array.size_range] at h1
    by_cases e : i = j
    · subst e
      simp [lst, List.elem_cons]
    · rw [Array.getElem_setIfInBounds_ne (by simpa [lst] using h1) e]
      simp [lst, List.elem_cons, Ne.symm e]
theorem lst_nil (n : Nat) : lst n [] = Array.replicate n false := by
  apply Array.ext
  · simp [lst]
  · intro j h1 h2
    simp [lst]
def readyL (ops : Array Oper) (L : List Nat) (i : Nat) : Bool :=
  match L.elem i with
  | true => false
  | false => match ops[i]? with
    | some o => o.after.toList.all fun e => match Region.binds .any e with
      | true => Nat.blt e.on ops.size && L.elem e.on
      | false => true
    | none => false
def freeL (ops : Array Oper) (L : List Nat) (i : Nat) (oi : Oper) : Bool :=
  (List.range ops.size).all fun j => Nat.beq j i || L.elem j || match ops[j]? with
    | some oj => oj.after.toList.any (fun e => Region.binds .any e && Nat.beq e.on i) || oi.apart ops oj
    | none => true
section
variable {P : Program} {ops : Array Oper} {L : List Nat} {i : Nat}
theorem readyL_lt (h : readyL ops L i = true) : i < ops.size := by
  unfold readyL at h
  cases he : L.elem i with
  | true => rw [he] at h; cases h
  | false =>
    rw [he] at h
    cases ho : ops[i]? with
    | none => rw [ho] at h; cases h
    | some o => exact (Array.getElem?_eq_some_iff.1 ho).1
theorem ready_iff : i ∈ Region.ready .any ops (lst ops.size L) ↔ readyL ops L i = true := by
  rw [mem_ready]
  constructor
  · rintro ⟨h0, o, ho, hall⟩
    have hlt := (Array.getElem?_eq_some_iff.1 ho).1
    rw [lst_get, if_pos hlt] at h0
    unfold readyL
    rw [h0, ho]
    simp only [List.all_eq_true]
    intro e he
    cases hb : Region.binds .any e with
    | false => rfl
    | true =>
      have := hall e (by simpa using he) hb
      rw [lst_get] at this
      by_cases hlt : e.on < ops.size
      · rw [if_pos hlt] at this
        simp only [Bool.and_eq_true]; exact ⟨by rw [Nat.blt_eq]; exact hlt, this⟩
      · rw [if_neg hlt] at this; cases this
  · intro h
    have hlt := readyL_lt h
    unfold readyL at h
    cases he : L.elem i with
    | true => rw [he] at h; cases h
    | false =>
      rw [he] at h
      cases ho : ops[i]? with
      | none => rw [ho] at h; cases h
      | some o =>
        rw [ho] at h
        simp only [List.all_eq_true] at h
        refine ⟨by rw [lst_get, if_pos hlt, he], o, rfl, fun e hem hb => ?_⟩
        have := h e (by simpa using hem)
        rw [hb] at this
        simp only [Bool.and_eq_true] at this
        have hlt2 := this.1; rw [Nat.blt_eq] at hlt2; rw [lst_get, if_pos hlt2]; exact this.2
theorem ready_list : Region.ready .any ops (lst ops.size L) = (List.range ops.size).filter (readyL ops L) := by
  unfold Region.ready
  refine List.filter_congr (fun i hi => ?_)
  have h1 : (i ∈ Region.ready .any ops (lst ops.size L)) ↔ _ := ready_iff (ops := ops) (L := L) (i := i)
  unfold Region.ready at h1
  rw [List.mem_filter] at h1
  rw [Bool.eq_iff_iff]
  constructor
  · exact fun h => h1.1 ⟨hi, h⟩
  · exact fun h => (h1.2 h).2
theorem freeL_spec {oi : Oper} (h : freeL ops L i oi = true) (j : Nat) (oj : Oper) (hj : ops[j]? = some oj) (hne : j ≠ i) (hun : (lst ops.size L).getD j true = false)
    (hno : ∀ e ∈ oj.after, Region.binds .any e = true → e.on ≠ i) : oi.apart ops oj = true := by
  have hlt := (Array.getElem?_eq_some_iff.1 hj).1
  rw [lst_get, if_pos hlt] at hun
  have h1 := List.all_eq_true.1 h j (List.mem_range.2 hlt)
  have hb : Nat.beq j i = false := by
    cases hb : Nat.beq j i with
    | true => exact absurd (Nat.eq_of_beq_eq_true hb) hne
    | false => rfl
  simp only [hb, hun, hj, Bool.false_or, Bool.or_eq_true, List.any_eq_true, Bool.and_eq_true] at h1
  rcases h1 with ⟨e, he, hbi, hbe⟩ | h1
  · exact absurd (Nat.eq_of_beq_eq_true hbe) (hno e (by simpa using he) hbi)
  · exact h1
end
/-! ### who waits for whom, in numbers -/
def maskOf (acc : List Nat) (d : Nat) : List Edge → Nat
  | [] => 0
  | e :: r => match Region.binds .any e && Nat.blt e.on d with
    | true => (2 ^ e.on) ||| (acc.getD e.on 0) ||| maskOf acc d r
    | false => maskOf acc d r
def masksTo (ops : Array Oper) : Nat → List Nat
  | 0 => []
  | d + 1 => let acc := masksTo ops d; acc ++ [match ops[d]? with
    | some o => maskOf acc d o.after.toList
    | none => 0]
def tailOk (ops : Array Oper) (ds : List Nat) : Bool := match ds with
  | [] => true
  | _ => let ms := masksTo ops ops.size
    ds.all fun d => Nat.blt d ops.size && (List.range ops.size).all fun j => ds.elem j || pureI ops j || (ms.getD d 0).testBit j
section
variable {ops : Array Oper}
theorem maskOf_anc {acc : List Nat} {d : Nat} {o : Oper} (ho : ops[d]? = some o) (hacc : ∀ k j, (acc.getD k 0).testBit j = true → Anc ops j k) :
    ∀ (es : List Edge), (∀ e ∈ es, e ∈ o.after) → ∀ j, (maskOf acc d es).testBit j = true → Anc ops j d
  | [], _, j, h => by simp [maskOf] at h
  | e :: r, hm, j, h => by
    simp only [maskOf] at h
    split at h
    · rename_i hb
      simp only [Bool.and_eq_true] at hb
      rw [Nat.testBit_or, Nat.testBit_or, Bool.or_eq_true, Bool.or_eq_true] at h
      rcases h with (h | h) | h
      · rw [Nat.testBit_two_pow] at h
        have : e.on = j := by simpa using h
        subst this
        exact .base ho (hm e List.mem_cons_self) hb.1
      · exact .step ho (hm e List.mem_cons_self) hb.1 (hacc _ _ h)
      · exact maskOf_anc ho hacc r (fun e he => hm e (List.mem_cons_of_mem _ he)) j h
    · exact maskOf_anc ho hacc r (fun e he => hm e (List.mem_cons_of_mem _ he)) j h
theorem masksTo_anc : ∀ (n k j : Nat), ((masksTo ops n).getD k 0).testBit j = true → (masksTo ops n).length = n → Anc ops j k
  | 0, k, j, h, _ => by simp [masksTo] at h
  | n + 1, k, j, h, _ => by
    have hlen : ∀ m, (masksTo ops m).length = m := by
      intro m
      induction m with
      | zero => rfl
      | succ m ih => simp [masksTo, ih]
    simp only [masksTo] at h
    by_cases hk : k < n
    · rw [List.getD_eq_getElem?_getD, List.getElem?_append_left (by rw [hlen]; exact hk), ← List.getD_eq_getElem?_getD] at h
      exact masksTo_anc n k j h (hlen n)
    · rw [List.getD_eq_getElem?_getD, List.getElem?_append_right (by rw [hlen]; omega), hlen] at h
      by_cases hk2 : k = n
      · subst hk2
        simp only [Nat.sub_self, List.getElem?_cons_zero, Option.getD_some] at h
        cases ho : ops[k]? with
        | none => rw [ho] at h; simp at h
        | some o =>
          rw [ho] at h
          exact maskOf_anc ho (fun k' j' h' => masksTo_anc k k' j' h' (hlen k)) _ (fun e he => by simpa using he) j h
      · rw [List.getElem?_eq_none (by simp; omega)] at h
        simp at h
theorem tailOk_spec {ds : List Nat} (h : tailOk ops ds = true) : Tail ops ds := by
  intro d hd j hj hjd
  have hlen : ∀ m, (masksTo ops m).length = m := by
    intro m
    induction m with
    | zero => rfl
    | succ m ih => simp [masksTo, ih]
  cases ds with
  | nil => cases hd
  | cons d0 r =>
    simp only [tailOk, List.all_eq_true] at h
    have h1 := h d hd
    simp only [Bool.and_eq_true, List.all_eq_true, Bool.or_eq_true] at h1
    rcases h1.2 j (List.mem_range.2 hj) with (h2 | h2) | h2
    · exact absurd (List.elem_iff.1 h2) hjd
    · exact .inl h2
    · refine .inr ?_
      exact masksTo_anc ops.size d j h2 (hlen _)
end
end Go.Proofs.YtegnonhgildhoaaGreat.E
