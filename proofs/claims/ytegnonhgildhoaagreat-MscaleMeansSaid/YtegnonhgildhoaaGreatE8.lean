/- A slot's value turned into an equal one; arrays of one's own that become facts. -/
import Derived.Test.YtegnonhgildhoaaGreatE7
namespace Go.Proofs.YtegnonhgildhoaaGreat.E
open Go Go.RowKit
set_option linter.unusedVariables false
set_option linter.unusedSimpArgs false
section
variable {P : Program} {ops : Array Oper} {n : Nat} {X : Nat → Prop} {w0 : World} {D : Nat → Prop} {l l' l1 : Slots} {M M' M1 M2 : List Blk} {F F' : List Fact} {Q : Exit → Act → World → Prop} {ds L L' : List Nat}
theorem St.turn {a : Act} {w : World} (hs : St n X w0 D l M F a w) (t : Nat) {v v' : Value} (ht : look l t = some v) (hv : v = v') : St n X w0 D ((t, v') :: l) M F a w :=
  ⟨hs.defers, hs.size, fun u x hu => by
    simp only [look] at hu
    cases hbt : Nat.beq t u with
    | true => rw [hbt, cond_true] at hu; rw [← Nat.eq_of_beq_eq_true hbt, ← (Option.some.inj hu), ← hv]; exact hs.tmps t v ht
    | false => rw [hbt, cond_false] at hu; exact hs.tmps u x hu, hs.mem⟩
/-- Where ways meet: what holds there, once. -/
theorem J.seqC {x y : Code} {ι : Type} (φ : ι → Prop) (li : ι → Slots) (Mi : ι → List Blk) (Fi : ι → List Fact) (h1 : J P n X w0 D x (Exit.then (fun a w => ∃ z, φ z ∧ St n X w0 D (li z) (Mi z) (Fi z) a w) Q) l M F)
    (h2 : ∀ z, φ z → J P n X w0 D y Q (li z) (Mi z) (Fi z)) : J P n X w0 D (.seq x y) Q l M F := fun a w hs => by
  refine wp_seq (wp_mono (h1 a w hs) ?_)
  intro e a' w' hq
  cases e with
  | normal => obtain ⟨z, hz, hst⟩ := hq; exact h2 z hz a' w' hst
  | exit id => exact hq
  | goto l => exact hq
  | ret => exact hq
  | panic c => exact hq
  | outgrown => exact hq
theorem KN.meet {ι : Type} {φ : ι → Prop} {li : ι → Slots} {Mi : ι → List Blk} {Fi : ι → List Fact} (y : ι) (ts : List Nat) (is : List Nat) {l2 : Slots} (hψ : φ y) (hl : prune l ts = l2) (hl2 : l2 = li y) (hM : M = Mi y) (hF : pick F is = Fi y) :
    KN n X w0 D (Exit.then (fun a w => ∃ z, φ z ∧ St n X w0 D (li z) (Mi z) (Fi z) a w) Q) l M F := fun a w hs => by
  have h1 := hs.sub (.of_prune (hl.trans hl2)) (List.Sublist.refl M) (fun p hp => hp)
  exact ⟨y, hψ, h1.defers, h1.size, h1.tmps, by rw [← hM, ← hF]; exact hs.mem.pickF is⟩
theorem J.turn {c : Code} (t : Nat) {v v' : Value} (ht : look l t = some v) (hv : v = v') (k : J P n X w0 D c Q ((t, v') :: l) M F) : J P n X w0 D c Q l M F := fun a w hs => k a w (hs.turn t ht hv)
theorem RN.turn {k : Nat} (t : Nat) {v v' : Value} (ht : look l t = some v) (hv : v = v') (r : RN P n X w0 D ops Q k ((t, v') :: l) M F) : RN P n X w0 D ops Q k l M F := fun a w hs => r a w (hs.turn t ht hv)
theorem RD.turn (t : Nat) {v v' : Value} (ht : look l t = some v) (hv : v = v') (r : RD P n X w0 D ops Q ds L ((t, v') :: l) M F) : RD P n X w0 D ops Q ds L l M F := fun a w fuel h1 h2 hs => r a w fuel h1 h2 (hs.turn t ht hv)
theorem sl_eq {α : Type} {A : Option Addr} {c k : Nat} {xs : List α} (h : k = xs.length) : Value.slice A k c = sl ⟨A, c⟩ xs.length := by subst h; rfl
theorem fU_own {b e c : Nat} {xs : List Nat} {fz : Nat × Nat} {w : World} (h : fBlk b (.cells (encU xs) e fz) w) (hc : xs.length ≤ c) (hl : xs.length ≤ 140737488355328) : fU ⟨some ⟨b, 0, none⟩, c⟩ xs w :=
  fU_blk (rest := #[]) (by simpa using h) hc hl
theorem fRats_own {b e c : Nat} {ps : List PR} {fz : Nat × Nat} {w : World} (h : fBlk b (.cells (encR ps) e fz) w) (ha : allRat ps w) (hc : ps.length ≤ c) (hl : ps.length ≤ 140737488355328) : fRats ⟨some ⟨b, 0, none⟩, c⟩ ps w :=
  fRats_blk (rest := #[]) (by simpa using h) ha hc hl
theorem fU_take {s : SA} {xs : List Nat} {w : World} (h : fU s xs w) (hi : Nat) (h2 : hi ≤ xs.length) : fU (saSub s 1 0) (xs.take hi) w := by
  have := fU_sub h 0 hi (Nat.zero_le _) h2
  simpa using this
theorem RN.dropM {k : Nat} (m : Nat) (hM : dropN M m = M') (r : RN P n X w0 D ops Q k l M' F) : RN P n X w0 D ops Q k l M F := fun a w hs => r a w (hs.sub (SubL.refl l) (hM ▸ dropN_sub M m) (fun _ hp => hp))
theorem J.dropM {c : Code} (m : Nat) (hM : dropN M m = M') (r : J P n X w0 D c Q l M' F) : J P n X w0 D c Q l M F := fun a w hs => r a w (hs.sub (SubL.refl l) (hM ▸ dropN_sub M m) (fun _ hp => hp))
/-- What a bound of a slice expression is worth. -/
def bndIs (l : Slots) (x : Option Operand) (d v : Nat) : Prop := (x = none ∧ v = d) ∨ ∃ o K e, x = some o ∧ rho l o = .int K e ∧ e = (v : Nat)
theorem run_bnd {k cap : Nat} {K : IntKind} {code : BoundsCode} (h : k ≤ cap) (w : World) : (Instr.sliceBound (.int K (k : Nat)) cap code).run P w = .ok k w := by
  have h1 : (0 : Int) ≤ (k : Int) ∧ (k : Int) ≤ (cap : Int) := ⟨by omega, by omega⟩
  simp [Instr.sliceBound, asIntOf, Sem.run, h1]
theorem q_slice {i t e sz lo hi n c : Nat} {x : Operand} {A : Option Addr} {low high : Option Operand} (hop : (opOf ops i).op = .slice t x low high none) (hx : rho l x = .slice A n c) (hlo : bndIs l low 0 lo) (hhi : bndIs l high n hi)
    (ht : P.underlying t = some (.slice e)) (hs : (P.info? e).map (·.size) = some sz) (h1 : lo ≤ hi) (h2 : ∀ w, Now M F w → hi ≤ c) :
    ∀ w, Now M F w → (execOp (rho l) (opOf ops i)).run P w = .ok (.value (.slice (if c = lo then A else A.map (·.add (lo * sz))) (hi - lo) (c - lo))) w := by
  intro w hw
  obtain ⟨inf, hi', hsz⟩ := Option.map_eq_some_iff.1 hs
  have hc := h2 w hw
  have hso : (sizeOf e).run P w = .ok sz w := by simp [sizeOf, typeInfo, program, Sem.run, hi', hsz]
  have hun : (underlying t).run P w = .ok (.slice e) w := by simp [underlying, program, Sem.run, ht]
  have hb : ∀ lowv highv, (low.map (rho l)) = lowv → (high.map (rho l)) = highv → (Instr.sliceBounds true n c lowv highv none).run P w = .ok (lo, hi, c) w := by
    intro lowv highv e1 e2
    subst e1 e2
    have hH : ∀ code, (match high.map (rho l), (none : Option Value) with
        | some v, some _ => Instr.sliceBound v c .slice3B
        | some v, none => Instr.sliceBound v c code
        | none, none => pure n
        | none, some _ => stuck "Slice: max without high").run P w = .ok hi w := by
      intro code
      rcases hhi with ⟨rfl, rfl⟩ | ⟨o, K, e, rfl, hr, rfl⟩
      · rfl
      · simp only [Option.map_some, hr]; exact run_bnd hc w
    have hL : (match low.map (rho l) with
        | some v => Instr.sliceBound v hi (if (none : Option Value).isSome then .slice3C else .sliceB)
        | none => pure 0).run P w = .ok lo w := by
      rcases hlo with ⟨rfl, rfl⟩ | ⟨o, K, e, rfl, hr, rfl⟩
      · rfl
      · simp only [Option.map_some, hr]; exact run_bnd h1 w
    unfold Instr.sliceBounds
    rcases hhi with ⟨rfl, rfl⟩ | ⟨o, K, e, rfl, hr, rfl⟩ <;> rcases hlo with ⟨rfl, rfl⟩ | ⟨o', K', e', rfl, hr', rfl⟩ <;>
      simp_all [Sem.run_bind, run_bnd, pure, Sem.run]
  unfold execOp
  simp only [hop, hx]
  have key : (Instr.sliceAt t (.slice A n c) (low.map (rho l)) (high.map (rho l)) none).run P w = .ok (.slice (if c = lo then A else A.map (·.add (lo * sz))) (hi - lo) (c - lo)) w := by
    have hb' := hb _ _ rfl rfl
    simp only [Instr.sliceAt, Instr.slice, Sem.run_bind, hun, Result.andThen, hb', hso]
    rfl
  exact run_v key
theorem q_uslice {i t e lo hi : Nat} {x : Operand} {s : SA} {xs : List Nat} {low high : Option Operand} (j : Nat) (L : List Nat) (hF : pick F [j] = [fU s xs]) (hop : (opOf ops i).op = .slice t x low high none) (hx : rho l x = sl s xs.length) (hlo : bndIs l low 0 lo) (hhi : bndIs l high xs.length hi)
    (ht : P.underlying t = some (.slice e)) (hs : (P.info? e).map (·.size) = some 1) (h1 : lo ≤ hi) (h2 : hi ≤ xs.length) (hL : hi - lo = L.length) :
    ∀ w, Now M F w → (execOp (rho l) (opOf ops i)).run P w = .ok (.value (sl (saSub s 1 lo) L.length)) w := by
  intro w hw
  have := q_slice (M := M) (F := F) hop hx hlo hhi ht hs h1 (fun w hw => Nat.le_trans h2 (hw.nowP hF (fU s xs) (by simp)).1.1) w hw
  rw [this, hL]; rfl
/-! append of made elements, of a list that is read -/
theorem ot_uapp {o : Oper} {T e by_ mi b k : Nat} {x y : Operand} {go : Option GB} {xs ys : List Nat} {c e' : Nat} {fz : Nat × Nat} (M1 M2 : List Blk) (hB : M[mi]? = some (b, .cells (encU ys) e' fz))
    (hM : M = M1 ++ (glM go (encU xs) e ++ M2)) (hkd : (knownOp l o.op && dstOk n o.dst) = true) (hop : o.op = .call { callee := .builtin .append, args := #[x, y], argTypes := #[T, T] })
    (hx : rho l x = sl (glS go) xs.length) (hy : rho l y = .slice (some ⟨b, 0, none⟩) k c) (hT : P.underlying T = some (.slice e)) (hi : (P.info? e).map (fun i => (i.size, i.bytes, i.zero)) = some (1, by_, some (.int .u32 0)))
    (hk : ys.length = k) (hk0 : 0 < k) (hok : gOk 1 go xs.length) (hb : (xs.length + k) * by_ ≤ 140737488355328) (h63 : xs.length + k ≤ 140737488355328) :
    OT P n X w0 D o Q l M F (ι := GB) (fun g => gOk 1 (some g) (xs ++ ys).length) (fun g => putL o.dst (sl (glS (some g)) (xs ++ ys).length) l) (fun g => M1 ++ (glM (some g) (encU (xs ++ ys)) e ++ M2)) (fun _ => F) := by
  have h := OT.app (P := P) (n := n) (X := X) (w0 := w0) (D := D) (F := F) (Q := Q) (type := 0) (new := (encU ys).toList) M1 M2 hM hkd hop hx hy hT hi rfl (by rw [encU_size, Nat.mul_one]) (by rw [Array.length_toList, encU_size, hk, Nat.mul_one])
    (fun w hw j v hj => by rw [add0, cell_of (a := ⟨b, j, none⟩) (hw.blk _ (List.mem_of_getElem? hB)) rfl]; simpa using hj) (fun u hu => by simp [encU] at hu; obtain ⟨q, _, rfl⟩ := hu; rfl) hok hk0 hb h63
  simp only [Array.toArray_toList, encU_app] at h
  have e : xs.length + k = (xs ++ ys).length := by rw [List.length_append, hk]
  rw [e] at h
  exact h
theorem ot_uclone {o : Oper} {T e by_ : Nat} {x y : Operand} {xs : List Nat} {s : SA} (j : Nat) (M1 M2 : List Blk) (hF : pick F [j] = [fU s xs])
    (hM : M = M1 ++ M2) (hkd : (knownOp l o.op && dstOk n o.dst) = true) (hop : o.op = .call { callee := .builtin .append, args := #[x, y], argTypes := #[T, T] })
    (hx : rho l x = .slice none 0 0) (hy : rho l y = sl s xs.length) (hT : P.underlying T = some (.slice e)) (hi : (P.info? e).map (fun i => (i.size, i.bytes, i.zero)) = some (1, by_, some (.int .u32 0)))
    (hTi : (match P.underlying T with | some (.int _) => true | _ => false) = false) (hb : xs.length * by_ ≤ 140737488355328) (h63 : xs.length ≤ 140737488355328) :
    OT P n X w0 D o Q l M F (ι := Option GB) (fun g => gOk 1 g xs.length) (fun g => putL o.dst (sl (glS g) xs.length) l) (fun g => M1 ++ (glM g (encU xs) e ++ M2)) (fun _ => F) := by
  by_cases h0 : xs.length = 0
  · have : xs = [] := List.length_eq_zero_iff.1 h0
    subst this
    intro a w hs K hK
    rw [Bool.and_eq_true] at hkd
    have hrun : (execOp (rho l) o).run P w = .ok (.value (.slice none 0 0)) w := by
      unfold execOp
      simp only [hop, resolve, Sem.run_bind, invoke, builtin]
      show Sem.run P (do pure (Next.value (← Builtin.append_ #[T, T] o.type ((#[x, y] : Array Operand).map (rho l)))) : Sem Next) w = _
      have : (#[x, y] : Array Operand).map (rho l) = #[.slice none 0 0, .slice s.A 0 s.c] := by simp [hx, hy, sl]
      rw [this]
      obtain ⟨inf, hinf, hq⟩ := Option.map_eq_some_iff.1 hi
      simp only [Prod.mk.injEq] at hq
      refine run_v ?_
      cases hA : s.A with
      | none => simp [Builtin.append_, run_underlying hT, sizeOf, typeInfo, hinf, Builtin.lenOf, run_firstCells_none]
      | some ad => simp [Builtin.append_, run_underlying hT, sizeOf, typeInfo, hinf, hq.1, Builtin.lenOf, Builtin.firstCells, loadCells, loadCellsFrom]
    unfold Oper.wp
    rw [hs.exec hkd.1, hrun, Oper.upon_value]
    exact hK none _ _ rfl (hs.put hkd.2 _ (by subst hM; exact hs.mem))
  · have hA : ∀ w, Now M F w → s.A = some s.ad := fun w hw => ((hw.nowP hF (fU s xs) (by simp)).2 0 (by omega)).1
    intro a w hs K hK
    have hA' := hA w hs.mem.toNow
    have h := OT.app (P := P) (n := n) (X := X) (w0 := w0) (D := D) (F := F) (Q := Q) (M := M) (l := l) (o := o) (type := 0) (go := none) (cs := #[]) (n1 := 0) (new := (encU xs).toList) (ad := s.ad) (k := xs.length) (c := s.c) (z := .int .u32 0) M1 M2 (by rw [hM]; rfl) hkd hop hx (by rw [hy, sl, hA']) hT hi rfl (by simp) (by rw [Array.length_toList, encU_size, Nat.mul_one])
      (fun w hw j v hj => by
        have hlt : j < xs.length := by have := (List.getElem?_eq_some_iff.1 hj).1; simpa [encU] using this
        have hc := ((hw.nowP hF (fU s xs) (by simp)).2 j hlt).2.2
        rw [hc]
        have := encU_get hlt
        simp only [Array.getElem?_toList] at hj
        rw [hj] at this; exact this.symm)
      (fun u hu => by simp [encU] at hu; obtain ⟨q, _, rfl⟩ := hu; rfl) (show gOk 1 none 0 from rfl) (by omega) (by rw [Nat.zero_add]; exact hb) (by omega)
    refine h a w hs K (fun g a' w' hg hst => hK (some g) a' w' (by simpa using hg) ?_)
    simpa using hst
end
end Go.Proofs.YtegnonhgildhoaaGreat.E
