/- Lists in memory: limbs, numbers, lists of them; how an element is read. -/
import Derived.Test.YtegnonhgildhoaaGreatE4
namespace Go.Proofs.YtegnonhgildhoaaGreat.E
open Go Go.RowKit
set_option linter.unusedVariables false
set_option linter.unusedSimpArgs false
/-- Where a slice lies, and its capacity; its length stands in the list that it reads as. -/
structure SA where
  A : Option Addr
  c : Nat
def SA.ad (s : SA) : Addr := s.A.getD ⟨0, 0, none⟩
def sl (s : SA) (n : Nat) : Value := .slice s.A n s.c
def saNil : SA := ⟨none, 0⟩
/-- A slice of limbs reads as xs. -/
def fU (s : SA) (xs : List Nat) : Fact := fun w => (xs.length ≤ s.c ∧ xs.length ≤ 140737488355328) ∧ (∀ i, i < xs.length → s.A = some s.ad ∧ s.ad.spot = none ∧ w.cell? (s.ad.add i) = some (.int .u32 (xs.getD i 0 : Nat)))
/-- An integer and a number as they lie in memory: signs and limbs. -/
structure RawI where
  neg : Bool
  mag : List Nat
structure Raw where
  neg : Bool
  mag : List Nat
  den : List Nat
structure RA where
  mag : SA
  den : SA
def intV (s : SA) (z : RawI) : Value := .agg #[.bool z.neg, sl s z.mag.length]
def ratC (p : RA) (r : Raw) : Array Value := #[.bool r.neg, sl p.mag r.mag.length, sl p.den r.den.length]
def ratV (p : RA) (r : Raw) : Value := .agg #[.bool r.neg, sl p.mag r.mag.length, sl p.den r.den.length]
def ivC (p : RA) (r : Raw) (q : RA) (t : Raw) : Array Value := #[.bool r.neg, sl p.mag r.mag.length, sl p.den r.den.length, .bool t.neg, sl q.mag t.mag.length, sl q.den t.den.length]
def fRat (p : RA) (r : Raw) : Fact := fun w => fU p.mag r.mag w ∧ fU p.den r.den w
abbrev PR := RA × Raw
def pr0 : PR := (⟨saNil, saNil⟩, ⟨false, [], []⟩)
/-- A slice of numbers reads as ps. -/
def fRats (s : SA) (ps : List PR) : Fact := fun w => (ps.length ≤ s.c ∧ ps.length ≤ 140737488355328) ∧ (∀ i, i < ps.length → s.A = some s.ad ∧ s.ad.spot = none ∧ (∀ j, j < 3 → w.cell? (s.ad.add (i * 3 + j)) = (ratC (ps.getD i pr0).1 (ps.getD i pr0).2)[j]?) ∧ fRat (ps.getD i pr0).1 (ps.getD i pr0).2 w)
theorem fU_nil : ∀ w, fU saNil [] w := fun w => ⟨⟨Nat.le_refl _, Nat.zero_le _⟩, fun i h => absurd h (Nat.not_lt_zero _)⟩
theorem add_add {a : Addr} (h : a.spot = none) (m n : Nat) : (a.add m).add n = a.add (m + n) := by
  obtain ⟨b, o, s⟩ := a
  simp only at h
  subst h
  unfold Addr.add
  by_cases hm : m = 0
  · subst hm; simp
  · by_cases hn : n = 0
    · subst hn; simp
    · rw [if_neg hm, if_neg hn, if_neg (by omega)]
      simp [Nat.add_assoc]
section
variable {P : Program} {ops : Array Oper} {n : Nat} {X : Nat → Prop} {w0 : World} {D : Nat → Prop} {l l' l1 : Slots} {M M' : List Blk} {F F' : List Fact} {Q : Exit → Act → World → Prop} {ds L L' : List Nat}
theorem Now.nowP {w : World} (h : Now M F w) {is : List Nat} {G : List Fact} (hF : pick F is = G) : ∀ p ∈ G, p w := by
  subst hF
  intro p hp
  obtain ⟨i, _, rfl⟩ := List.mem_map.1 hp
  rw [List.getD_eq_getElem?_getD]
  cases hi : F[i]? with
  | none => trivial
  | some q => exact h.facts q (List.mem_of_getElem? hi)
theorem run_indexAt {t e sz : Nat} {ad : Addr} {n c m : Nat} {K : IntKind} (ht : P.underlying t = some (.slice e)) (hs : (P.info? e).map (·.size) = some sz) (hm : m < n) (w : World) :
    (Instr.indexAt t (.slice (some ad) n c) (.int K (m : Int))).run P w = .ok (.pointer (some (ad.add (m * sz)))) w := by
  obtain ⟨i, hi, hsz⟩ := Option.map_eq_some_iff.1 hs
  have h1 : (0 : Int) ≤ (m : Int) ∧ (m : Int) < (n : Int) := ⟨by omega, by omega⟩
  simp [Instr.indexAt, asIntOf, underlying, ht, sizeOf, typeInfo, hi, Sem.run, program, hsz, h1]
  omega
theorem q_idx {i t e sz m : Nat} {x ix : Operand} {A : Option Addr} {n c : Nat} {K : IntKind} {i0 : Int} (ad : Addr) (hop : (opOf ops i).op = .indexAddr t x ix) (hx : rho l x = .slice A n c) (hix : rho l ix = .int K i0)
    (ht : P.underlying t = some (.slice e)) (hs : (P.info? e).map (·.size) = some sz) (hi : i0 = (m : Nat)) (hm : m < n) (hA : ∀ w, Now M F w → A = some ad) :
    ∀ w, Now M F w → (execOp (rho l) (opOf ops i)).run P w = .ok (.value (.pointer (some (ad.add (m * sz))))) w := by
  intro w hw
  unfold execOp
  simp only [hop, hx, hix, hi, hA w hw]
  show Sem.run P ((Instr.indexAt t (.slice (some ad) n c) (.int K (m : Int))).bind fun v => Sem.pure (Next.value v)) w = _
  rw [Sem.run_bind', run_indexAt ht hs hm]; rfl
/-- a[i], a slice of limbs that is read. -/
theorem q_uidx {i t m : Nat} {x ix : Operand} {K : IntKind} {i0 : Int} {s : SA} {xs : List Nat} (j : Nat) (hF : pick F [j] = [fU s xs]) (hop : (opOf ops i).op = .indexAddr t x ix) (hx : rho l x = sl s xs.length) (hix : rho l ix = .int K i0)
    {e : Nat} (ht : P.underlying t = some (.slice e)) (hs : (P.info? e).map (·.size) = some 1) (hi : i0 = (m : Nat)) (hm : m < xs.length) :
    ∀ w, Now M F w → (execOp (rho l) (opOf ops i)).run P w = .ok (.value (.pointer (some (s.ad.add m)))) w := by
  intro w hw
  have := q_idx (M := M) (F := F) s.ad hop hx hix ht hs hi hm (fun w hw => ((hw.nowP hF (fU s xs) (by simp)).2 m hm).1) w hw
  rw [this, Nat.mul_one]
theorem q_load {i T : Nat} {x : Operand} {a : Addr} {v : Value} (hop : (opOf ops i).op = .load T x) (hx : rho l x = .pointer (some a)) (hT : (P.underlying T).map (fun d => match d with | .struct _ | .array _ _ => true | _ => false) = some false)
    (hc : ∀ w, Now M F w → w.cell? a = some v) : ∀ w, Now M F w → (execOp (rho l) (opOf ops i)).run P w = .ok (.value v) w := by
  intro w hw
  unfold execOp
  simp only [hop, hx]
  obtain ⟨d, hd, hb⟩ := Option.map_eq_some_iff.1 hT
  have h1 : (Instr.loadAt T (.pointer (some a))).run P w = .ok v w := by
    have hag : (isAgg T).run P w = .ok false w := by
      unfold isAgg
      cases d <;> simp_all [underlying, program, Sem.run]
    show Sem.run P ((isAgg T).bind fun b => if b then _ else load a) w = _
    rw [Sem.run_bind', hag]
    show Sem.run P (load a) w = _
    simp [load, Sem.run, hc w hw]
  show Sem.run P ((Instr.loadAt T (.pointer (some a))).bind fun v => Sem.pure (Next.value v)) w = _
  rw [Sem.run_bind', h1]; rfl
theorem q_uload {i T m : Nat} {x : Operand} {s : SA} {xs : List Nat} (j : Nat) (hF : pick F [j] = [fU s xs]) (hop : (opOf ops i).op = .load T x) (hx : rho l x = .pointer (some (s.ad.add m)))
    (hT : (P.underlying T).map (fun d => match d with | .struct _ | .array _ _ => true | _ => false) = some false) (hm : m < xs.length) :
    ∀ w, Now M F w → (execOp (rho l) (opOf ops i)).run P w = .ok (.value (.int .u32 (xs.getD m 0 : Nat))) w :=
  q_load hop hx hT (fun w hw => ((hw.nowP hF (fU s xs) (by simp)).2 m hm).2.2)
theorem run_loadCells {a : Addr} {w : World} : ∀ (cs : List Value) (i : Nat) (acc : Array Value), (∀ j (h : j < cs.length), w.cell? (a.add (i + j)) = some cs[j]) → (loadCellsFrom a i cs.length acc).run P w = .ok (acc ++ cs.toArray) w
  | [], i, acc, _ => by
    show Sem.run P (Sem.pure acc) w = _
    simp [Sem.run]
  | v :: r, i, acc, h => by
    show Sem.run P ((load (a.add i)).bind fun v => loadCellsFrom a (i + 1) r.length (acc.push v)) w = _
    have h0 := h 0 (by simp)
    simp only [Nat.add_zero, List.getElem_cons_zero] at h0
    rw [Sem.run_bind']
    have : (load (a.add i)).run P w = .ok v w := by simp [load, Sem.run, h0]
    rw [this]
    show Sem.run P (loadCellsFrom a (i + 1) r.length (acc.push v)) w = _
    rw [run_loadCells r (i + 1) (acc.push v) (fun j hj => by
      have := h (j + 1) (by simpa using hj)
      rw [show i + 1 + j = i + (j + 1) by omega, this]; simp)]
    simp
theorem q_loadN {i T : Nat} {x : Operand} {a : Addr} {cs : List Value} (hop : (opOf ops i).op = .load T x) (hx : rho l x = .pointer (some a)) (hT : (P.underlying T).map (fun d => match d with | .struct _ | .array _ _ => true | _ => false) = some true)
    (hs : (P.info? T).map (·.size) = some cs.length) (hc : ∀ w, Now M F w → ∀ j (h : j < cs.length), w.cell? (a.add j) = some cs[j]) :
    ∀ w, Now M F w → (execOp (rho l) (opOf ops i)).run P w = .ok (.value (.agg cs.toArray)) w := by
  intro w hw
  unfold execOp
  simp only [hop, hx]
  obtain ⟨d, hd, hb⟩ := Option.map_eq_some_iff.1 hT
  obtain ⟨inf, hi, hsz⟩ := Option.map_eq_some_iff.1 hs
  have h1 : (Instr.loadAt T (.pointer (some a))).run P w = .ok (.agg cs.toArray) w := by
    have hag : (isAgg T).run P w = .ok true w := by
      unfold isAgg
      cases d <;> simp_all [underlying, program, Sem.run]
    have hso : (sizeOf T).run P w = .ok cs.length w := by simp [sizeOf, typeInfo, program, Sem.run, hi, hsz]
    show Sem.run P ((isAgg T).bind fun b => if b then ((sizeOf T).bind fun n => (loadCells a n).bind fun c => Sem.pure (Value.agg c)) else load a) w = _
    rw [Sem.run_bind', hag]
    show Sem.run P ((sizeOf T).bind fun n => (loadCells a n).bind fun c => Sem.pure (Value.agg c)) w = _
    rw [Sem.run_bind', hso]
    show Sem.run P ((loadCells a cs.length).bind fun c => Sem.pure (Value.agg c)) w = _
    rw [Sem.run_bind', show (loadCells a cs.length).run P w = .ok (#[] ++ cs.toArray) w from run_loadCells cs 0 #[] (fun j hj => by rw [Nat.zero_add]; exact hc w hw j hj)]
    simp [Result.andThen, Sem.run]
  show Sem.run P ((Instr.loadAt T (.pointer (some a))).bind fun v => Sem.pure (Next.value v)) w = _
  rw [Sem.run_bind', h1]; rfl
/-- A slice of numbers: the address of an element, and the element. -/
theorem q_ridx {i t m : Nat} {x ix : Operand} {K : IntKind} {i0 : Int} {s : SA} {ps : List PR} (j : Nat) (hF : pick F [j] = [fRats s ps]) (hop : (opOf ops i).op = .indexAddr t x ix) (hx : rho l x = sl s ps.length) (hix : rho l ix = .int K i0)
    {e : Nat} (ht : P.underlying t = some (.slice e)) (hs : (P.info? e).map (·.size) = some 3) (hi : i0 = (m : Nat)) (hm : m < ps.length) :
    ∀ w, Now M F w → (execOp (rho l) (opOf ops i)).run P w = .ok (.value (.pointer (some (s.ad.add (m * 3))))) w :=
  q_idx s.ad hop hx hix ht hs hi hm (fun w hw => ((hw.nowP hF (fRats s ps) (by simp)).2 m hm).1)
theorem q_rload {i T m : Nat} {x : Operand} {s : SA} {ps : List PR} (j : Nat) (hF : pick F [j] = [fRats s ps]) (hop : (opOf ops i).op = .load T x) (hx : rho l x = .pointer (some (s.ad.add (m * 3))))
    (hT : (P.underlying T).map (fun d => match d with | .struct _ | .array _ _ => true | _ => false) = some true) (hs : (P.info? T).map (·.size) = some 3) (hm : m < ps.length) :
    ∀ w, Now M F w → (execOp (rho l) (opOf ops i)).run P w = .ok (.value (ratV (ps.getD m pr0).1 (ps.getD m pr0).2)) w := by
  refine q_loadN (cs := [.bool (ps.getD m pr0).2.neg, sl (ps.getD m pr0).1.mag (ps.getD m pr0).2.mag.length, sl (ps.getD m pr0).1.den (ps.getD m pr0).2.den.length]) hop hx hT hs (fun w hw k hk => ?_)
  have h := (hw.nowP hF (fRats s ps) (by simp)).2 m hm
  have hk3 : k < 3 := hk
  rw [add_add h.2.1, h.2.2.1 k hk3]
  unfold ratC
  match k, hk3 with
  | 0, _ => rfl
  | 1, _ => rfl
  | 2, _ => rfl
theorem rat_of {w : World} {s : SA} {ps : List PR} (h : fRats s ps w) {m : Nat} (hm : m < ps.length) : fRat (ps.getD m pr0).1 (ps.getD m pr0).2 w := (h.2 m hm).2.2.2
end
end Go.Proofs.YtegnonhgildhoaaGreat.E
