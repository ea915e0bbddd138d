/- Lemmas and contracts of functions on the way to the law, part 6. -/
import Derived.WalkKit
import Derived.ProofKit
import Derived.OpenShut
import Derived.ChangeOld
import Derived.Below
import Derived.SizedLaws
import Derived.Test.YtegnonhgildhoaaGreatA5
/- A row's arguments, read as data, become facts about memory; a contract's frame becomes the row's. -/
namespace Go.Proofs.YtegnonhgildhoaaGreat.E
open Go Go.RowKit Go.ChangeShapes Go.WideShapes
set_option linter.unusedVariables false
set_option linter.unusedSimpArgs false
section
variable {H : Type} {enc : TypeId × Value → H} {P : Program} {w w' : World} {fuel t e : Nat} {cs : List Value} {x : DataW H × List MemPlace}
def Wt (P : Program) (t : TypeId) (d : DataW H) : Prop := ∀ n ∈ d.weights P t, n ≤ reachBytes
theorem Wt.of_each {ts : List TypeId} {ds : List (DataW H)} (h : (DataW.weightsEach P ts ds).all (· ≤ reachBytes) = true) {j : Nat} {t : TypeId} {d : DataW H} (ht : ts[j]? = some t) (hd : ds[j]? = some d) : Wt P t d := fun n hn => by
  have := List.all_eq_true.1 h n (DataW.weights_mem_each ht hd n hn)
  simpa using this
theorem Wt.of_mem {ts : List TypeId} {ds : List (DataW H)} (h : ∀ n ∈ DataW.weightsEach P ts ds, n ≤ reachBytes) {j : Nat} {t : TypeId} {d : DataW H} (ht : ts[j]? = some t) (hd : ds[j]? = some d) : Wt P t d := fun n hn =>
  h n (DataW.weights_mem_each ht hd n hn)
theorem weightsAll_mem {e : TypeId} : ∀ {ds : List (DataW H)} {d : DataW H}, d ∈ ds → ∀ n ∈ d.weights P e, n ∈ DataW.weightsAll P e ds
  | [], _, h, _, _ => by cases h
  | d0 :: r, d, h, n, hn => by
    rcases List.mem_cons.1 h with rfl | h
    · simp [DataW.weightsAll, hn]
    · simp [DataW.weightsAll, weightsAll_mem h n hn]
theorem Wt.slice {elems rest : List (DataW H)} (ht : P.underlying t = some (.slice e)) (h : Wt P t (.slice elems rest)) : (elems.length + rest.length) * P.bytesOf e ≤ reachBytes ∧ ∀ d ∈ elems, Wt P e d := by
  unfold Wt at h
  simp only [DataW.weights, ht] at h
  exact ⟨h _ List.mem_cons_self, fun d hd n hn => h n (List.mem_cons_of_mem _ (List.mem_append_left _ (weightsAll_mem hd n hn)))⟩
theorem Wt.agg {fs : Array Field} {parts : List (DataW H)} (ht : P.underlying t = some (.struct fs)) (h : Wt P t (.agg parts)) {j : Nat} {f : Field} {d : DataW H} (hf : fs[j]? = some f) (hd : parts[j]? = some d) : Wt P f.type d := by
  unfold Wt at h
  simp only [DataW.weights, ht] at h
  exact Wt.of_mem (j := j) h (by simp [List.getElem?_map, Array.getElem?_toList, hf]) hd
theorem cell_spot {a : Addr} {v : Value} (h : w.cell? a = some v) : a.spot = none := by
  unfold World.cell? at h
  split at h
  · split at h
    · cases h
    · rename_i h0; simpa using h0
  · cases h
theorem cell_off (ho : Off (fun _ => False) w w') {a : Addr} {v : Value} (h : w.cell? a = some v) : w'.cell? a = some v := by
  have hlt : a.block < w.heap.size := by
    unfold World.cell? at h
    cases hb : w.heap[a.block]? with
    | none => rw [hb] at h; cases h
    | some o => exact (Array.getElem?_eq_some_iff.1 hb).1
  unfold World.cell? at *
  rw [ho.2 a.block hlt (fun h => h)]; exact h
theorem fI_off (ho : Off (fun _ => False) w w') {s : SA} {xs : List Int} (h : fI s xs w) : fI s xs w' := ⟨h.1, fun i hi => ⟨(h.2 i hi).1, (h.2 i hi).2.1, cell_off ho (h.2 i hi).2.2⟩⟩
theorem wf_i64 {z : Int} (h : (Lit.int .i64 z).wf = true) : -9223372036854775808 ≤ z ∧ z < 9223372036854775808 := by
  have := bounds_i64 h
  omega
/-- A slice of ints. -/
theorem open_I (ht : P.underlying t = some (.slice e)) (he : P.underlying e = some (.int .i64)) (hc : P.cellsOf e = 1) (hb : 1 ≤ P.bytesOf e)
    (h : DataW.trod enc P w 0 (fun _ => true) true fuel t cs = some x) (hw : Wt P t x.1) : ∃ s xs, cs = [sl s xs.length] ∧ fI s xs w ∧ ∀ z ∈ xs, -9223372036854775808 ≤ z ∧ z < 9223372036854775808 := by
  rcases open_ints ht he hc h with ⟨rfl, rfl⟩ | ⟨a, len, cap, zs, rfl, _, hl, hm, hz, rfl, hcell, hwf⟩
  · exact ⟨saNil, [], rfl, fI_nil w, fun z hz => by cases hz⟩
  · simp only [if_true] at hz
    have hlen : len ≤ zs.length := by omega
    have hb2 := (hw.slice ht).1
    have h47 : len ≤ 140737488355328 := by
      have h1 : len ≤ (lits (H := H) .i64 (zs.take len)).length + (lits (H := H) .i64 (zs.drop len)).length := by simp [lits]; omega
      have h2 := Nat.le_trans (Nat.mul_le_mul h1 hb) hb2
      have : reachBytes ≤ 140737488355328 := by decide
      omega
    refine ⟨⟨some a, cap⟩, zs.take len, by simp [sl, Nat.min_eq_left hlen], ⟨⟨by simp; omega, by simp; omega⟩, fun i hi => ?_⟩, fun y hy => ?_⟩
    · have hi' : i < len := by simp at hi; omega
      have h0 := hcell 0 (by omega)
      have hs : a.spot = none := by have := cell_spot h0; simpa [Addr.add] using this
      refine ⟨rfl, hs, ?_⟩
      show w.cell? (a.add i) = _
      rw [hcell i (by omega)]
      simp [List.getD_eq_getElem?_getD, List.getElem?_take, hi']
    · have := hwf y (List.mem_of_mem_take hy)
      exact wf_i64 this
/-- The types of a number. -/
def structOf (P : Program) (t : TypeId) : Option (List (TypeId × Nat)) := match P.underlying t with
  | some (.struct fs) => some (fs.toList.map fun f => (f.type, f.offset))
  | _ => none
structure RTy (P : Program) (tR tI tU tB tE : TypeId) : Prop where
  r : structOf P tR = some [(tI, 0), (tU, 2)]
  i : structOf P tI = some [(tB, 0), (tU, 1)]
  u : P.underlying tU = some (.slice tE)
  b : P.underlying tB = some .bool
  e : P.underlying tE = some (.int .u32)
  cR : P.cellsOf tR = 3
  cI : P.cellsOf tI = 2
  cU : P.cellsOf tU = 1
  cB : P.cellsOf tB = 1
  cE : P.cellsOf tE = 1
  bE : 1 ≤ P.bytesOf tE
variable {tR tI tU tB tE : TypeId}
theorem sl_of {v : Value} {A : Option Addr} {len cap : Nat} {s : SA} {k : Nat} (hv : v = .slice A len cap) (h : v.cells.toList = [sl s k]) : v = sl s k := by
  subst hv
  simpa [Value.cells] using h
theorem arg_Ints {r : Reach} {b0 : Nat} {v : Value} {d : DataW H} {pl : List MemPlace} (ht : P.underlying t = some (.slice e)) (he : P.underlying e = some (.int .i64)) (hc : P.cellsOf e = 1) (hb : 1 ≤ P.bytesOf e) (hv : Value.okWide P w r b0 t v) (h : DataW.Trod enc P w 0 (fun _ => true) true t v d pl) (hw : Wt P t d) :
    ∃ s xs, v = sl s xs.length ∧ fI s xs w ∧ ∀ z ∈ xs, -9223372036854775808 ≤ z ∧ z < 9223372036854775808 := by
  obtain ⟨A, len, cap, hA⟩ := okWide_slice ht hv
  obtain ⟨n, hn⟩ := h
  obtain ⟨s, ps, h1, h2, h3⟩ := open_I ht he hc hb (x := (d, pl)) hn hw
  exact ⟨s, ps, sl_of hA h1, h2, h3⟩
theorem arg_int {r : Reach} {b0 : Nat} {v : Value} {d : DataW H} {pl : List MemPlace} (ht : P.underlying t = some (.int .i64)) (hv : Value.okWide P w r b0 t v) (h : DataW.Trod enc P w 0 (fun _ => true) true t v d pl) :
    ∃ z : Int, v = .int .i64 z ∧ -9223372036854775808 ≤ z ∧ z < 9223372036854775808 := by
  obtain ⟨z, h1, _, _, h2⟩ := open_int ht hv h
  exact ⟨z, h1, wf_i64 h2⟩
theorem Frm.below (h : Frm (fun _ => False) w w') : Below w.heap.size w w' := ⟨h.os, h.tape, h.output, h.off.1, fun k hk => h.off.2 k hk (fun h => h)⟩
/-- A contract that answers true, called at a row's start. -/
theorem row_call {f : FuncId} {args : Array Value} {Fin : List Fact} {ι : Type} {φ : ι → Prop} {Fout : ι → List Fact} (spec : Spec P f args Fin (ι := ι) (fun _ => .bool true) φ Fout) (hF : ∀ p ∈ Fin, Rob (fun _ => False) p w) :
    Calls P f args w fun e w' => e = .returned (.bool true) ∧ Below w.heap.size w w' :=
  (spec.calls (fun _ => False) w (fun k hk => hk.elim) hF).mono (by
    rintro e w' ⟨x, rfl, _, hf, _⟩
    exact ⟨rfl, hf.below⟩)
end
end Go.Proofs.YtegnonhgildhoaaGreat.E
