/- A row's arguments, read as data, become facts about memory; a contract's frame becomes the row's. -/
import Derived.Test.YtegnonhgildhoaaGreatEE
import Derived.Test.YtegnonhgildhoaaGreatN8
import Derived.WalkKit
import Derived.ProofKit
import Derived.OpenShut
import Derived.ChangeOld
import Derived.Below
import Derived.SizedLaws
namespace Go.Proofs.YtegnonhgildhoaaGreat.E
open Go Go.RowKit Go.ChangeShapes Go.WideShapes
set_option linter.unusedVariables false
set_option linter.unusedSimpArgs false
section
variable {H : Type} {enc : TypeId × Value → H} {P : Program} {w w' : World} {fuel t e : Nat} {cs : List Value} {x : DataW H × List MemPlace}
def Wt (P : Program) (t : TypeId) (d : DataW H) : Prop := ∀ n ∈ d.weights P t, n ≤ reachBytes
theorem Wt.of_each {ts : List TypeId} {ds : List (DataW H)} (h : (DataW.weightsEach P ts ds).all (· ≤ reachBytes) = true) {j : Nat} {t : TypeId} {d : DataW H} (ht : ts[j]? = some t) (hd : ds[j]? = some d) : Wt P t d := fun n hn => by
  have := List.all_eq_true.1 h n (DataW.weights_mem_each ht hd n hn)
  simpa using this
theorem Wt.of_mem {ts : List TypeId} {ds : List (DataW H)} (h : ∀ n ∈ DataW.weightsEach P ts ds, n ≤ reachBytes) {j : Nat} {t : TypeId} {d : DataW H} (ht : ts[j]? = some t) (hd : ds[j]? = some d) : Wt P t d := fun n hn =>
  h n (DataW.weights_mem_each ht hd n hn)
theorem weightsAll_mem {e : TypeId} : ∀ {ds : List (DataW H)} {d : DataW H}, d ∈ ds → ∀ n ∈ d.weights P e, n ∈ DataW.weightsAll P e ds
  | [], _, h, _, _ => by cases h
  | d0 :: r, d, h, n, hn => by
    rcases List.mem_cons.1 h with rfl | h
    · simp [DataW.weightsAll, hn]
    · simp [DataW.weightsAll, weightsAll_mem h n hn]
theorem Wt.slice {elems rest : List (DataW H)} (ht : P.underlying t = some (.slice e)) (h : Wt P t (.slice elems rest)) : (elems.length + rest.length) * P.bytesOf e ≤ reachBytes ∧ ∀ d ∈ elems, Wt P e d := by
  unfold Wt at h
  simp only [DataW.weights, ht] at h
  exact ⟨h _ List.mem_cons_self, fun d hd n hn => h n (List.mem_cons_of_mem _ (List.mem_append_left _ (weightsAll_mem hd n hn)))⟩
theorem Wt.agg {fs : Array Field} {parts : List (DataW H)} (ht : P.underlying t = some (.struct fs)) (h : Wt P t (.agg parts)) {j : Nat} {f : Field} {d : DataW H} (hf : fs[j]? = some f) (hd : parts[j]? = some d) : Wt P f.type d := by
  unfold Wt at h
  simp only [DataW.weights, ht] at h
  exact Wt.of_mem (j := j) h (by simp [List.getElem?_map, Array.getElem?_toList, hf]) hd
theorem cell_spot {a : Addr} {v : Value} (h : w.cell? a = some v) : a.spot = none := by
  unfold World.cell? at h
  split at h
  · split at h
    · cases h
    · rename_i h0; simpa using h0
  · cases h
theorem cell_off (ho : Off (fun _ => False) w w') {a : Addr} {v : Value} (h : w.cell? a = some v) : w'.cell? a = some v := by
  have hlt : a.block < w.heap.size := by
    unfold World.cell? at h
    cases hb : w.heap[a.block]? with
    | none => rw [hb] at h; cases h
    | some o => exact (Array.getElem?_eq_some_iff.1 hb).1
  unfold World.cell? at *
  rw [ho.2 a.block hlt (fun h => h)]; exact h
theorem fU_off (ho : Off (fun _ => False) w w') {s : SA} {xs : List Nat} (h : fU s xs w) : fU s xs w' := ⟨h.1, fun i hi => ⟨(h.2 i hi).1, (h.2 i hi).2.1, cell_off ho (h.2 i hi).2.2⟩⟩
theorem fRat_off (ho : Off (fun _ => False) w w') {p : RA} {r : Raw} (h : fRat p r w) : fRat p r w' := ⟨fU_off ho h.1, fU_off ho h.2⟩
theorem fRats_off (ho : Off (fun _ => False) w w') {s : SA} {ps : List PR} (h : fRats s ps w) : fRats s ps w' :=
  ⟨h.1, fun i hi => ⟨(h.2 i hi).1, (h.2 i hi).2.1, fun j hj => by
    have h3 := (h.2 i hi).2.2.1 j hj
    cases hc : (ratC (ps.getD i pr0).1 (ps.getD i pr0).2)[j]? with
    | none => exfalso; unfold ratC at hc; match j, hj with
      | 0, _ => cases hc
      | 1, _ => cases hc
      | 2, _ => cases hc
    | some v => exact cell_off ho (h3.trans hc), fRat_off ho (h.2 i hi).2.2.2⟩⟩
theorem wf_u32 {z : Int} (h : (Lit.int .u32 z).wf = true) : 0 ≤ z ∧ z < 4294967296 := by
  have := bounds_u32 h
  omega
/-- A slice of uint32. -/
theorem open_U (ht : P.underlying t = some (.slice e)) (he : P.underlying e = some (.int .u32)) (hc : P.cellsOf e = 1) (hb : 1 ≤ P.bytesOf e)
    (h : DataW.trod enc P w 0 (fun _ => true) true fuel t cs = some x) (hw : Wt P t x.1) : ∃ s xs, cs = [sl s xs.length] ∧ fU s xs w ∧ Lb xs := by
  rcases open_ints ht he hc h with ⟨rfl, rfl⟩ | ⟨a, len, cap, zs, rfl, _, hl, hm, hz, rfl, hcell, hwf⟩
  · exact ⟨saNil, [], rfl, fU_nil w, Lb_nil⟩
  · simp only [if_true] at hz
    have hlen : len ≤ zs.length := by omega
    have hb2 := (hw.slice ht).1
    have h47 : len ≤ 140737488355328 := by
      have h1 : len ≤ (lits (H := H) .u32 (zs.take len)).length + (lits (H := H) .u32 (zs.drop len)).length := by simp [lits]; omega
      have h2 := Nat.le_trans (Nat.mul_le_mul h1 hb) hb2
      have : reachBytes ≤ 140737488355328 := by decide
      omega
    have hwf' : ∀ i, i < zs.length → 0 ≤ zs.getD i 0 ∧ zs.getD i 0 < 4294967296 := fun i hi => by
      have := hwf (zs.getD i 0) (by rw [List.getD_eq_getElem?_getD, List.getElem?_eq_getElem hi]; exact List.getElem_mem hi)
      exact wf_u32 this
    refine ⟨⟨some a, cap⟩, (zs.take len).map Int.toNat, by simp [sl, Nat.min_eq_left hlen], ⟨⟨by simp; omega, by simp; omega⟩, fun i hi => ?_⟩, fun y hy => ?_⟩
    · have hi' : i < len := by simp at hi; omega
      have h0 := hcell 0 (by omega)
      have hs : a.spot = none := by have := cell_spot h0; simpa [Addr.add] using this
      refine ⟨rfl, hs, ?_⟩
      show w.cell? (a.add i) = _
      rw [hcell i (by omega)]
      have hn := (hwf' i (by omega)).1
      have e1 : ((zs.take len).map Int.toNat).getD i 0 = (zs.getD i 0).toNat := by
        simp [List.getD_eq_getElem?_getD, List.getElem?_map, List.getElem?_take, hi', List.getElem?_eq_getElem (show i < zs.length by omega)]
      rw [e1, Int.toNat_of_nonneg hn]
    · obtain ⟨z, hz1, rfl⟩ := List.mem_map.1 hy
      have hz2 := List.mem_of_mem_take hz1
      have := wf_u32 (hwf z hz2)
      rw [W_eq]; omega
/-- The types of a number. -/
def structOf (P : Program) (t : TypeId) : Option (List (TypeId × Nat)) := match P.underlying t with
  | some (.struct fs) => some (fs.toList.map fun f => (f.type, f.offset))
  | _ => none
theorem structOf_two {a b : TypeId} {o p : Nat} (h : structOf P t = some [(a, o), (b, p)]) : ∃ fs f g, P.underlying t = some (.struct fs) ∧ fs[0]? = some f ∧ fs[1]? = some g ∧ fs.size = 2 ∧ f.type = a ∧ f.offset = o ∧ g.type = b ∧ g.offset = p := by
  unfold structOf at h
  split at h
  · rename_i fs hfs
    simp only [Option.some.injEq] at h
    have hl : fs.toList.length = 2 := by have := congrArg List.length h; simpa using this
    match hL : fs.toList, hl with
    | [f, g], _ =>
      rw [hL] at h
      simp only [List.map_cons, List.map_nil, List.cons.injEq, Prod.mk.injEq, and_true] at h
      obtain ⟨⟨h1, h2⟩, h3, h4⟩ := h
      refine ⟨fs, f, g, hfs, by rw [← Array.getElem?_toList, hL]; rfl, by rw [← Array.getElem?_toList, hL]; rfl, by simpa using congrArg List.length hL, h1, h2, h3, h4⟩
  · cases h
structure RTy (P : Program) (tR tI tU tB tE : TypeId) : Prop where
  r : structOf P tR = some [(tI, 0), (tU, 2)]
  i : structOf P tI = some [(tB, 0), (tU, 1)]
  u : P.underlying tU = some (.slice tE)
  b : P.underlying tB = some .bool
  e : P.underlying tE = some (.int .u32)
  cR : P.cellsOf tR = 3
  cI : P.cellsOf tI = 2
  cU : P.cellsOf tU = 1
  cB : P.cellsOf tB = 1
  cE : P.cellsOf tE = 1
  bE : 1 ≤ P.bytesOf tE
variable {tR tI tU tB tE : TypeId}
theorem open_R (T : RTy P tR tI tU tB tE) (h : DataW.trod enc P w 0 (fun _ => true) true fuel tR cs = some x) (hw : Wt P tR x.1) : ∃ p r, cs = (ratC p r).toList ∧ fRat p r w ∧ Lb r.mag ∧ Lb r.den := by
  obtain ⟨fs, f, g, hu, hf, hg, hs, rfl, ho1, hg1, ho2⟩ := structOf_two T.r
  obtain ⟨xs, n, _, rfl, hl, hxl, hx⟩ := DataW.trod_struct hu h
  rw [T.cR] at hl
  match cs, hl with
  | [c0, c1, c2], _ =>
    rw [hs] at hxl
    match xs, hxl with
    | [x0, x1], _ =>
      have h0 := hx 0 f hf
      have h1 := hx 1 g hg
      rw [ho1, T.cI] at h0
      rw [ho2, hg1, T.cU] at h1
      have w0 : Wt P f.type x0.1 := hw.agg hu (j := 0) hf rfl
      have w1 : Wt P g.type x1.1 := hw.agg hu (j := 1) hg rfl
      rw [hg1] at w1
      obtain ⟨sd, ds, e2, fd, ld⟩ := open_U T.u T.e T.cE T.bE (x := x1) (by simpa using h1) w1
      obtain ⟨fs', f', g', hu', hf', hg', hs', ha', ho1', hg1', ho2'⟩ := structOf_two T.i
      obtain ⟨ys, m, _, hy0, hl', hyl, hy⟩ := DataW.trod_struct hu' (x := x0) (by simpa using h0)
      rw [hs'] at hyl
      match ys, hyl with
      | [y0, y1], _ =>
        have k0 := hy 0 f' hf'
        have k1 := hy 1 g' hg'
        rw [ho1', ha', T.cB] at k0
        rw [ho2', hg1', T.cU] at k1
        obtain ⟨b, eb, _⟩ := DataW.trod_bool T.b (x := y0) (by simpa using k0)
        rw [hy0] at w0
        have w3 : Wt P g'.type y1.1 := w0.agg hu' (j := 1) hg' rfl
        rw [hg1'] at w3
        obtain ⟨sm, ms, e1, fm, lm⟩ := open_U T.u T.e T.cE T.bE (x := y1) (by simpa using k1) w3
        simp at eb e1 e2
        subst eb e1 e2
        exact ⟨⟨sm, sd⟩, ⟨b, ms, ds⟩, rfl, ⟨fm, fd⟩, lm, ld⟩
theorem cells_get {base : Nat} {a : Addr} {n : Nat} (h : w.cells? base a n = some cs) : cs.length = n ∧ ∀ i, i < n → w.cell? (a.add i) = cs[i]? := by
  unfold World.cells? at h
  split at h
  · have hl : ∀ (l : List Nat) (ys : List Value), l.mapM (fun i => w.cell? (a.add i)) = some ys → ys.length = l.length ∧ ∀ (k i : Nat), l[k]? = some i → w.cell? (a.add i) = ys[k]? := by
      intro l
      induction l with
      | nil => intro ys hy; simp at hy; subst hy; exact ⟨rfl, fun k i hk => by simp at hk⟩
      | cons j r ih =>
        intro ys hy
        rw [List.mapM_cons] at hy
        cases hj : w.cell? (a.add j) with
        | none => rw [hj] at hy; cases hy
        | some v =>
          rw [hj] at hy
          cases hr : r.mapM (fun i => w.cell? (a.add i)) with
          | none => rw [hr] at hy; cases hy
          | some vs =>
            rw [hr] at hy
            simp at hy
            subst hy
            obtain ⟨i1, i2⟩ := ih vs hr
            refine ⟨by simp [i1], fun k i hk => ?_⟩
            cases k with
            | zero => simp at hk; subst hk; simpa using hj
            | succ k => simp at hk ⊢; exact i2 k i hk
    obtain ⟨h1, h2⟩ := hl _ _ h
    refine ⟨by simpa using h1, fun i hi => h2 i i (by simp [hi])⟩
  · cases h
/-- A slice of numbers. -/
theorem open_Rats (T : RTy P tR tI tU tB tE) (ht : P.underlying t = some (.slice tR)) (hb : 1 ≤ P.bytesOf tR) (h : DataW.trod enc P w 0 (fun _ => true) true fuel t cs = some x) (hw : Wt P t x.1) :
    ∃ s ps, cs = [sl s ps.length] ∧ fRats s ps w ∧ ∀ i, i < ps.length → Lb (ps.getD i pr0).2.mag ∧ Lb (ps.getD i pr0).2.den := by
  rcases DataW.trod_slice ht h with ⟨rfl, rfl⟩ | ⟨a, len, cap, elems, rest, n, _, rfl, rfl, _, hl, hm, hlen, hel, hsp, _⟩
  · exact ⟨saNil, [], rfl, fRats_nil w, fun i hi => absurd hi (Nat.not_lt_zero _)⟩
  · obtain ⟨hb2, hwe⟩ := hw.slice ht
    have h47 : len ≤ 140737488355328 := by
      have h1 : len ≤ (elems.map (·.1)).length + (rest.map (·.1)).length := by simp; omega
      have h2 := Nat.le_trans (Nat.mul_le_mul h1 hb) hb2
      have : reachBytes ≤ 140737488355328 := by decide
      omega
    have each : ∀ i, i < len → ∃ q : PR, (∀ j, j < 3 → w.cell? ((a.add (i * 3)).add j) = (ratC q.1 q.2)[j]?) ∧ fRat q.1 q.2 w ∧ Lb q.2.mag ∧ Lb q.2.den := by
      intro i hi
      have hi' := hel i hi
      rw [T.cR, List.getElem?_eq_getElem (by omega)] at hi'
      obtain ⟨c, hc1, hc2⟩ := Option.bind_eq_some_iff.1 hi'
      obtain ⟨p, r, rfl, h2, h3, h4⟩ := open_R T hc2 (hwe _ (List.mem_map.2 ⟨_, List.getElem_mem _, rfl⟩))
      obtain ⟨_, hg⟩ := cells_get hc1
      exact ⟨(p, r), fun j hj => by rw [hg j hj, Array.getElem?_toList], h2, h3, h4⟩
    let f : Nat → PR := fun i => if hi : i < len then Classical.choose (each i hi) else pr0
    have hf : ∀ i (hi : i < len), f i = Classical.choose (each i hi) := fun i hi => dif_pos hi
    have hget : ∀ i, i < len → ((List.range len).map f).getD i pr0 = f i := fun i hi => by
      simp [List.getD_eq_getElem?_getD, List.getElem?_map, List.getElem?_range, hi]
    refine ⟨⟨some a, cap⟩, (List.range len).map f, by simp [sl], ⟨⟨by simp; omega, by simp; omega⟩, fun i hi => ?_⟩, fun i hi => ?_⟩
    · have hi' : i < len := by simpa using hi
      have hc := Classical.choose_spec (each i hi')
      rw [← hf i hi'] at hc
      have hc0 := Classical.choose_spec (each 0 (by omega))
      have hs : a.spot = none := by
        have := hc0.1 0 (by omega)
        exact cell_spot (a := a) (v := .bool (Classical.choose (each 0 (by omega))).2.neg) (by simpa [Addr.add, ratC] using this)
      refine ⟨rfl, hs, fun j hj => ?_, ?_⟩
      · rw [hget i hi', ← hc.1 j hj]
        show w.cell? (a.add (i * 3 + j)) = _
        rw [← add_add hs]
      · rw [hget i hi']; exact hc.2.1
    · have hi' : i < len := by simpa using hi
      have hc := Classical.choose_spec (each i hi')
      rw [← hf i hi'] at hc
      rw [hget i hi']; exact hc.2.2
theorem okWide_struct {r : Reach} {b0 : Nat} {v : Value} {l : List (TypeId × Nat)} (hs : structOf P t = some l) (h : Value.okWide P w r b0 t v) : ∃ cs, v = .agg cs := by
  unfold structOf at hs
  split at hs
  · rename_i fs hu
    simp only [Value.okWide, hu] at h
    obtain ⟨cs, h1, _⟩ := h
    exact ⟨cs, h1⟩
  · cases hs
theorem arg_R {r : Reach} {b0 : Nat} {v : Value} {d : DataW H} {pl : List MemPlace} (T : RTy P tR tI tU tB tE) (hv : Value.okWide P w r b0 tR v) (h : DataW.Trod enc P w 0 (fun _ => true) true tR v d pl) (hw : Wt P tR d) :
    ∃ p r, v = ratV p r ∧ fRat p r w ∧ Lb r.mag ∧ Lb r.den := by
  obtain ⟨cs, rfl⟩ := okWide_struct T.r hv
  obtain ⟨n, hn⟩ := h
  obtain ⟨p, r, h1, h2, h3, h4⟩ := open_R T (x := (d, pl)) hn hw
  refine ⟨p, r, ?_, h2, h3, h4⟩
  show Value.agg cs = .agg (ratC p r)
  congr 1
  apply Array.ext'
  exact h1
theorem sl_of {v : Value} {A : Option Addr} {len cap : Nat} {s : SA} {k : Nat} (hv : v = .slice A len cap) (h : v.cells.toList = [sl s k]) : v = sl s k := by
  subst hv
  simpa [Value.cells] using h
theorem arg_Rats {r : Reach} {b0 : Nat} {v : Value} {d : DataW H} {pl : List MemPlace} (T : RTy P tR tI tU tB tE) (ht : P.underlying t = some (.slice tR)) (hb : 1 ≤ P.bytesOf tR) (hv : Value.okWide P w r b0 t v) (h : DataW.Trod enc P w 0 (fun _ => true) true t v d pl) (hw : Wt P t d) :
    ∃ s ps, v = sl s ps.length ∧ fRats s ps w ∧ ∀ i, i < ps.length → Lb (ps.getD i pr0).2.mag ∧ Lb (ps.getD i pr0).2.den := by
  obtain ⟨A, len, cap, hA⟩ := okWide_slice ht hv
  obtain ⟨n, hn⟩ := h
  obtain ⟨s, ps, h1, h2, h3⟩ := open_Rats T ht hb (x := (d, pl)) hn hw
  exact ⟨s, ps, sl_of hA h1, h2, h3⟩
theorem Frm.below (h : Frm (fun _ => False) w w') : Below w.heap.size w w' := ⟨h.os, h.tape, h.output, h.off.1, fun k hk => h.off.2 k hk (fun h => h)⟩
/-- A contract that answers true, called at a row's start. -/
theorem row_call {f : FuncId} {args : Array Value} {Fin : List Fact} {ι : Type} {φ : ι → Prop} {Fout : ι → List Fact} (spec : Spec P f args Fin (ι := ι) (fun _ => .bool true) φ Fout) (hF : ∀ p ∈ Fin, Rob (fun _ => False) p w) :
    Calls P f args w fun e w' => e = .returned (.bool true) ∧ Below w.heap.size w w' :=
  (spec.calls (fun _ => False) w (fun k hk => hk.elim) hF).mono (by
    rintro e w' ⟨x, rfl, _, hf, _⟩
    exact ⟨rfl, hf.below⟩)
end
end Go.Proofs.YtegnonhgildhoaaGreat.E
