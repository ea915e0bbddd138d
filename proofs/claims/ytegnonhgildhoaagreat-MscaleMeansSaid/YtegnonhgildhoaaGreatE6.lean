/- Arrays of a call's own: make, an element read or written, append, slices of slices. -/
import Derived.Test.YtegnonhgildhoaaGreatE5
import Derived.Laws.Append
namespace Go.Proofs.YtegnonhgildhoaaGreat.E
open Go Go.RowKit
set_option linter.unusedVariables false
set_option linter.unusedSimpArgs false
def encU (xs : List Nat) : Array Value := (xs.map fun x => Value.int .u32 (x : Nat)).toArray
def encR (ps : List PR) : Array Value := (ps.flatMap fun p => (ratC p.1 p.2).toList).toArray
theorem encU_size (xs : List Nat) : (encU xs).size = xs.length := by simp [encU]
theorem encU_get {xs : List Nat} {m : Nat} (h : m < xs.length) : (encU xs)[m]? = some (.int .u32 (xs.getD m 0 : Nat)) := by
  simp [encU, List.getElem?_eq_getElem h]
theorem encU_set (xs : List Nat) (m v : Nat) : (encU xs).setIfInBounds m (.int .u32 (v : Nat)) = encU (xs.set m v) := by
  apply Array.ext'; simp [encU, List.map_set]
theorem encU_app (xs ys : List Nat) : encU xs ++ encU ys = encU (xs ++ ys) := by
  apply Array.ext'; simp [encU]
theorem encR_app (xs ys : List PR) : encR xs ++ encR ys = encR (xs ++ ys) := by
  apply Array.ext'; simp [encR]
theorem encR_size (ps : List PR) : (encR ps).size = ps.length * 3 := by
  induction ps with
  | nil => rfl
  | cons p r ih =>
    have : encR (p :: r) = encR [p] ++ encR r := by rw [encR_app]; rfl
    rw [this, Array.size_append, ih]
    have : (encR [p]).size = 3 := rfl
    simp only [this, List.length_cons]; omega
theorem encR_get {ps : List PR} : ∀ {m j : Nat}, m < ps.length → j < 3 → (encR ps)[m * 3 + j]? = (ratC (ps.getD m pr0).1 (ps.getD m pr0).2)[j]? := by
  induction ps with
  | nil => intro m j h; simp at h
  | cons p r ih =>
    intro m j h hj
    have e : encR (p :: r) = encR [p] ++ encR r := by rw [encR_app]; rfl
    have h3 : (encR [p]).size = 3 := rfl
    rw [e]
    cases m with
    | zero =>
      rw [Array.getElem?_append_left (by rw [h3]; omega)]
      have : encR [p] = ratC p.1 p.2 := by apply Array.ext'; simp [encR]
      rw [this]; simp
    | succ m =>
      rw [Array.getElem?_append_right (by rw [h3]; omega), h3, show (m + 1) * 3 + j - 3 = m * 3 + j by omega]
      rw [ih (by simpa using h) hj]; simp
theorem add0 (b m : Nat) : (⟨b, 0, none⟩ : Addr).add m = ⟨b, m, none⟩ := by
  unfold Addr.add
  by_cases h : m = 0
  · subst h; rfl
  · rw [if_neg h]; simp
/-! ### what a block that is no longer written reads as -/
theorem fU_blk {b e : Nat} {xs : List Nat} {rest : Array Value} {fz : Nat × Nat} {c : Nat} {w : World} (h : fBlk b (.cells (encU xs ++ rest) e fz) w) (hc : xs.length ≤ c) (hl : xs.length ≤ 140737488355328) : fU ⟨some ⟨b, 0, none⟩, c⟩ xs w := by
  refine ⟨⟨hc, hl⟩, fun i hi => ⟨rfl, rfl, ?_⟩⟩
  show w.cell? ((⟨b, 0, none⟩ : Addr).add i) = _
  rw [add0, cell_of (a := ⟨b, i, none⟩) h rfl, Array.getElem?_append_left (by rw [encU_size]; exact hi), encU_get hi]
def allRat (ps : List PR) : Fact := fun w => ∀ p ∈ ps, fRat p.1 p.2 w
theorem fRats_blk {b e : Nat} {ps : List PR} {rest : Array Value} {fz : Nat × Nat} {c : Nat} {w : World} (h : fBlk b (.cells (encR ps ++ rest) e fz) w) (ha : allRat ps w) (hc : ps.length ≤ c) (hl : ps.length ≤ 140737488355328) : fRats ⟨some ⟨b, 0, none⟩, c⟩ ps w := by
  refine ⟨⟨hc, hl⟩, fun i hi => ⟨rfl, rfl, fun j hj => ?_, ha _ ?_⟩⟩
  · show w.cell? ((⟨b, 0, none⟩ : Addr).add (i * 3 + j)) = _
    rw [add0, cell_of (a := ⟨b, i * 3 + j, none⟩) h rfl, Array.getElem?_append_left (by rw [encR_size]; show i * 3 + j < _; omega), encR_get hi hj]
  · rw [List.getD_eq_getElem?_getD, List.getElem?_eq_getElem hi]; exact List.getElem_mem hi
theorem fRats_nil : ∀ w, fRats saNil [] w := fun w => ⟨⟨Nat.le_refl _, Nat.zero_le _⟩, fun i h => absurd h (Nat.not_lt_zero _)⟩
theorem allRat_nil : ∀ w, allRat [] w := fun w p hp => by cases hp
/-! ### slices of a list that is read -/
def saSub (s : SA) (sz lo : Nat) : SA := ⟨if s.c = lo then s.A else s.A.map (·.add (lo * sz)), s.c - lo⟩
theorem fU_sub {s : SA} {xs : List Nat} {w : World} (h : fU s xs w) (lo hi : Nat) (h1 : lo ≤ hi) (h2 : hi ≤ xs.length) : fU (saSub s 1 lo) ((xs.drop lo).take (hi - lo)) w := by
  refine ⟨⟨by simp [saSub]; have := h.1.1; omega, by simp; have := h.1.2; omega⟩, fun i hi' => ?_⟩
  have hlt : i < hi - lo := by simp at hi'; omega
  have hx := h.2 (lo + i) (by omega)
  have hne : s.c ≠ lo := by have := h.1.1; omega
  have hA : (saSub s 1 lo).A = some (s.ad.add lo) := by simp [saSub, hne, hx.1]
  have had : (saSub s 1 lo).ad = s.ad.add lo := by simp [SA.ad, hA]
  refine ⟨by rw [hA, had], ?_, ?_⟩
  · rw [had]; unfold Addr.add; split
    · exact hx.2.1
    · rfl
  · rw [had, add_add hx.2.1, hx.2.2]
    simp [List.getD_eq_getElem?_getD, List.getElem?_take, hlt, List.getElem?_drop]
section
variable {P : Program} {ops : Array Oper} {n : Nat} {X : Nat → Prop} {w0 : World} {D : Nat → Prop} {l l' l1 : Slots} {M M' M1 M2 : List Blk} {F F' : List Fact} {Q : Exit → Act → World → Prop} {ds L L' : List Nat}
theorem run_v {s : Sem Value} {v : Value} {w w' : World} (h : s.run P w = .ok v w') : (do pure (Next.value (← s)) : Sem Next).run P w = .ok (.value v) w' := by
  show Sem.run P (s.bind fun v => Sem.pure (Next.value v)) w = _
  rw [Sem.run_bind', h]; rfl
/-! make -/
theorem madeCells_one (v : Value) (k : Nat) : madeCells #[v] k = (List.replicate k v).toArray := by
  apply Array.ext
  · simp [madeCells]
  · intro i h1 h2
    simp [madeCells, Nat.mod_one]
/-- make([]T, n), an element in one cell. -/
theorem q_make1 {i t e by_ m : Nat} {v : Value} {K K' : IntKind} {x y : Operand} {n1 n2 : Int} (hop : (opOf ops i).op = .makeSlice t x y) (hx : rho l x = .int K n1) (hy : rho l y = .int K' n2) (hn1 : n1 = (m : Nat)) (hn2 : n2 = (m : Nat))
    (ht : P.underlying t = some (.slice e)) (hs : (P.info? e).map (fun i => (i.size, i.bytes, i.zero)) = some (1, by_, some v)) (hv : v.cells = #[v]) (hn : by_ * m ≤ 281474976710656) (h63 : m ≤ 281474976710656) (w : World) :
    (execOp (rho l) (opOf ops i)).run P w = .ok (.value (.slice (some ⟨w.heap.size, 0, none⟩) m m)) (w.alloc (.cells (List.replicate m v).toArray e (0, 0))) := by
  obtain ⟨inf, hi, hsz⟩ := Option.map_eq_some_iff.1 hs
  simp only [Prod.mk.injEq] at hsz
  obtain ⟨h1, h2, h3⟩ := hsz
  have hb : (inf.bytes : Int) * (m : Int) ≤ 281474976710656 := by
    rw [h2, ← Int.natCast_mul]; omega
  have := run_make (P := P) w t e inf v ht hi h3 K K' (m : Nat) (m : Nat) (by omega) (Int.le_refl _) hb (by omega)
  rw [h1, hv, Nat.mul_one, madeCells_one] at this
  simp only [Int.toNat_natCast] at this
  unfold execOp
  simp only [hop, hx, hy, hn1, hn2]
  exact run_v this
theorem encU_rep (m : Nat) : (List.replicate m (Value.int .u32 0)).toArray = encU (List.replicate m 0) := by simp [encU]
theorem RN.make {k m e : Nat} (o' : Obj) (hk : (Nat.blt k ops.size && knownOp l (opOf ops k).op && dstOk n (opOf ops k).dst) = true) (hw : wantedL ops l (opOf ops k) = some true)
    (hr : ∀ w, (execOp (rho l) (opOf ops k)).run P w = .ok (.value (.slice (some ⟨w.heap.size, 0, none⟩) m m)) (w.alloc o')) (r : ∀ b, RN P n X w0 D ops Q (k + 1) (putL (opOf ops k).dst (.slice (some ⟨b, 0, none⟩) m m) l) ((b, o') :: M) F) : RN P n X w0 D ops Q k l M F :=
  RN.new (fun b => .slice (some ⟨b, 0, none⟩) m m) o' hk hw hr r
/-! an element of an own array -/
theorem q_oidx {i t e sz m b : Nat} {x ix : Operand} {n c : Nat} {K : IntKind} {i0 : Int} (hop : (opOf ops i).op = .indexAddr t x ix) (hx : rho l x = .slice (some ⟨b, 0, none⟩) n c) (hix : rho l ix = .int K i0)
    (ht : P.underlying t = some (.slice e)) (hs : (P.info? e).map (·.size) = some sz) (hi : i0 = (m : Nat)) (hm : m < n) :
    ∀ w, Now M F w → (execOp (rho l) (opOf ops i)).run P w = .ok (.value (.pointer (some ⟨b, m * sz, none⟩))) w := by
  intro w hw
  rw [q_idx (M := M) (F := F) ⟨b, 0, none⟩ hop hx hix ht hs hi hm (fun _ _ => rfl) w hw, add0]
theorem q_oload {i T m b e mi : Nat} {x : Operand} {xs : List Nat} {fz : Nat × Nat} (hM : M[mi]? = some (b, .cells (encU xs) e fz)) (hop : (opOf ops i).op = .load T x) (hx : rho l x = .pointer (some ⟨b, m * 1, none⟩))
    (hT : (P.underlying T).map (fun d => match d with | .struct _ | .array _ _ => true | _ => false) = some false) (hm : m < xs.length) :
    ∀ w, Now M F w → (execOp (rho l) (opOf ops i)).run P w = .ok (.value (.int .u32 (xs.getD m 0 : Nat))) w :=
  q_load hop hx hT (fun w hw => by rw [cell_of (a := ⟨b, m * 1, none⟩) (hw.blk _ (List.mem_of_getElem? hM)) rfl, Nat.mul_one]; exact encU_get hm)
theorem run_store1 {T b k e : Nat} {c : Array Value} {v : Value} {w : World} {lo : Nat} (hs : (P.info? T).map (·.size) = some 1) (hv : v.cells = #[v]) (h1 : oneC v = true) (hb : w.heap[b]? = some (.cells c e (lo, 0))) (hk : k < c.size) :
    (Instr.storeAt T (.pointer (some ⟨b, k, none⟩)) v).run P w = .ok () (setBlk w b (.cells (c.setIfInBounds k v) e (lo, 0))) := by
  obtain ⟨inf, hi, hsz⟩ := Option.map_eq_some_iff.1 hs
  have hcell : w.cell? ⟨b, k, none⟩ = some c[k] := by rw [cell_of (a := ⟨b, k, none⟩) hb rfl]; simp [hk]
  have hfz : w.frozen? ⟨b, k, none⟩ = false := by simp [World.frozen?, hb]
  have hst : (store (⟨b, k, none⟩ : Addr) v).run P w = .ok () (w.setCell ⟨b, k, none⟩ v) := by
    cases v <;> first | (simp [oneC] at h1; done) | simp [store, Sem.run, hcell, hfz]
  have ha : (⟨b, k, none⟩ : Addr).add 0 = ⟨b, k, none⟩ := rfl
  show Sem.run P ((sizeOf T).bind fun sz => if v.cells.size ≠ sz then _ else storeCells ⟨b, k, none⟩ v.cells.toList) w = _
  have hso : (sizeOf T).run P w = .ok 1 w := by simp [sizeOf, typeInfo, program, Sem.run, hi, hsz]
  rw [Sem.run_bind', hso]
  show Sem.run P (if v.cells.size ≠ 1 then _ else storeCells ⟨b, k, none⟩ v.cells.toList) w = _
  rw [hv]
  show Sem.run P ((store ((⟨b, k, none⟩ : Addr).add 0) v).bind fun _ => Sem.pure ()) w = _
  rw [Sem.run_bind', ha, hst, setCell_eq hb rfl v]; rfl
/-- An operation that writes one own block. -/
theorem OT.st {o : Oper} {mi b : Nat} {ob o' : Obj} (hM : M[mi]? = some (b, ob)) (hk : (knownOp l o.op && dstOk n o.dst) = true) (hr : ∀ w, Now M F w → (execOp (rho l) o).run P w = .ok .skip (setBlk w b o')) :
    OT P n X w0 D o Q l M F (ι := Unit) (fun _ => True) (fun _ => putL o.dst undef l) (fun _ => M.set mi (b, o')) (fun _ => F) := by
  intro a w hs K hK
  rw [Bool.and_eq_true] at hk
  unfold Oper.wp
  rw [hs.exec hk.1, hr w hs.mem.toNow]
  exact hK () _ _ trivial (hs.put hk.2 _ (hs.mem.setBlk hM))
theorem ot_ustore {o : Oper} {T m b e mi v0 : Nat} {x y : Operand} {xs : List Nat} {v : Int} (hM : M[mi]? = some (b, .cells (encU xs) e (0, 0))) (hk : (knownOp l o.op && dstOk n o.dst) = true) (hop : o.op = .store T x y) (hx : rho l x = .pointer (some ⟨b, m * 1, none⟩)) (hy : rho l y = .int .u32 v)
    (hs : (P.info? T).map (·.size) = some 1) (hv : v = (v0 : Nat)) (hm : m < xs.length) :
    OT P n X w0 D o Q l M F (ι := Unit) (fun _ => True) (fun _ => putL o.dst undef l) (fun _ => M.set mi (b, .cells (encU (xs.set m v0)) e (0, 0))) (fun _ => F) := by
  refine OT.st hM hk (fun w hw => ?_)
  have := run_store1 (P := P) (T := T) (v := .int .u32 v) hs rfl rfl (hw.blk _ (List.mem_of_getElem? hM)) (k := m * 1) (by rw [encU_size]; show m * 1 < xs.length; omega)
  unfold execOp
  simp only [hop, hx, hy]
  show Sem.run P ((Instr.storeAt T (.pointer (some ⟨b, m * 1, none⟩)) (.int .u32 v)).bind fun _ => Sem.pure Next.skip) w = _
  rw [Sem.run_bind', this]
  show Result.ok Next.skip _ = _
  rw [Nat.mul_one, hv, encU_set]
theorem RN.ot {k : Nat} {ι : Type} {φ : ι → Prop} {l' : ι → Slots} {M' : ι → List Blk} {F' : ι → List Fact} (hk : Nat.blt k ops.size = true) (hw : wantedL ops l (opOf ops k) = some true)
    (h : OT P n X w0 D (opOf ops k) Q l M F φ l' M' F') (r : ∀ x, φ x → RN P n X w0 D ops Q (k + 1) (l' x) (M' x) (F' x)) : RN P n X w0 D ops Q k l M F := RN.op hk hw h r
/-- An operation of ds that alone may come up, by its own law. -/
theorem RD.ot {i : Nat} {ι : Type} {φ : ι → Prop} {l' : ι → Slots} {M' : ι → List Blk} {F' : ι → List Fact} (hok : regOk ops ds = true)
    (hr : (List.range ops.size).filter (readyL ops L) = [i]) (hi : (!ds.elem i || !Nat.blt L.length ops.size) = false) (hw : wantedL ops l (opOf ops i) = some true) (h : OT P n X w0 D (opOf ops i) Q l M F φ l' M' F')
    (r : ∀ x, φ x → RD P n X w0 D ops Q ds (i :: L) (l' x) (M' x) (F' x)) : RD P n X w0 D ops Q ds L l M F := fun a w fuel hf hc hs => by
  simp only [regOk, Bool.and_eq_true] at hok
  simp only [Bool.or_eq_false_iff, Bool.not_eq_false'] at hi
  obtain ⟨hi1, hi2⟩ := hi
  rw [Nat.blt_eq] at hi2
  obtain ⟨k, rfl, hk⟩ := len_le hf hi2
  have hr' : Region.ready .any ops (lst ops.size L) = [i] := by rw [ready_list, hr]
  have hready : i ∈ Region.ready .any ops (lst ops.size L) := by rw [hr']; simp
  have hid : i ∈ ds := by simpa using hi1
  refine ⟨fun h0 => (by rw [h0] at hready; cases hready), fun j hj => ?_⟩
  rw [hr'] at hj
  simp only [List.mem_singleton] at hj
  subst hj
  have hlt := readyL_lt (ready_iff.1 hready)
  have ho : ops[j]? = some (opOf ops j) := by simp [opOf, hlt]
  unfold wpOp
  rw [ho]
  simp only [hs.wanted hw, if_true]
  refine .inl (h a w hs _ (fun x a' w' hx hs' => ⟨fun hn => absurd hid hn, ?_⟩))
  refine WA_tail (S' := Now (M' x) (F' x)) k _ a' w' (fun j' hj' hd => (tailOk_spec hok.2 j hid j' hj' hd).imp id (fun h => getD_set_true (hc.ready h hready))) ?_
  rw [lst_set]
  exact r x hx a' w' k (by simpa using hk) (lst_set ▸ hc.set hready) hs'
/-! append to a slice of the call's own -/
structure GB where
  b : Nat
  cap : Nat
  rest : Array Value
def glS : Option GB → SA
  | none => saNil
  | some g => ⟨some ⟨g.b, 0, none⟩, g.cap⟩
def glM (o : Option GB) (cs : Array Value) (e : TypeId) : List Blk := match o with
  | none => []
  | some g => [(g.b, .cells (cs ++ g.rest) e (0, 0))]
def gOk (sz : Nat) (o : Option GB) (k : Nat) : Prop := match o with
  | none => k = 0
  | some g => g.cap * sz ≤ k * sz + g.rest.size ∧ k ≤ g.cap
theorem Mem.perm {w : World} (h : Mem X w0 D M F w) (hp : M.Perm M') : Mem X w0 D M' F w :=
  ⟨h.frm, fun m hm => h.blk m (hp.mem_iff.2 hm), fun m hm => h.own m (hp.mem_iff.2 hm), (hp.map (·.1)).nodup_iff.1 h.nodup, h.xs, fun p hpf => (h.facts p hpf).step (Off.refl _ w) (fun k hk => .inl (hk.imp id (fun hk => (hp.map (·.1)).mem_iff.2 hk)))⟩
theorem setRow_eq {w : World} {g e : Nat} {c c' : Array Value} {fz : Nat × Nat} (h : w.heap[g]? = some (.cells c e fz)) : w.setRow g c' = setBlk w g (.cells c' e fz) := by
  have : (w.setRow g c').heap = w.heap.setIfInBounds g (.cells c' e fz) := by
    apply Array.ext_getElem?
    intro i
    simp only [World.setRow, Array.getElem?_modify]
    by_cases he : g = i
    · subst he
      rw [if_pos rfl, h, Array.getElem?_setIfInBounds_self_of_lt (Array.getElem?_eq_some_iff.1 h).1]; rfl
    · rw [if_neg he, Array.getElem?_setIfInBounds_ne he]
  show ({ w with heap := (w.setRow g c').heap } : World) = _
  rw [this]; rfl
end
end Go.Proofs.YtegnonhgildhoaaGreat.E
