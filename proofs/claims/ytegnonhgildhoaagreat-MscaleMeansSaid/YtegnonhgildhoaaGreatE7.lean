/- Append to a slice of the call's own; loops with what they grow. -/
import Derived.Test.YtegnonhgildhoaaGreatE6
import Derived.Laws.AppendOwn
import Derived.Laws.MakeOwn
namespace Go.Proofs.YtegnonhgildhoaaGreat.E
open Go Go.RowKit
set_option linter.unusedVariables false
set_option linter.unusedSimpArgs false
section
variable {P : Program} {ops : Array Oper} {n : Nat} {X : Nat → Prop} {w0 : World} {D : Nat → Prop} {l l' l1 : Slots} {M M' M1 M2 : List Blk} {F F' : List Fact} {Q : Exit → Act → World → Prop} {ds L L' : List Nat}
theorem oneC_eq (v : Value) : v.oneCell' = oneC v := by cases v <;> rfl
theorem OT.app {o : Oper} {T e sz by_ k n1 : Nat} {z : Value} {x y : Operand} {go : Option GB} {cs : Array Value} {ad : Addr} {c : Nat} {new : List Value} {type : Nat} (M1 M2 : List Blk)
    (hM : M = M1 ++ (glM go cs e ++ M2)) (hkd : (knownOp l o.op && dstOk n o.dst) = true) (hop : o.op = .call { callee := .builtin .append, args := #[x, y], argTypes := #[T, T] })
    (hx : rho l x = sl (glS go) n1) (hy : rho l y = .slice (some ad) k c) (hT : P.underlying T = some (.slice e)) (hi : (P.info? e).map (fun i => (i.size, i.bytes, i.zero)) = some (sz, by_, some z)) (hzs : z.cells.size = sz)
    (hcs : cs.size = n1 * sz) (hnl : new.length = k * sz) (hnew : ∀ w, Now M F w → ∀ j v, new[j]? = some v → w.cell? (ad.add j) = some v) (h1 : ∀ u ∈ new, oneC u = true)
    (hok : gOk sz go n1) (hk : 0 < k) (hb : (n1 + k) * by_ ≤ 140737488355328) (h63 : n1 + k ≤ 140737488355328) :
    OT P n X w0 D o Q l M F (ι := GB) (fun g => gOk sz (some g) (n1 + k)) (fun g => putL o.dst (sl (glS (some g)) (n1 + k)) l) (fun g => M1 ++ (glM (some g) (cs ++ new.toArray) e ++ M2)) (fun _ => F) := by
  intro a w hs K hK
  rw [Bool.and_eq_true] at hkd
  obtain ⟨inf, hinf, hq⟩ := Option.map_eq_some_iff.1 hi
  simp only [Prod.mk.injEq] at hq
  obtain ⟨q1, q2, q3⟩ := hq
  have hN := hs.mem.toNow
  have hexec : ∀ {v w'}, (Builtin.append_ #[T, T] o.type #[sl (glS go) n1, .slice (some ad) k c]).run P w = .ok v w' → (execOp (rho l) o).run P w = .ok (.value v) w' := by
    intro v w' h
    unfold execOp
    simp only [hop, resolve, Sem.run_bind, invoke, builtin]
    have : (#[x, y] : Array Operand).map (rho l) = #[sl (glS go) n1, .slice (some ad) k c] := by simp [hx, hy]
    show Sem.run P (do pure (Next.value (← Builtin.append_ #[T, T] o.type ((#[x, y] : Array Operand).map (rho l)))) : Sem Next) w = _
    rw [this]; exact run_v h
  have hnew' := hnew w hN
  have hnl' : new.length = k * inf.size := by rw [q1]; exact hnl
  have h1' : ∀ u ∈ new, u.oneCell' = true := fun u hu => by rw [oneC_eq]; exact h1 u hu
  have newcase : ∀ (old : Array Value) (cap : Nat) (w' : World), w' = w.drew.alloc (.cells (old ++ Builtin.zeroCells z.cells (cap - (n1 + k))) e (0, 0)) → old = cs ++ new.toArray → n1 + k ≤ cap →
      (execOp (rho l) o).run P w = .ok (.value (.slice (some ⟨w.heap.size, 0, none⟩) (n1 + k) cap)) w' → o.wp P a w K Q := by
    intro old cap w' hw' hold hcap hrun
    unfold Oper.wp
    rw [hs.exec hkd.1, hrun, Oper.upon_value]
    refine hK ⟨w.heap.size, cap, Builtin.zeroCells z.cells (cap - (n1 + k))⟩ _ _ ⟨?_, hcap⟩ (hs.put hkd.2 _ ?_)
    · show cap * sz ≤ (n1 + k) * sz + (Builtin.zeroCells z.cells (cap - (n1 + k))).size
      rw [size_zeroCells, hzs, ← Nat.add_mul]
      exact Nat.mul_le_mul_right _ (by omega)
    · subst hw'
      have hm := (hs.mem.drew).alloc (.cells (old ++ Builtin.zeroCells z.cells (cap - (n1 + k))) e (0, 0))
      have hsub : List.Sublist ((w.heap.size, Obj.cells (old ++ Builtin.zeroCells z.cells (cap - (n1 + k))) e (0, 0)) :: (M1 ++ M2)) ((w.drew.heap.size, Obj.cells (old ++ Builtin.zeroCells z.cells (cap - (n1 + k))) e (0, 0)) :: M) := by
        refine List.Sublist.cons_cons _ ?_
        rw [hM]
        exact List.Sublist.append (List.Sublist.refl _) (List.sublist_append_right _ _)
      refine (hm.sub hsub (fun p hp => hp)).perm ?_
      subst hold
      simp only [glM, List.singleton_append]
      exact (List.perm_middle (a := (w.heap.size, Obj.cells (cs ++ new.toArray ++ Builtin.zeroCells z.cells (cap - (n1 + k))) e (0, 0))) (l₁ := M1) (l₂ := M2)).symm
  cases go with
  | none =>
    have hn0 : n1 = 0 := hok
    subst hn0
    have hcs0 : cs = #[] := Array.eq_empty_of_size_eq_zero (by simpa using hcs)
    subst hcs0
    have hr := run_append_nil (P := P) w T o.type e inf z hT hinf q3 ad k c new hnl' hnew' hk (by omega) (by rw [q2]; rw [Nat.zero_add] at hb; omega)
    exact newcase new.toArray (grownCap w k 0 e) (w.drew.alloc (.cells (new.toArray ++ Builtin.zeroCells z.cells (grownCap w k 0 e - k)) e)) (by rw [Nat.zero_add]) (by simp) (by rw [Nat.zero_add]; exact grownCap_ge w k 0 e) (by rw [Nat.zero_add]; exact hexec hr)
  | some g =>
    obtain ⟨hg1, hg2⟩ := hok
    have hget : M[M1.length]? = some (g.b, .cells (cs ++ g.rest) e (0, 0)) := by
      rw [hM, List.getElem?_append_right (Nat.le_refl _)]; simp [glM]
    have hblk := hN.blk _ (List.mem_of_getElem? hget)
    by_cases hroom : n1 + k ≤ g.cap
    · have hsz : n1 * sz + k * sz ≤ n1 * sz + g.rest.size := by
        have : (n1 + k) * sz ≤ g.cap * sz := Nat.mul_le_mul_right _ hroom
        rw [Nat.add_mul] at this; omega
      have hr := run_append_room (P := P) w T o.type e inf hT hinf g.b n1 g.cap (cs ++ g.rest) hblk ad k c new hnl' hnew' h1' hroom (by rw [q1, Array.size_append, hcs, hnl]; exact hsz)
      unfold Oper.wp
      rw [hs.exec hkd.1, hexec hr, Oper.upon_value]
      have hcells : ((cs ++ g.rest).toList.take (n1 * inf.size) ++ new ++ (cs ++ g.rest).toList.drop (n1 * inf.size + new.length)).toArray = cs ++ new.toArray ++ g.rest.extract new.length g.rest.size := by
        apply Array.ext'
        have hl : cs.toList.length = n1 * sz := by simpa using hcs
        simp only [Array.toList_append, Array.toList_extract, q1]
        rw [List.take_append_of_le_length (by omega), List.take_of_length_le (by omega), List.drop_append, List.drop_of_length_le (by omega)]
        simp only [List.nil_append, hl, show n1 * sz + new.length - n1 * sz = new.length by omega, List.append_assoc]
        congr 1
        congr 1
        rw [List.extract_eq_take_drop, List.take_of_length_le (by simp)]
      rw [setRow_eq hblk, hcells]
      refine hK ⟨g.b, g.cap, g.rest.extract new.length g.rest.size⟩ _ _ ⟨?_, hroom⟩ (hs.put hkd.2 _ ?_)
      · show g.cap * sz ≤ (n1 + k) * sz + (g.rest.extract new.length g.rest.size).size
        simp only [Array.size_extract, Nat.min_self, hnl, Nat.add_mul]; omega
      · have hm := hs.mem.setBlk (o' := .cells (cs ++ new.toArray ++ g.rest.extract new.length g.rest.size) e (0, 0)) hget
        have : M.set M1.length (g.b, .cells (cs ++ new.toArray ++ g.rest.extract new.length g.rest.size) e (0, 0)) = M1 ++ (glM (some ⟨g.b, g.cap, g.rest.extract new.length g.rest.size⟩) (cs ++ new.toArray) e ++ M2) := by
          rw [hM, List.set_append_right _ _ (Nat.le_refl _)]; simp [glM]
        rw [this] at hm
        exact hm
    · have holds : ∀ j v, cs.toList[j]? = some v → w.cell? ((⟨g.b, 0, none⟩ : Addr).add j) = some v := fun j v hj => by
        have hlt : j < cs.size := by simpa using (List.getElem?_eq_some_iff.1 hj).1
        rw [add0, cell_of (a := ⟨g.b, j, none⟩) hblk rfl]
        show (cs ++ g.rest)[j]? = some v
        rw [Array.getElem?_append_left hlt]; simpa using hj
      have hr := run_append_grow (P := P) w T o.type e inf z hT hinf q3 ⟨g.b, 0, none⟩ n1 g.cap cs.toList (by simpa [q1] using hcs) holds ad k c new hnl' hnew' (by omega) (by omega) (by rw [q2]; exact growslice_fits (by omega) hb)
      exact newcase (cs.toList.toArray ++ new.toArray) _ _ (by simp) (by simp) (grownCap_ge w (n1 + k) g.cap e) (hexec hr)
/-! what was grown becomes a fact -/
theorem Mem.shareG {w : World} {go : Option GB} {cs : Array Value} {e : Nat} (h : Mem X w0 D M F w) (hM : M = M1 ++ (glM go cs e ++ M2)) : Mem X w0 D (M1 ++ M2) ((fun w => ∀ m ∈ glM go cs e, fBlk m.1 m.2 w) :: F) w := by
  cases go with
  | none =>
    have : M = M1 ++ M2 := by rw [hM]; simp [glM]
    rw [← this]
    exact h.consF (G := [_]) (fun p hp => by simp only [List.mem_singleton] at hp; subst hp; exact fun w' _ m hm => by simp [glM] at hm)
  | some g =>
    have hget : M[M1.length]? = some (g.b, .cells (cs ++ g.rest) e (0, 0)) := by
      rw [hM, List.getElem?_append_right (Nat.le_refl _)]; simp [glM]
    have h1 := h.share hget
    have hd : dropN M M1.length = M1 ++ M2 := by
      rw [hM]
      clear hM hget h1 h
      induction M1 with
      | nil => simp [dropN, glM]
      | cons x r ih => simp only [List.cons_append, List.length_cons, dropN, ih]
    rw [hd] at h1
    refine ⟨h1.frm, h1.blk, h1.own, h1.nodup, h1.xs, fun p hp => ?_⟩
    rcases List.mem_cons.1 hp with rfl | hp
    · exact (h1.facts _ List.mem_cons_self).imp (fun w hw m hm => by simp only [glM, List.mem_singleton] at hm; subst hm; exact hw)
    · exact h1.facts p (List.mem_cons_of_mem _ hp)
theorem J.shareG {c : Code} {go : Option GB} {cs : Array Value} {e : Nat} (M1 M2 : List Blk) (hM : M = M1 ++ (glM go cs e ++ M2)) (q : Fact) (hq : ∀ w, (∀ m ∈ glM go cs e, fBlk m.1 m.2 w) → (∀ p ∈ F, p w) → q w) (k : J P n X w0 D c Q l (M1 ++ M2) (q :: F)) : J P n X w0 D c Q l M F :=
  fun a w hs => k a w ⟨hs.defers, hs.size, hs.tmps, by
    have h := hs.mem.shareG hM
    refine ⟨h.frm, h.blk, h.own, h.nodup, h.xs, fun p hp => ?_⟩
    rcases List.mem_cons.1 hp with rfl | hp
    · exact fun w' ho => hq w' (h.facts _ List.mem_cons_self w' ho) (fun p hp => h.facts p (List.mem_cons_of_mem _ hp) w' ho)
    · exact h.facts p (List.mem_cons_of_mem _ hp)⟩
theorem RN.shareG {k : Nat} {go : Option GB} {cs : Array Value} {e : Nat} (M1 M2 : List Blk) (hM : M = M1 ++ (glM go cs e ++ M2)) (q : Fact) (hq : ∀ w, (∀ m ∈ glM go cs e, fBlk m.1 m.2 w) → (∀ p ∈ F, p w) → q w) (r : RN P n X w0 D ops Q k l (M1 ++ M2) (q :: F)) : RN P n X w0 D ops Q k l M F :=
  fun a w hs => r a w ⟨hs.defers, hs.size, hs.tmps, by
    have h := hs.mem.shareG hM
    refine ⟨h.frm, h.blk, h.own, h.nodup, h.xs, fun p hp => ?_⟩
    rcases List.mem_cons.1 hp with rfl | hp
    · exact fun w' ho => hq w' (h.facts _ List.mem_cons_self w' ho) (fun p hp => h.facts p (List.mem_cons_of_mem _ hp) w' ho)
    · exact h.facts p (List.mem_cons_of_mem _ hp)⟩
theorem fU_gl {go : Option GB} {xs : List Nat} {e : Nat} {w : World} (h : ∀ m ∈ glM go (encU xs) e, fBlk m.1 m.2 w) (hok : gOk 1 go xs.length) (hl : xs.length ≤ 140737488355328) : fU (glS go) xs w := by
  cases go with
  | none => have : xs = [] := List.length_eq_zero_iff.1 hok; subst this; exact fU_nil w
  | some g => exact fU_blk (h (g.b, .cells (encU xs ++ g.rest) e (0, 0)) (by simp [glM])) hok.2 hl
/-- A round's end, what is known turned into what is to be shown. -/
theorem KN.roundE {ι : Type} {ψ : ι → Prop} {m : ι → Nat} {li : ι → Slots} {Mi : ι → List Blk} {Fi : ι → List Fact} {x : ι} (y : ι) (ts : List Nat) (is : List Nat) {l2 : Slots} (hm : m y < m x) (hψ : ψ y) (hl : prune l ts = l2) (hl2 : l2 = li y) (hM : M = Mi y) (hF : pick F is = Fi y) :
    KN n X w0 D (Exit.then (LoopQ n X w0 D ψ m li Mi Fi x) Q) l M F := KN.round y ts is hm hψ (hl.trans hl2) hM hF
theorem KN.also (q : Fact) (h : ∀ w, (∀ p ∈ F, p w) → q w) (k : KN n X w0 D Q l M (q :: F)) : KN n X w0 D Q l M F := fun a w hs => k a w ⟨hs.defers, hs.size, hs.tmps, hs.mem.also q h⟩
end
end Go.Proofs.YtegnonhgildhoaaGreat.E
