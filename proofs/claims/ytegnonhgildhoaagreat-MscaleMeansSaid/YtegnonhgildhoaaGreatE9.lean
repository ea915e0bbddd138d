/- Calls that turn blocks of their caller, and slices over a part of an own array. -/
import Derived.Test.YtegnonhgildhoaaGreatE8
namespace Go.Proofs.YtegnonhgildhoaaGreat.E
open Go Go.RowKit
set_option linter.unusedVariables false
set_option linter.unusedSimpArgs false
section
variable {P : Program} {ops : Array Oper} {n : Nat} {X : Nat → Prop} {w0 : World} {D : Nat → Prop} {l l' l1 : Slots} {M M' M1 M2 : List Blk} {F F' : List Fact} {Q : Exit → Act → World → Prop} {ds L L' : List Nat}
theorem keys_append {A B : List Blk} {k : Nat} : keys (A ++ B) k ↔ keys A k ∨ keys B k := by simp [keys]
theorem Mem.callM {w w' : World} {Min Mo : List Blk} {G : List Fact} (h : Mem X w0 D (M1 ++ (Min ++ M2)) F w) (hc : Mem (fun k => X k ∨ keys (M1 ++ M2) k) w (keys Min) Mo G w') : Mem X w0 D (M1 ++ (Mo ++ M2)) (G ++ F) w' := by
  have hlt : ∀ m ∈ M1 ++ (Min ++ M2), m.1 < w.heap.size := fun m hm => (Array.getElem?_eq_some_iff.1 (h.blk m hm)).1
  have hklt : ∀ {k}, keys (M1 ++ (Min ++ M2)) k → k < w.heap.size := fun hk => by
    obtain ⟨m, hm, rfl⟩ := List.mem_map.1 hk; exact hlt m hm
  have hkin : ∀ {k}, keys Min k → keys (M1 ++ (Min ++ M2)) k := fun hk => keys_append.2 (.inr (keys_append.2 (.inl hk)))
  have hown : ∀ {k}, keys Min k → D k ∨ w0.heap.size ≤ k := fun hk => by
    obtain ⟨m, hm, rfl⟩ := List.mem_map.1 (hkin hk); exact h.own m hm
  have hoff := hc.frm.off
  have hw0 : w0.heap.size ≤ w.heap.size := h.frm.off.1
  have hdis : ∀ m, m ∈ M1 ∨ m ∈ M2 → ¬ keys Min m.1 := fun m hm hk => (hc.xs m.1 (.inr (keys_append.2 (hm.imp (fun h => List.mem_map.2 ⟨m, h, rfl⟩) (fun h => List.mem_map.2 ⟨m, h, rfl⟩))))).2 hk
  have hmout : ∀ m ∈ Mo, keys Min m.1 ∨ w.heap.size ≤ m.1 := hc.own
  refine ⟨⟨hc.frm.os.trans h.frm.os, hc.frm.tape.trans h.frm.tape, hc.frm.output.trans h.frm.output, Nat.le_trans hw0 hoff.1, fun k hk hD => ?_⟩, ?_, ?_, ?_, h.xs, ?_⟩
  · rw [hoff.2 k (Nat.lt_of_lt_of_le hk hw0) (fun hm => (hown hm).elim hD (fun hle => by omega)), h.frm.off.2 k hk hD]
  · intro m hm
    have hside : m ∈ M1 ∨ m ∈ M2 → w'.heap[m.1]? = some m.2 := fun hs => by
      rw [hoff.2 m.1 (hlt m (by rcases hs with hs | hs <;> simp [hs])) (hdis m hs)]; exact h.blk m (by rcases hs with hs | hs <;> simp [hs])
    rcases List.mem_append.1 hm with hm | hm
    · exact hside (.inl hm)
    · rcases List.mem_append.1 hm with hm | hm
      · exact hc.blk m hm
      · exact hside (.inr hm)
  · intro m hm
    rcases List.mem_append.1 hm with hm | hm
    · exact h.own m (by simp [hm])
    · rcases List.mem_append.1 hm with hm | hm
      · exact (hmout m hm).elim hown (fun hle => .inr (Nat.le_trans hw0 hle))
      · exact h.own m (by simp [hm])
  · have hnd := h.nodup
    simp only [List.map_append, List.nodup_append] at hnd ⊢
    have hcn := hc.nodup
    refine ⟨hnd.1, ⟨hcn, hnd.2.1.2.1, ?_⟩, ?_⟩
    · intro a ha b hb e
      subst e
      obtain ⟨m, hm, rfl⟩ := List.mem_map.1 ha
      obtain ⟨m', hm', he⟩ := List.mem_map.1 hb
      rcases hmout m hm with hk | hk
      · exact hdis m' (.inr hm') (he ▸ hk)
      · have := hlt m' (by simp [hm']); omega
    · intro a ha b hb e
      subst e
      rcases List.mem_append.1 hb with hb | hb
      · obtain ⟨m, hm, rfl⟩ := List.mem_map.1 hb
        obtain ⟨m', hm', he⟩ := List.mem_map.1 ha
        rcases hmout m hm with hk | hk
        · exact hdis m' (.inl hm') (he ▸ hk)
        · have := hlt m' (by simp [hm']); omega
      · exact hnd.2.2 a ha a (List.mem_append_right _ hb) rfl
  · intro p hp
    have hset : ∀ k, X k ∨ keys (M1 ++ (Mo ++ M2)) k → (X k ∨ keys (M1 ++ (Min ++ M2)) k) ∨ w.heap.size ≤ k := fun k hk => by
      rcases hk with hk | hk
      · exact .inl (.inl hk)
      · rcases keys_append.1 hk with hk | hk
        · exact .inl (.inr (keys_append.2 (.inl hk)))
        · rcases keys_append.1 hk with hk | hk
          · obtain ⟨m, hm, rfl⟩ := List.mem_map.1 hk
            exact (hmout m hm).imp (fun h => .inr (hkin h)) id
          · exact .inl (.inr (keys_append.2 (.inr (keys_append.2 (.inr hk)))))
    rcases List.mem_append.1 hp with hp | hp
    · exact (hc.facts p hp).step (Off.refl _ w') (fun k hk => .inl (by
        rcases hk with hk | hk
        · exact .inl (.inl hk)
        · rcases keys_append.1 hk with hk | hk
          · exact .inl (.inr (keys_append.2 (.inl hk)))
          · rcases keys_append.1 hk with hk | hk
            · exact .inr hk
            · exact .inl (.inr (keys_append.2 (.inr hk)))))
    · exact (h.facts p hp).step (hoff.mono (fun k hk => .inr (hkin hk))) hset
theorem OT.callM {f : FuncId} {args : Array Value} {Min : List Blk} {Fin : List Fact} {ι : Type} {val : ι → Value} {φ : ι → Prop} {Mout : ι → List Blk} {Fout : ι → List Fact} (spec : SpecM P f args Min Fin val φ Mout Fout) (M1 M2 : List Blk) (is : List Nat) {o : Oper}
    (hc : (knownOp l o.op && dstOk n o.dst) = true ∧ callOf l o.op = some (f, args)) (hM : M = M1 ++ (Min ++ M2)) (hF : pick F is = Fin) :
    OT P n X w0 D o Q l M F φ (fun x => putL o.dst (val x) l) (fun x => M1 ++ (Mout x ++ M2)) (fun x => Fout x ++ F) := by
  subst hM
  intro a w hs K hK
  obtain ⟨hkd, hc⟩ := hc
  rw [Bool.and_eq_true] at hkd
  unfold Oper.wp
  rw [hs.exec hkd.1, callOf_run hc w (spec.enters w), Oper.upon_enter]
  have hnd := hs.mem.nodup
  simp only [List.map_append, List.nodup_append] at hnd
  have hx : ∀ k, (X k ∨ keys (M1 ++ M2) k) → k < w.heap.size ∧ ¬ keys Min k := by
    rintro k (hk | hk)
    · refine ⟨Nat.lt_of_lt_of_le (hs.mem.xs k hk).1 hs.mem.frm.off.1, fun hm => ?_⟩
      obtain ⟨m, hm', rfl⟩ := List.mem_map.1 hm
      exact (hs.mem.own m (by simp [hm'])).elim (hs.mem.xs _ hk).2 (fun hle => by have := (hs.mem.xs _ hk).1; omega)
    · refine ⟨?_, fun hm => ?_⟩
      · obtain ⟨m, hm, rfl⟩ := List.mem_map.1 hk
        exact (Array.getElem?_eq_some_iff.1 (hs.mem.blk m (by rcases List.mem_append.1 hm with h | h <;> simp [h]))).1
      · rcases keys_append.1 hk with hk | hk
        · exact hnd.2.2 k hk k (List.mem_append_left _ hm) rfl
        · exact hnd.2.1.2.2 k hm k hk rfl
  refine (spec.calls (fun k => X k ∨ keys (M1 ++ M2) k) w hx (fun m hm => hs.mem.blk m (by simp [hm])) hnd.2.1.1 ?_).mono ?_
  · intro p hp
    refine (pick_rob hs.mem.facts is p (hF ▸ hp)).step (Off.refl _ w) (fun k hk => .inl ?_)
    rcases hk with (hk | hk) | hk
    · exact .inl hk
    · rcases keys_append.1 hk with hk | hk
      · exact .inr (keys_append.2 (.inl hk))
      · exact .inr (keys_append.2 (.inr (keys_append.2 (.inr hk))))
    · exact .inr (keys_append.2 (.inr (keys_append.2 (.inl hk))))
  · rintro e w' ⟨x, rfl, hφ, hm⟩
    exact hK x _ w' hφ (hs.put hkd.2 _ (hs.mem.callM hm))
theorem RN.callM {k : Nat} {f : FuncId} {args : Array Value} {Min : List Blk} {Fin : List Fact} {ι : Type} {val : ι → Value} {φ : ι → Prop} {Mout : ι → List Blk} {Fout : ι → List Fact} (spec : SpecM P f args Min Fin val φ Mout Fout) (M1 M2 : List Blk) (is : List Nat)
    (hk : (Nat.blt k ops.size && knownOp l (opOf ops k).op && dstOk n (opOf ops k).dst) = true) (hw : wantedL ops l (opOf ops k) = some true) (hc : callOf l (opOf ops k).op = some (f, args)) (hM : M = M1 ++ (Min ++ M2)) (hF : pick F is = Fin)
    (r : ∀ x, φ x → RN P n X w0 D ops Q (k + 1) (putL (opOf ops k).dst (val x) l) (M1 ++ (Mout x ++ M2)) (Fout x ++ F)) : RN P n X w0 D ops Q k l M F := by
  simp only [Bool.and_eq_true] at hk
  exact RN.op hk.1.1 hw (OT.callM spec M1 M2 is ⟨by simp [hk.1.2, hk.2], hc⟩ hM hF) r
/-- An element of a part of an own array. -/
theorem q_oidxo {i t e m b o : Nat} {x ix : Operand} {n c : Nat} {K : IntKind} {i0 : Int} (hop : (opOf ops i).op = .indexAddr t x ix) (hx : rho l x = .slice (some ⟨b, o, none⟩) n c) (hix : rho l ix = .int K i0)
    (ht : P.underlying t = some (.slice e)) (hs : (P.info? e).map (·.size) = some 1) (hi : i0 = (m : Nat)) (hm : m < n) :
    ∀ w, Now M F w → (execOp (rho l) (opOf ops i)).run P w = .ok (.value (.pointer (some ⟨b, (o + m) * 1, none⟩))) w := by
  intro w hw
  rw [q_idx (M := M) (F := F) ⟨b, o, none⟩ hop hx hix ht hs hi hm (fun _ _ => rfl) w hw, Nat.mul_one, Nat.mul_one]
  unfold Addr.add
  by_cases h : m = 0
  · subst h; simp
  · simp [h]
/-- A part of an own array. -/
theorem q_oslice {i t e lo hi b n c : Nat} {x : Operand} {low high : Option Operand} (n' : Nat) (hop : (opOf ops i).op = .slice t x low high none) (hx : rho l x = .slice (some ⟨b, 0, none⟩) n c) (hlo : bndIs l low 0 lo) (hhi : bndIs l high n hi)
    (ht : P.underlying t = some (.slice e)) (hs : (P.info? e).map (·.size) = some 1) (h1 : lo ≤ hi) (h2 : hi ≤ c) (h3 : lo < c) (hn : hi - lo = n') :
    ∀ w, Now M F w → (execOp (rho l) (opOf ops i)).run P w = .ok (.value (.slice (some ⟨b, lo, none⟩) n' (c - lo))) w := by
  intro w hw
  have := q_slice (M := M) (F := F) hop hx hlo hhi ht hs h1 (fun w hw => h2) w hw
  rw [this, if_neg (by omega), hn]
  show Result.ok (Next.value (.slice (some ((⟨b, 0, none⟩ : Addr).add (lo * 1))  ) n' (c - lo))) w = _
  rw [add0, Nat.mul_one]
end
end Go.Proofs.YtegnonhgildhoaaGreat.E
