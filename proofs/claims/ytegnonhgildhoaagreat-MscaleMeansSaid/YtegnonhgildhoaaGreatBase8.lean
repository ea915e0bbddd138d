import Derived.Test.YtegnonhgildhoaaGreatBase7
import Derived.Test.YtegnonhgildhoaaGreatEB
import Derived.Test.YtegnonhgildhoaaGreatN9
namespace Go.Proofs.YtegnonhgildhoaaGreat.E
open Go Go.RowKit
set_option linter.unusedVariables false
set_option linter.unusedSimpArgs false
theorem toL_eq1 {n : Nat} : toL n = [1] ↔ n = 1 := ⟨fun h => by have := congrArg lv h; rw [lv_toL] at this; simpa [lv] using this, fun h => by rw [h, toL_1]⟩
theorem one_val {xs : List Nat} (h1 : xs.length = 1) : (xs = [1]) ↔ ((xs.getD 0 0 : Nat) : Int) = 1 := by
  match xs, h1 with
  | [a], _ => simp; omega
theorem encZ_one : encZ 1 = ⟨false, [1]⟩ := by
  show (⟨decide ((1 : Int) < 0), toL 1⟩ : RawI) = _
  rw [toL_1]; rfl
theorem r03_one (s : SA) (xs : List Nat) : Spec Tryz.prog 104 #[sl s xs.length] [fU s xs] (ι := Unit) (fun y => .bool (decide (xs = [1]))) (fun y => True) (fun y => []) := by
  refine Spec.of_body _ (fn := Tryz.f104) k_ rfl k_ (fun X w0 => ?_)
  refine J.fact (φ := xs.length ≤ 140737488355328) (fun w h => by have := (h _ (.head _)).1; omega) (fun hl1 => ?_)
  refine J.sreg ?_
  refine RN.bq (no 1) [0] [] (k' := 1) (l' := [(0, sl s xs.length)]) k_ ?_
  refine RN.fin k_ ?_
  refine J.sreg ?_
  refine RN.bq (no 4) [0, 6] [] (k' := 4) (l' := [(0, sl s xs.length), (6, .bool ((((xs.length : Nat) : Int) : Int) == 1))]) k_ ?_
  refine RN.split 6 ((((xs.length : Nat) : Int) : Int) == 1) k_ (fun c2 => ?_) (fun c2 => ?_)
  · skip
    replace c2 := eq_of_beq c2
    refine RN.bq (no 1) [6, 7] [] (k' := 5) (l' := [(6, .bool true), (7, sl s xs.length)]) k_ ?_
    refine RN.val _ k_ k_ (q_uidx (t := 23) (x := (.tmp 7)) (ix := (.const (.int .i64 0))) (K := .i64) (i0 := 0) (m := 0) (e := 82) 0 rfl k_ k_ k_ k_ k_ (by omega) x_) ?_
    refine RN.val _ k_ k_ (q_uload (T := 82) (x := (.tmp 8)) (m := 0) (s := s) (xs := xs) 0 rfl k_ k_ k_ x_) ?_
    refine RN.bq (no 3) [2] [] (k' := 10) (l' := [(2, .bool ((((xs.getD 0 0 : Nat) : Int) : Int) == 1))]) k_ ?_
    refine RN.fin k_ ?_
    have e_1 : (decide (xs = [1])) = ((((xs.getD 0 0 : Nat) : Int) : Int) == 1) := by first | (have h1 : xs.length = 1 := (by omega)); (rw [Bool.eq_iff_iff]; simp [one_val h1]) | (exact decide_eq_false (fun h => by subst h; simp at *))
    refine J.ret (KR.ret (v := .bool ((((xs.getD 0 0 : Nat) : Int) : Int) == 1)) (()) [none] [] [] k_ v1_ (trivial) v1_)
  · skip
    replace c2 := ne_of_beq_false c2
    refine RN.bq (no 6) [2] [] (k' := 10) (l' := [(2, .bool false)]) k_ ?_
    refine RN.fin k_ ?_
    have e_1 : (decide (xs = [1])) = false := by first | (have h1 : xs.length = 1 := (by omega)); (rw [Bool.eq_iff_iff]; simp [one_val h1]) | (exact decide_eq_false (fun h => by subst h; simp at *))
    refine J.ret (KR.ret (v := .bool false) (()) [none] [] [] k_ v1_ (trivial) v1_)
theorem y_r03_Den {p : Prop} (h : p := by first | assumption | exact Lb_toL _ | omega | (simp; done) | first | exact Lb_toD _ | exact hl) : p := h
theorem r03_Den (p : RA) (q : Rat) (hq : Q 1099511627776 q) : Spec Tryz.prog 71 #[ratV p (encQ q)] [fRat p (encQ q)] (ι := SA) (fun y => intV y (encZ ((q.den : Nat) : Int))) (fun y => True) (fun y => [fU y (toL (q.den))]) := by
  refine Spec.of_body _ (fn := Tryz.f71) k_ rfl k_ (fun X w0 => ?_)
  refine J.fact (φ := (encQ q).mag.length ≤ 140737488355328 ∧ (encQ q).den.length ≤ 140737488355328) (fun w h => by have h1 := (h _ (.head _)).1.1; have h2 := (h _ (.head _)).2.1; omega) (fun hl1 => ?_)
  have hl := Nat.le_trans (toD_le q.den) hq.2
  refine J.sreg ?_
  refine RN.new (fun b => pt b) (.cells (ratC p (encQ q)) 27 (0, 0)) k_ k_ (fun w => by kernel_rfl) (fun b2 => ?_)
  refine RN.new (fun b => pt b) (.cells #[.bool false, sl saNil ([] : List Nat).length] 25 (0, 0)) k_ k_ (fun w => by kernel_rfl) (fun b3 => ?_)
  refine RN.fin k_ ?_
  refine J.seq ?_
  refine J.sreg ?_
  refine RN.bq [none, some 1, none, none] [1, 2, 6] [b2] (k' := 4) (l' := [(1, pt b2), (2, pt b3), (6, .bool (((((toD (q.den)).length : Nat) : Int) : Int) == 0))]) k_ ?_
  refine RN.fin k_ ?_
  refine J.cond (((((toD (q.den)).length : Nat) : Int) : Int) == 0) k_ (fun c4 => ?_) (fun c4 => ?_)
  · skip
    replace c4 := eq_of_beq c4
    refine J.sreg ?_
    refine RN.new (fun b => .slice (some ⟨b, 0, none⟩) 1 1) (.cells (encU ([1] : List Nat)) 82 (0, 0)) k_ k_ (fun w => by kernel_rfl) (fun b5 => ?_)
    refine RN.share 0 rfl rfl ?_
    refine RN.also (fU (⟨some ⟨b5, 0, none⟩, 1⟩ : SA) ([1] : List Nat)) (fun w h => fU_own (h _ (.head _)) x_ x_) ?_
    refine RN.turn 7 (v := .slice (some ⟨b5, 0, none⟩) 1 1) (v' := sl (⟨some ⟨b5, 0, none⟩, 1⟩ : SA) ([1] : List Nat).length) k_ (sl_eq x_) ?_
    refine RN.bat [none, some 0] [2] [b3, b3] (k' := 3) (l' := [(2, pt b3)]) (M' := [(b3, .cells #[.bool false, sl (⟨some ⟨b5, 0, none⟩, 1⟩ : SA) ([1] : List Nat).length] 25 (0, 0)), (b2, .cells (ratC p (encQ q)) 27 (0, 0))]) k_ ?_
    refine RN.fin k_ ?_
    have e_1 : (encZ ((q.den : Nat) : Int)) = (⟨false, ([1] : List Nat)⟩ : RawI) := by first | (rw [(toD_len q.den_nz).1 (by omega), show ((1 : Nat) : Int) = 1 from rfl]; exact encZ_one) | exact (toD_len q.den_nz).1 (by omega)
    have e_2 : (toL (q.den)) = ([1] : List Nat) := congrArg RawI.mag e_1
    refine J.ret (KR.next (KR.ret (v := intV (⟨some ⟨b5, 0, none⟩, 1⟩ : SA) (⟨false, ([1] : List Nat)⟩ : RawI)) ((⟨some ⟨b5, 0, none⟩, 1⟩ : SA)) [some 0] [0] [b3, b3] k_ (by first | rfl | (rw [e_1]; done) | (simp only [e_1]; done) | (rw [e_2]; done) | (rw [e_1, e_2]; rfl) | (simp only [e_1, e_2]; done) | (simp only [e_1, e_2]; rfl)) (trivial) (by first | rfl | (rw [e_1]; done) | (simp only [e_1]; done) | (rw [e_2]; done) | (rw [e_1, e_2]; rfl) | (simp only [e_1, e_2]; done) | (simp only [e_1, e_2]; rfl))))
  · skip
    replace c4 := ne_of_beq_false c4
    refine J.skip ?_
    refine KN.next ?_
    refine J.sreg ?_
    refine RN.bq [none, some 1] [2, 10] [b2] (k' := 2) (l' := [(2, pt b3), (10, sl (p.den) (toD (q.den)).length)]) k_ ?_
    refine RN.also (fU (p.den) (toD (q.den))) (fun w h => (h _ (.head _)).2) ?_
    refine RN.call (r01_Take (p.den) (toD (q.den)) y_r03_Den y_r03_Den) [0] k_ k_ k_ rfl (fun y6 _ => ?_)
    refine RN.bat [none, some 0] [2] [b3, b3] (k' := 5) (l' := [(2, pt b3)]) (M' := [(b3, .cells #[.bool false, sl y6 (toL (nv (toD (q.den)))).length] 25 (0, 0)), (b2, .cells (ratC p (encQ q)) 27 (0, 0))]) k_ ?_
    refine RN.fin k_ ?_
    have e_1 : (q.den) = (nv (toD (q.den))) := by rw [toD_ne (fun h => by have := (toD_len q.den_nz).2 h; omega), nv_toL]
    refine J.ret (KR.ret (v := intV y6 (encZ ((nv (toD (q.den)) : Nat) : Int))) (y6) [some 0] [0] [b3, b3] k_ v1_ (trivial) v1_)
theorem validQ_parts {r : Raw} (h : validQ r = true) : validZ ⟨r.neg, r.mag⟩ = true ∧ validU r.den = true := by
  unfold validQ at h; simp only [Bool.and_eq_true] at h; exact h.1
theorem encQ_take {r : Raw} (h1 : Lb r.mag) (h2 : Lb r.den) (h : validQ r = true) : encQ (qv r) = ⟨decide (zv ⟨r.neg, r.mag⟩ < 0), toL (zv ⟨r.neg, r.mag⟩).natAbs, toL (nv r.den)⟩ := by
  obtain ⟨hz, hd⟩ := validQ_parts h
  have e := encZ_zv (z := ⟨r.neg, r.mag⟩) h1 hz
  have e1 : decide (zv ⟨r.neg, r.mag⟩ < 0) = r.neg := congrArg RawI.neg e
  have e2 : toL (zv ⟨r.neg, r.mag⟩).natAbs = r.mag := congrArg RawI.mag e
  rw [encQ_qv h1 h2 h, e1, e2, nv_of_valid hd, toL_lv h2 hd]
theorem r03_Valid (p : RA) (r : Raw) (hm : Lb r.mag) (hd : Lb r.den) (hml : r.mag.length ≤ 274877906942) (hdl : r.den.length ≤ 274877906942) : Spec Tryz.prog 98 #[ratV p r] [fRat p r] (ι := Unit) (fun y => .bool (validQ r)) (fun y => True) (fun y => []) := by
  refine Spec.of_body _ (fn := Tryz.f98) k_ rfl k_ (fun X w0 => ?_)
  refine J.fact (φ := r.mag.length ≤ 140737488355328 ∧ r.den.length ≤ 140737488355328) (fun w h => by have h1 := (h _ (.head _)).1.1; have h2 := (h _ (.head _)).2.1; omega) (fun hl1 => ?_)
  refine J.sreg ?_
  refine RN.new (fun b => pt b) (.cells (ratC p r) 27 (0, 0)) k_ k_ (fun w => by kernel_rfl) (fun b2 => ?_)
  refine RN.bq (no 1) [1] [] (k' := 2) (l' := [(1, pt b2)]) k_ ?_
  refine RN.fin k_ ?_
  refine J.seq ?_
  refine J.sreg ?_
  refine RN.bq [none, some 0] [1, 4] [b2, b2] (k' := 2) (l' := [(1, pt b2), (4, intV p.mag (⟨r.neg, r.mag⟩ : RawI))]) k_ ?_
  refine RN.also (fU p.mag r.mag) (fun w h => (h _ (.head _)).1) ?_
  refine RN.call (r02_Valid p.mag ⟨r.neg, r.mag⟩) [0] k_ k_ k_ rfl (fun y3 _ => ?_)
  refine RN.bq (no 2) [1, 7] [] (k' := 5) (l' := [(1, pt b2), (7, .bool (!(validZ (⟨r.neg, r.mag⟩ : RawI))))]) k_ ?_
  refine RN.split 7 (!(validZ (⟨r.neg, r.mag⟩ : RawI))) k_ (fun c4 => ?_) (fun c4 => ?_)
  · skip
    refine RN.bq (no 10) [1, 17] [] (k' := 15) (l' := [(1, pt b2), (17, .bool true)]) k_ ?_
    refine RN.fin k_ ?_
    refine J.condT k_ ?_
    refine J.sreg ?_
    refine RN.bq (no 1) [2] [] (k' := 1) (l' := [(2, .bool false)]) k_ ?_
    refine RN.fin k_ ?_
    have e_1 : (validQ r) = false := by first | (simp_all [validQ, toL_eq1, nv_of_valid, lv]; done) | ((have hv := validZ_mag (z := ⟨r.neg, r.mag⟩) (by simpa using c4)); (have hd1 : lv r.den = 1 → r.den = [1] := (fun h => (by rw [← toL_lv hd (by simpa using c6), h, toL_1]))); simp_all [validQ, toL_eq1, nv_of_valid, lv]; intro _ h; simp [h] at c10)
    refine J.ret (KR.next (KR.ret (v := .bool false) (()) [none] [] [] k_ v1_ (trivial) v1_))
  · skip
    refine RN.bq [none, some 0] [1, 7, 9] [b2] (k' := 7) (l' := [(1, pt b2), (7, .bool false), (9, sl (p.den) (r.den).length)]) k_ ?_
    refine RN.also (fU (p.den) (r.den)) (fun w h => (h _ (.tail _ ((.head _)))).2) ?_
    refine RN.call (r01_Valid (p.den) (r.den)) [0] k_ k_ k_ rfl (fun y5 _ => ?_)
    refine RN.bq (no 3) [1, 13] [] (k' := 11) (l' := [(1, pt b2), (13, .bool (!(validU (r.den))))]) k_ ?_
    refine RN.split 13 (!(validU (r.den))) k_ (fun c6 => ?_) (fun c6 => ?_)
    · skip
      refine RN.bq (no 4) [1, 17] [] (k' := 15) (l' := [(1, pt b2), (17, .bool true)]) k_ ?_
      refine RN.fin k_ ?_
      refine J.condT k_ ?_
      refine J.sreg ?_
      refine RN.bq (no 1) [2] [] (k' := 1) (l' := [(2, .bool false)]) k_ ?_
      refine RN.fin k_ ?_
      have e_1 : (validQ r) = false := by first | (simp_all [validQ, toL_eq1, nv_of_valid, lv]; done) | ((have hv := validZ_mag (z := ⟨r.neg, r.mag⟩) (by simpa using c4)); (have hd1 : lv r.den = 1 → r.den = [1] := (fun h => (by rw [← toL_lv hd (by simpa using c6), h, toL_1]))); simp_all [validQ, toL_eq1, nv_of_valid, lv]; intro _ h; simp [h] at c10)
      refine J.ret (KR.next (KR.ret (v := .bool false) (()) [none] [] [] k_ v1_ (trivial) v1_))
    · skip
      refine RN.bq [none, some 0] [1, 13, 15] [b2] (k' := 13) (l' := [(1, pt b2), (13, .bool false), (15, sl (p.den) (r.den).length)]) k_ ?_
      refine RN.call (r03_one (p.den) (r.den)) [0] k_ k_ k_ rfl (fun y7 _ => ?_)
      refine RN.bq (no 1) [1, 17] [] (k' := 15) (l' := [(1, pt b2), (17, .bool (decide ((r.den) = [1])))]) k_ ?_
      refine RN.fin k_ ?_
      refine J.cond (decide ((r.den) = [1])) k_ (fun c8 => ?_) (fun c8 => ?_)
      · skip
        replace c8 := of_decide_eq_true c8
        refine J.sreg ?_
        refine RN.bq (no 1) [2] [] (k' := 1) (l' := [(2, .bool false)]) k_ ?_
        refine RN.fin k_ ?_
        have e_1 : (validQ r) = false := by first | (simp_all [validQ, toL_eq1, nv_of_valid, lv]; done) | ((have hv := validZ_mag (z := ⟨r.neg, r.mag⟩) (by simpa using c4)); (have hd1 : lv r.den = 1 → r.den = [1] := (fun h => (by rw [← toL_lv hd (by simpa using c6), h, toL_1]))); simp_all [validQ, toL_eq1, nv_of_valid, lv]; intro _ h; simp [h] at c10)
        refine J.ret (KR.next (KR.ret (v := .bool false) (()) [none] [] [] k_ v1_ (trivial) v1_))
      · skip
        replace c8 := of_decide_eq_false c8
        refine J.skip ?_
        refine KN.next ?_
        refine J.sreg ?_
        refine RN.bq [none, some 0, none, none, none] [1, 22] [b2] (k' := 5) (l' := [(1, pt b2), (22, .bool (((((r.den).length : Nat) : Int) : Int) == 0))]) k_ ?_
        refine RN.split 22 (((((r.den).length : Nat) : Int) : Int) == 0) k_ (fun c9 => ?_) (fun c9 => ?_)
        · skip
          replace c9 := eq_of_beq c9
          refine RN.bq (no 16) [2] [] (k' := 21) (l' := [(2, .bool true)]) k_ ?_
          refine RN.fin k_ ?_
          have e_1 : (validQ r) = true := by first | (simp_all [validQ, toL_eq1, nv_of_valid, lv]; done) | ((have hv := validZ_mag (z := ⟨r.neg, r.mag⟩) (by simpa using c4)); (have hd1 : lv r.den = 1 → r.den = [1] := (fun h => (by rw [← toL_lv hd (by simpa using c6), h, toL_1]))); simp_all [validQ, toL_eq1, nv_of_valid, lv]; intro _ h; simp [h] at c10)
          refine J.ret (KR.ret (v := .bool true) (()) [none] [] [] k_ v1_ (trivial) v1_)
        · skip
          replace c9 := ne_of_beq_false c9
          refine RN.bq [none, none, some 0, none, none, none] [1, 22, 28] [b2] (k' := 11) (l' := [(1, pt b2), (22, .bool false), (28, .bool (decide (((r.mag.length : Nat) : Int) > 0)))]) k_ ?_
          refine RN.split 28 (decide (((r.mag.length : Nat) : Int) > 0)) k_ (fun c10 => ?_) (fun c10 => ?_)
          · skip
            replace c10 := of_decide_eq_true c10
            refine RN.bq [none, none, some 0, none, some 0] [22, 28, 31, 33] [b2, b2] (k' := 16) (l' := [(22, .bool false), (28, .bool true), (31, sl p.mag r.mag.length), (33, sl (p.den) (r.den).length)]) k_ ?_
            refine RN.call (r01_Gcd p.mag r.mag (p.den) (r.den) y_ y_ y_ y_) [1, 0] k_ k_ k_ rfl (fun y11 _ => ?_)
            refine RN.call (r03_one y11 (toL (Nat.gcd (nv r.mag) (nv (r.den))))) [0] k_ k_ k_ rfl (fun y12 _ => ?_)
            refine RN.bq (no 3) [2] [] (k' := 21) (l' := [(2, .bool (decide ((toL (Nat.gcd (nv r.mag) (nv (r.den)))) = [1])))]) k_ ?_
            refine RN.fin k_ ?_
            have e_1 : (validQ r) = (decide ((toL (Nat.gcd (nv r.mag) (nv (r.den)))) = [1])) := by first | (simp_all [validQ, toL_eq1, nv_of_valid, lv]; done) | ((have hv := validZ_mag (z := ⟨r.neg, r.mag⟩) (by simpa using c4)); (have hd1 : lv r.den = 1 → r.den = [1] := (fun h => (by rw [← toL_lv hd (by simpa using c6), h, toL_1]))); simp_all [validQ, toL_eq1, nv_of_valid, lv]; intro _ h; simp [h] at c10)
            refine J.ret (KR.ret (v := .bool (decide ((toL (Nat.gcd (nv r.mag) (nv (r.den)))) = [1]))) (()) [none] [] [] k_ v1_ (trivial) v1_)
          · skip
            replace c10 := of_decide_eq_false c10
            refine RN.bq (no 10) [2] [] (k' := 21) (l' := [(2, .bool false)]) k_ ?_
            refine RN.fin k_ ?_
            have e_1 : (validQ r) = false := by first | (simp_all [validQ, toL_eq1, nv_of_valid, lv]; done) | ((have hv := validZ_mag (z := ⟨r.neg, r.mag⟩) (by simpa using c4)); (have hd1 : lv r.den = 1 → r.den = [1] := (fun h => (by rw [← toL_lv hd (by simpa using c6), h, toL_1]))); simp_all [validQ, toL_eq1, nv_of_valid, lv]; intro _ h; simp [h] at c10)
            refine J.ret (KR.ret (v := .bool false) (()) [none] [] [] k_ v1_ (trivial) v1_)
theorem r03_Take (p : RA) (r : Raw) (hr : RQ 268435456 r) : Spec Tryz.prog 67 #[ratV p r] [fRat p r] (ι := RA) (fun y => ratV y (encQ (qv r))) (fun y => True) (fun y => [fRat y (encQ (qv r))]) := by
  refine Spec.of_body _ (fn := Tryz.f67) k_ rfl k_ (fun X w0 => ?_)
  refine J.fact (φ := r.mag.length ≤ 140737488355328 ∧ r.den.length ≤ 140737488355328) (fun w h => by have h1 := (h _ (.head _)).1.1; have h2 := (h _ (.head _)).2.1; omega) (fun hl1 => ?_)
  obtain ⟨hm, hd, hml, hdl, hq⟩ := hr
  refine J.sreg ?_
  refine RN.new (fun b => pt b) (.cells (ratC p r) 27 (0, 0)) k_ k_ (fun w => by kernel_rfl) (fun b2 => ?_)
  refine RN.new (fun b => pt b) (.cells (ratC (⟨saNil, saNil⟩ : RA) (⟨false, ([] : List Nat), ([] : List Nat)⟩ : Raw)) 27 (0, 0)) k_ k_ (fun w => by kernel_rfl) (fun b3 => ?_)
  refine RN.fin k_ ?_
  refine J.seq ?_
  refine J.sreg ?_
  refine RN.bq [some 1] [1, 2, 3] [b2, b2, b2] (k' := 1) (l' := [(1, pt b2), (2, pt b3), (3, ratV p r)]) k_ ?_
  refine RN.call (r03_Valid p r y_ y_ y_ y_) [0] k_ k_ k_ rfl (fun y4 _ => ?_)
  refine RN.bq (no 1) [1, 2, 5] [] (k' := 3) (l' := [(1, pt b2), (2, pt b3), (5, .bool (!(validQ r)))]) k_ ?_
  refine RN.fin k_ ?_
  refine J.cond (!(validQ r)) k_ (fun c5 => ?_) (fun c5 => ?_)
  · skip
    refine J.sreg ?_
    refine RN.bat [none, some 0] [2] [b3, b3, b3] (k' := 2) (l' := [(2, pt b3)]) (M' := [(b3, .cells (ratC (⟨saNil, saNil⟩ : RA) (⟨false, ([] : List Nat), ([] : List Nat)⟩ : Raw)) 27 (0, 0)), (b2, .cells (ratC p r) 27 (0, 0))]) k_ ?_
    refine RN.fin k_ ?_
    have e_1 : (encQ (qv r)) = (⟨false, ([] : List Nat), ([] : List Nat)⟩ : Raw) := by exact encQ_qv_f (by simpa using ‹(!validQ r) = true›)
    have e_2 : (toL (((qv r).num).natAbs)) = ([] : List Nat) := congrArg Raw.mag e_1
    have e_3 : (toD ((qv r).den)) = ([] : List Nat) := congrArg Raw.den e_1
    refine J.also (fRat (⟨saNil, saNil⟩ : RA) (⟨false, ([] : List Nat), ([] : List Nat)⟩ : Raw)) (fun w h => ⟨fU_nil w, fU_nil w⟩) ?_
    refine J.ret (KR.next (KR.ret (v := ratV (⟨saNil, saNil⟩ : RA) (⟨false, ([] : List Nat), ([] : List Nat)⟩ : Raw)) (⟨saNil, saNil⟩) [some 0] [0] [b3, b3, b3] k_ (by first | rfl | (rw [e_1]; done) | (simp only [e_1]; done) | (rw [e_2, e_3]; done) | (rw [e_1, e_2, e_3]; rfl) | (simp only [e_1, e_2, e_3]; done) | (simp only [e_1, e_2, e_3]; rfl)) (trivial) (by first | rfl | (rw [e_1]; done) | (simp only [e_1]; done) | (rw [e_2, e_3]; done) | (rw [e_1, e_2, e_3]; rfl) | (simp only [e_1, e_2, e_3]; done) | (simp only [e_1, e_2, e_3]; rfl))))
  · skip
    refine J.skip ?_
    refine KN.next ?_
    refine J.seq ?_
    refine J.regD k_ [7] ?_
    refine RD.bat k_ [(0, none), (1, some 1), (3, none), (4, some 1)] [2, 8, 11] [b2, b2, b2] (L' := [4, 3, 1, 0]) (l' := [(2, pt b3), (8, intV p.mag (⟨r.neg, r.mag⟩ : RawI)), (11, sl (p.den) (r.den).length)]) k_ ?_
    refine RD.also (fU p.mag r.mag) (fun w h => (h _ (.head _)).1) k_ ?_
    refine RD.call (i := 2) (r02_Take p.mag ⟨r.neg, r.mag⟩ y_ y_) [0] k_ k_ k_ k_ k_ rfl (fun y6 _ => ?_)
    refine RD.also (fU (p.den) (r.den)) (fun w h => (h _ (.tail _ ((.tail _ ((.head _)))))).2) k_ ?_
    refine RD.call (i := 5) (r01_Take (p.den) (r.den) y_ y_) [0] k_ k_ k_ k_ k_ rfl (fun y7 _ => ?_)
    refine RD.bat k_ [(6, none)] [2, 13] [] (L' := [6, 5, 2, 4, 3, 1, 0]) (l' := [(2, pt b3), (13, ratV (⟨y6, y7⟩ : RA) (⟨decide ((zv (⟨r.neg, r.mag⟩ : RawI)) < 0), toL ((zv (⟨r.neg, r.mag⟩ : RawI)).natAbs), toL (nv (r.den))⟩ : Raw))]) k_ ?_
    refine RD.last (i := 7) (some 0) [2] [b3, b3, b3] k_ k_ k_ (l' := [(2, pt b3)]) (M' := [(b3, .cells (ratC (⟨y6, y7⟩ : RA) (⟨decide ((zv (⟨r.neg, r.mag⟩ : RawI)) < 0), toL ((zv (⟨r.neg, r.mag⟩ : RawI)).natAbs), toL (nv (r.den))⟩ : Raw)) 27 (0, 0)), (b2, .cells (ratC p r) 27 (0, 0))]) k_ ?_
    refine RD.done k_ ?_
    refine KN.next ?_
    have e_1 : (encQ (qv r)) = (⟨decide ((zv (⟨r.neg, r.mag⟩ : RawI)) < 0), toL ((zv (⟨r.neg, r.mag⟩ : RawI)).natAbs), toL (nv (r.den))⟩ : Raw) := by exact encQ_take hm hd (by simpa using ‹(!validQ r) = false›)
    have e_2 : (toL (((qv r).num).natAbs)) = (toL ((zv (⟨r.neg, r.mag⟩ : RawI)).natAbs)) := congrArg Raw.mag e_1
    have e_3 : (toD ((qv r).den)) = (toL (nv (r.den))) := congrArg Raw.den e_1
    refine J.also (fRat (⟨y6, y7⟩ : RA) (⟨decide ((zv (⟨r.neg, r.mag⟩ : RawI)) < 0), toL ((zv (⟨r.neg, r.mag⟩ : RawI)).natAbs), toL (nv (r.den))⟩ : Raw)) (fun w h => ⟨(h _ (.tail _ ((.tail _ ((.head _)))))), (h _ (.head _))⟩) ?_
    refine J.ret (KR.ret (v := ratV (⟨y6, y7⟩ : RA) (⟨decide ((zv (⟨r.neg, r.mag⟩ : RawI)) < 0), toL ((zv (⟨r.neg, r.mag⟩ : RawI)).natAbs), toL (nv (r.den))⟩ : Raw)) (⟨y6, y7⟩) [some 0] [0] [b3, b3, b3] k_ (by first | rfl | (rw [e_1]; done) | (simp only [e_1]; done) | (rw [e_2, e_3]; done) | (rw [e_1, e_2, e_3]; rfl) | (simp only [e_1, e_2, e_3]; done) | (simp only [e_1, e_2, e_3]; rfl)) (trivial) (by first | rfl | (rw [e_1]; done) | (simp only [e_1]; done) | (rw [e_2, e_3]; done) | (rw [e_1, e_2, e_3]; rfl) | (simp only [e_1, e_2, e_3]; done) | (simp only [e_1, e_2, e_3]; rfl)))
theorem neg_div {n d : Int} (h : d < 0) : (n : Rat) / (d : Rat) = ((-n : Int) : Rat) / ((-d : Int) : Rat) := by
  rw [← mk_neg h, ← mk_pos (by omega : 0 < -d), Int.natAbs_neg]
theorem over_pos {n d : Int} (hd : 0 < d) : encQ ((n : Rat) / (d : Rat)) = ⟨decide (n / ((Nat.gcd n.natAbs d.natAbs : Nat) : Int) < 0), toL (n / ((Nat.gcd n.natAbs d.natAbs : Nat) : Int)).natAbs, toD (d / ((Nat.gcd n.natAbs d.natAbs : Nat) : Int)).natAbs⟩ := by
  have h0 : d.natAbs ≠ 0 := by omega
  have hg : 0 < Nat.gcd n.natAbs d.natAbs := Nat.gcd_pos_of_pos_right _ (Nat.pos_of_ne_zero h0)
  obtain ⟨e1, e2⟩ := low_num (n := n) h0
  rw [← mk_pos hd]
  show (⟨decide ((mkRat n d.natAbs).num < 0), toL (mkRat n d.natAbs).num.natAbs, toD (mkRat n d.natAbs).den⟩ : Raw) = _
  rw [e1, e2]
  have e3 : (d / ((Nat.gcd n.natAbs d.natAbs : Nat) : Int)).natAbs = d.natAbs / Nat.gcd n.natAbs d.natAbs := by
    have hdv : ((Nat.gcd n.natAbs d.natAbs : Nat) : Int) ∣ d := Int.ofNat_dvd_left.2 (Nat.gcd_dvd_right _ _)
    rw [Int.natAbs_ediv_of_dvd hdv]; rfl
  rw [e3]
theorem y_r03_over {p : Prop} (h : p := by first | assumption | exact Lb_toL _ | omega | (simp; done) | first | (simp; omega) | (simp; done)) : p := h
theorem r03_over (s : SA) (n : Int) (t : SA) (d : Int) (hd : d ≠ 0) (hln : (toL (n.natAbs)).length ≤ 137438953472) (hld : (toL (d.natAbs)).length ≤ 137438953472) : Spec Tryz.prog 68 #[intV s (encZ n), intV t (encZ d)] [fU s (toL (n.natAbs)), fU t (toL (d.natAbs))] (ι := RA) (fun y => ratV y (encQ (((n : Int) : Rat) / ((d : Int) : Rat)))) (fun y => True) (fun y => [fRat y (encQ (((n : Int) : Rat) / ((d : Int) : Rat)))]) := by
  refine Spec.of_body _ (fn := Tryz.f68) k_ rfl k_ (fun X w0 => ?_)
  refine J.fact (φ := (toL (n.natAbs)).length ≤ 140737488355328) (fun w h => by have := (h _ (.head _)).1; omega) (fun hl1 => ?_)
  refine J.fact (φ := (toL (d.natAbs)).length ≤ 140737488355328) (fun w h => by have := (h _ (.tail _ ((.head _)))).1; omega) (fun hl2 => ?_)
  have hgl := length_toL_mono (Nat.gcd_le_right n.natAbs (show 0 < d.natAbs by omega))
  refine J.sreg ?_
  refine RN.new (fun b => pt b) (.cells #[.bool (decide (n < 0)), sl s (toL (n.natAbs)).length] 25 (0, 0)) k_ k_ (fun w => by kernel_rfl) (fun b3 => ?_)
  refine RN.new (fun b => pt b) (.cells #[.bool (decide (d < 0)), sl t (toL (d.natAbs)).length] 25 (0, 0)) k_ k_ (fun w => by kernel_rfl) (fun b4 => ?_)
  refine RN.new (fun b => pt b) (.cells (ratC (⟨saNil, saNil⟩ : RA) (⟨false, ([] : List Nat), ([] : List Nat)⟩ : Raw)) 27 (0, 0)) k_ k_ (fun w => by kernel_rfl) (fun b5 => ?_)
  refine RN.fin k_ ?_
  refine J.seq ?_
  refine J.sreg ?_
  refine RN.bq [some 1] [2, 3, 4, 12] [b4, b4] (k' := 1) (l' := [(2, pt b3), (3, pt b4), (4, pt b5), (12, intV t (encZ d))]) k_ ?_
  refine RN.call (r02_Sign_c t d y_r03_over) [1] k_ k_ k_ rfl (fun y6 _ => ?_)
  refine RN.bq (no 1) [2, 3, 4, 14] [] (k' := 3) (l' := [(2, pt b3), (3, pt b4), (4, pt b5), (14, .bool (decide ((Int.sign d) < 0)))]) k_ ?_
  refine RN.fin k_ ?_
  refine J.cond (decide ((Int.sign d) < 0)) k_ (fun c7 => ?_) (fun c7 => ?_)
  · skip
    replace c7 := of_decide_eq_true c7
    have hs := sign_lt0 c7
    refine J.regD k_ [4, 5] ?_
    refine RD.bat k_ [(0, some 2), (2, some 1)] [2, 3, 4, 15, 17] [b4, b4, b3, b3] (L' := [2, 0]) (l' := [(2, pt b3), (3, pt b4), (4, pt b5), (15, intV s (encZ n)), (17, intV t (encZ d))]) k_ ?_
    refine RD.call (i := 1) (r02_Neg_c s n y_r03_over) [0] k_ k_ k_ k_ k_ rfl (fun y8 _ => ?_)
    refine RD.call (i := 3) (r02_Neg_c t d y_r03_over) [2] k_ k_ k_ k_ k_ rfl (fun y9 _ => ?_)
    refine RD.last (i := 4) (some 2) [2, 3, 4, 18] [b3, b3] k_ k_ k_ (l' := [(2, pt b3), (3, pt b4), (4, pt b5), (18, intV y9 (encZ (-d)))]) (M' := [(b5, .cells (ratC (⟨saNil, saNil⟩ : RA) (⟨false, ([] : List Nat), ([] : List Nat)⟩ : Raw)) 27 (0, 0)), (b4, .cells #[.bool (decide (d < 0)), sl t (toL (d.natAbs)).length] 25 (0, 0)), (b3, .cells #[.bool (decide ((-n) < 0)), sl y8 (toL ((-n).natAbs)).length] 25 (0, 0))]) k_ ?_
    refine RD.last (i := 5) (some 1) [2, 3, 4] [b4, b4] k_ k_ k_ (l' := [(2, pt b3), (3, pt b4), (4, pt b5)]) (M' := [(b5, .cells (ratC (⟨saNil, saNil⟩ : RA) (⟨false, ([] : List Nat), ([] : List Nat)⟩ : Raw)) 27 (0, 0)), (b4, .cells #[.bool (decide ((-d) < 0)), sl y9 (toL ((-d).natAbs)).length] 25 (0, 0)), (b3, .cells #[.bool (decide ((-n) < 0)), sl y8 (toL ((-n).natAbs)).length] 25 (0, 0))]) k_ ?_
    refine RD.done k_ ?_
    refine KN.next ?_
    refine J.sreg ?_
    refine RN.bq [some 2, some 1] [2, 3, 4, 19, 20] [b4, b4, b3, b3] (k' := 2) (l' := [(2, pt b3), (3, pt b4), (4, pt b5), (19, intV y8 (encZ (-n))), (20, intV y9 (encZ (-d)))]) k_ ?_
    refine RN.call (r02_Gcd_c y8 (-n) y9 (-d) y_r03_over y_r03_over) [1, 0] k_ k_ k_ rfl (fun y10 _ => ?_)
    refine RN.bq (no 1) [2, 3, 4, 22] [] (k' := 4) (l' := [(2, pt b3), (3, pt b4), (4, pt b5), (22, intV y10 (encZ ((Nat.gcd ((-n).natAbs) ((-d).natAbs) : Nat) : Int)))]) k_ ?_
    refine RN.new (fun b => pt b) (.cells #[.bool false, sl saNil ([] : List Nat).length] 25 (0, 0)) k_ k_ (fun w => by kernel_rfl) (fun b11 => ?_)
    refine RN.bat [some 0] [2, 3, 4, 5] [b11, b11] (k' := 6) (l' := [(2, pt b3), (3, pt b4), (4, pt b5), (5, pt b11)]) (M' := [(b11, .cells #[.bool false, sl y10 (toL (Nat.gcd ((-n).natAbs) ((-d).natAbs))).length] 25 (0, 0)), (b5, .cells (ratC (⟨saNil, saNil⟩ : RA) (⟨false, ([] : List Nat), ([] : List Nat)⟩ : Raw)) 27 (0, 0)), (b4, .cells #[.bool (decide ((-d) < 0)), sl y9 (toL ((-d).natAbs)).length] 25 (0, 0)), (b3, .cells #[.bool (decide ((-n) < 0)), sl y8 (toL ((-n).natAbs)).length] 25 (0, 0))]) k_ ?_
    refine RN.fin k_ ?_
    refine J.sreg ?_
    refine RN.bq [some 3, some 0] [3, 4, 5, 24, 25] [b11, b11, b3, b3] (k' := 2) (l' := [(3, pt b4), (4, pt b5), (5, pt b11), (24, intV y8 (encZ (-n))), (25, intV y10 (encZ ((Nat.gcd ((-n).natAbs) ((-d).natAbs) : Nat) : Int)))]) k_ ?_
    refine RN.call (r02_Div_c y8 (-n) y10 ((Nat.gcd ((-n).natAbs) ((-d).natAbs) : Nat) : Int) y_r03_over y_r03_over) [2, 0] k_ k_ k_ rfl (fun y12 _ => ?_)
    refine RN.bq (no 4) [3, 4, 5, 27, 28, 29] [] (k' := 7) (l' := [(3, pt b4), (4, pt b5), (5, pt b11), (27, intV y12.1 (encZ ((-n) / ((Nat.gcd ((-n).natAbs) ((-d).natAbs) : Nat) : Int)))), (28, intV y12.2 (encZ (if ((Nat.gcd ((-n).natAbs) ((-d).natAbs) : Nat) : Int) = 0 then 0 else (-n) % ((Nat.gcd ((-n).natAbs) ((-d).natAbs) : Nat) : Int)))), (29, .bool (decide (((Nat.gcd ((-n).natAbs) ((-d).natAbs) : Nat) : Int) ≠ 0)))]) k_ ?_
    refine RN.new (fun b => pt b) (.cells #[.bool false, sl saNil ([] : List Nat).length] 25 (0, 0)) k_ k_ (fun w => by kernel_rfl) (fun b13 => ?_)
    refine RN.new (fun b => pt b) (.cells #[.bool false, sl saNil ([] : List Nat).length] 25 (0, 0)) k_ k_ (fun w => by kernel_rfl) (fun b14 => ?_)
    refine RN.bat [some 1, some 0, none] [3, 4, 5, 6] [b14, b14, b13, b13] (k' := 12) (l' := [(3, pt b4), (4, pt b5), (5, pt b11), (6, pt b13)]) (M' := [(b14, .cells #[.bool (decide ((if ((Nat.gcd ((-n).natAbs) ((-d).natAbs) : Nat) : Int) = 0 then 0 else (-n) % ((Nat.gcd ((-n).natAbs) ((-d).natAbs) : Nat) : Int)) < 0)), sl y12.2 (toL ((if ((Nat.gcd ((-n).natAbs) ((-d).natAbs) : Nat) : Int) = 0 then 0 else (-n) % ((Nat.gcd ((-n).natAbs) ((-d).natAbs) : Nat) : Int)).natAbs)).length] 25 (0, 0)), (b13, .cells #[.bool (decide (((-n) / ((Nat.gcd ((-n).natAbs) ((-d).natAbs) : Nat) : Int)) < 0)), sl y12.1 (toL (((-n) / ((Nat.gcd ((-n).natAbs) ((-d).natAbs) : Nat) : Int)).natAbs)).length] 25 (0, 0)), (b11, .cells #[.bool false, sl y10 (toL (Nat.gcd ((-n).natAbs) ((-d).natAbs))).length] 25 (0, 0)), (b5, .cells (ratC (⟨saNil, saNil⟩ : RA) (⟨false, ([] : List Nat), ([] : List Nat)⟩ : Raw)) 27 (0, 0)), (b4, .cells #[.bool (decide ((-d) < 0)), sl y9 (toL ((-d).natAbs)).length] 25 (0, 0)), (b3, .cells #[.bool (decide ((-n) < 0)), sl y8 (toL ((-n).natAbs)).length] 25 (0, 0))]) k_ ?_
    refine RN.fin k_ ?_
    refine J.sreg ?_
    refine RN.bq [some 4, some 2] [4, 6, 31, 32] [b11, b11, b4, b4] (k' := 2) (l' := [(4, pt b5), (6, pt b13), (31, intV y9 (encZ (-d))), (32, intV y10 (encZ ((Nat.gcd ((-n).natAbs) ((-d).natAbs) : Nat) : Int)))]) k_ ?_
    refine RN.call (r02_Div_c y9 (-d) y10 ((Nat.gcd ((-n).natAbs) ((-d).natAbs) : Nat) : Int) y_r03_over y_r03_over) [3, 2] k_ k_ k_ rfl (fun y15 _ => ?_)
    refine RN.bq (no 4) [4, 6, 34, 35, 36] [] (k' := 7) (l' := [(4, pt b5), (6, pt b13), (34, intV y15.1 (encZ ((-d) / ((Nat.gcd ((-n).natAbs) ((-d).natAbs) : Nat) : Int)))), (35, intV y15.2 (encZ (if ((Nat.gcd ((-n).natAbs) ((-d).natAbs) : Nat) : Int) = 0 then 0 else (-d) % ((Nat.gcd ((-n).natAbs) ((-d).natAbs) : Nat) : Int)))), (36, .bool (decide (((Nat.gcd ((-n).natAbs) ((-d).natAbs) : Nat) : Int) ≠ 0)))]) k_ ?_
    refine RN.new (fun b => pt b) (.cells #[.bool false, sl saNil ([] : List Nat).length] 25 (0, 0)) k_ k_ (fun w => by kernel_rfl) (fun b16 => ?_)
    refine RN.new (fun b => pt b) (.cells #[.bool false, sl saNil ([] : List Nat).length] 25 (0, 0)) k_ k_ (fun w => by kernel_rfl) (fun b17 => ?_)
    refine RN.bat [some 1, some 0, none] [4, 6, 9] [b17, b17, b16, b16] (k' := 12) (l' := [(4, pt b5), (6, pt b13), (9, pt b16)]) (M' := [(b17, .cells #[.bool (decide ((if ((Nat.gcd ((-n).natAbs) ((-d).natAbs) : Nat) : Int) = 0 then 0 else (-d) % ((Nat.gcd ((-n).natAbs) ((-d).natAbs) : Nat) : Int)) < 0)), sl y15.2 (toL ((if ((Nat.gcd ((-n).natAbs) ((-d).natAbs) : Nat) : Int) = 0 then 0 else (-d) % ((Nat.gcd ((-n).natAbs) ((-d).natAbs) : Nat) : Int)).natAbs)).length] 25 (0, 0)), (b16, .cells #[.bool (decide (((-d) / ((Nat.gcd ((-n).natAbs) ((-d).natAbs) : Nat) : Int)) < 0)), sl y15.1 (toL (((-d) / ((Nat.gcd ((-n).natAbs) ((-d).natAbs) : Nat) : Int)).natAbs)).length] 25 (0, 0)), (b14, .cells #[.bool (decide ((if ((Nat.gcd ((-n).natAbs) ((-d).natAbs) : Nat) : Int) = 0 then 0 else (-n) % ((Nat.gcd ((-n).natAbs) ((-d).natAbs) : Nat) : Int)) < 0)), sl y12.2 (toL ((if ((Nat.gcd ((-n).natAbs) ((-d).natAbs) : Nat) : Int) = 0 then 0 else (-n) % ((Nat.gcd ((-n).natAbs) ((-d).natAbs) : Nat) : Int)).natAbs)).length] 25 (0, 0)), (b13, .cells #[.bool (decide (((-n) / ((Nat.gcd ((-n).natAbs) ((-d).natAbs) : Nat) : Int)) < 0)), sl y12.1 (toL (((-n) / ((Nat.gcd ((-n).natAbs) ((-d).natAbs) : Nat) : Int)).natAbs)).length] 25 (0, 0)), (b11, .cells #[.bool false, sl y10 (toL (Nat.gcd ((-n).natAbs) ((-d).natAbs))).length] 25 (0, 0)), (b5, .cells (ratC (⟨saNil, saNil⟩ : RA) (⟨false, ([] : List Nat), ([] : List Nat)⟩ : Raw)) 27 (0, 0)), (b4, .cells #[.bool (decide ((-d) < 0)), sl y9 (toL ((-d).natAbs)).length] 25 (0, 0)), (b3, .cells #[.bool (decide ((-n) < 0)), sl y8 (toL ((-n).natAbs)).length] 25 (0, 0))]) k_ ?_
    refine RN.fin k_ ?_
    refine J.seq ?_
    refine J.sreg ?_
    refine RN.bq [none, some 1] [4, 6, 9, 38] [b16] (k' := 2) (l' := [(4, pt b5), (6, pt b13), (9, pt b16), (38, sl y15.1 (toL (((-d) / ((Nat.gcd ((-n).natAbs) ((-d).natAbs) : Nat) : Int)).natAbs)).length)]) k_ ?_
    refine RN.call (r03_one y15.1 (toL (((-d) / ((Nat.gcd ((-n).natAbs) ((-d).natAbs) : Nat) : Int)).natAbs))) [0] k_ k_ k_ rfl (fun y18 _ => ?_)
    refine RN.fin k_ ?_
    refine J.cond (decide ((toL (((-d) / ((Nat.gcd ((-n).natAbs) ((-d).natAbs) : Nat) : Int)).natAbs)) = [1])) k_ (fun c19 => ?_) (fun c19 => ?_)
    · skip
      replace c19 := of_decide_eq_true c19
      have ho := toL_eq1.1 c19
      refine J.regN ?_
      refine RN.bat [none, some 1] [4, 6, 9] [b16] (k' := 2) (l' := [(4, pt b5), (6, pt b13), (9, pt b16)]) (M' := [(b17, .cells #[.bool (decide ((if ((Nat.gcd ((-n).natAbs) ((-d).natAbs) : Nat) : Int) = 0 then 0 else (-d) % ((Nat.gcd ((-n).natAbs) ((-d).natAbs) : Nat) : Int)) < 0)), sl y15.2 (toL ((if ((Nat.gcd ((-n).natAbs) ((-d).natAbs) : Nat) : Int) = 0 then 0 else (-d) % ((Nat.gcd ((-n).natAbs) ((-d).natAbs) : Nat) : Int)).natAbs)).length] 25 (0, 0)), (b16, .cells #[.bool (decide (((-d) / ((Nat.gcd ((-n).natAbs) ((-d).natAbs) : Nat) : Int)) < 0)), sl saNil ([] : List Nat).length] 25 (0, 0)), (b14, .cells #[.bool (decide ((if ((Nat.gcd ((-n).natAbs) ((-d).natAbs) : Nat) : Int) = 0 then 0 else (-n) % ((Nat.gcd ((-n).natAbs) ((-d).natAbs) : Nat) : Int)) < 0)), sl y12.2 (toL ((if ((Nat.gcd ((-n).natAbs) ((-d).natAbs) : Nat) : Int) = 0 then 0 else (-n) % ((Nat.gcd ((-n).natAbs) ((-d).natAbs) : Nat) : Int)).natAbs)).length] 25 (0, 0)), (b13, .cells #[.bool (decide (((-n) / ((Nat.gcd ((-n).natAbs) ((-d).natAbs) : Nat) : Int)) < 0)), sl y12.1 (toL (((-n) / ((Nat.gcd ((-n).natAbs) ((-d).natAbs) : Nat) : Int)).natAbs)).length] 25 (0, 0)), (b11, .cells #[.bool false, sl y10 (toL (Nat.gcd ((-n).natAbs) ((-d).natAbs))).length] 25 (0, 0)), (b5, .cells (ratC (⟨saNil, saNil⟩ : RA) (⟨false, ([] : List Nat), ([] : List Nat)⟩ : Raw)) 27 (0, 0)), (b4, .cells #[.bool (decide ((-d) < 0)), sl y9 (toL ((-d).natAbs)).length] 25 (0, 0)), (b3, .cells #[.bool (decide ((-n) < 0)), sl y8 (toL ((-n).natAbs)).length] 25 (0, 0))]) k_ ?_
      refine RN.fin k_ ?_
      refine J.sreg ?_
      refine RN.bat [some 3, none, some 1, none, some 5] [4] [b5, b5, b5, b16, b13, b13] (k' := 5) (l' := [(4, pt b5)]) (M' := [(b17, .cells #[.bool (decide ((if ((Nat.gcd ((-n).natAbs) ((-d).natAbs) : Nat) : Int) = 0 then 0 else (-d) % ((Nat.gcd ((-n).natAbs) ((-d).natAbs) : Nat) : Int)) < 0)), sl y15.2 (toL ((if ((Nat.gcd ((-n).natAbs) ((-d).natAbs) : Nat) : Int) = 0 then 0 else (-d) % ((Nat.gcd ((-n).natAbs) ((-d).natAbs) : Nat) : Int)).natAbs)).length] 25 (0, 0)), (b16, .cells #[.bool (decide (((-d) / ((Nat.gcd ((-n).natAbs) ((-d).natAbs) : Nat) : Int)) < 0)), sl saNil ([] : List Nat).length] 25 (0, 0)), (b14, .cells #[.bool (decide ((if ((Nat.gcd ((-n).natAbs) ((-d).natAbs) : Nat) : Int) = 0 then 0 else (-n) % ((Nat.gcd ((-n).natAbs) ((-d).natAbs) : Nat) : Int)) < 0)), sl y12.2 (toL ((if ((Nat.gcd ((-n).natAbs) ((-d).natAbs) : Nat) : Int) = 0 then 0 else (-n) % ((Nat.gcd ((-n).natAbs) ((-d).natAbs) : Nat) : Int)).natAbs)).length] 25 (0, 0)), (b13, .cells #[.bool (decide (((-n) / ((Nat.gcd ((-n).natAbs) ((-d).natAbs) : Nat) : Int)) < 0)), sl y12.1 (toL (((-n) / ((Nat.gcd ((-n).natAbs) ((-d).natAbs) : Nat) : Int)).natAbs)).length] 25 (0, 0)), (b11, .cells #[.bool false, sl y10 (toL (Nat.gcd ((-n).natAbs) ((-d).natAbs))).length] 25 (0, 0)), (b5, .cells (ratC (⟨y12.1, saNil⟩ : RA) (⟨decide (((-n) / ((Nat.gcd ((-n).natAbs) ((-d).natAbs) : Nat) : Int)) < 0), toL (((-n) / ((Nat.gcd ((-n).natAbs) ((-d).natAbs) : Nat) : Int)).natAbs), ([] : List Nat)⟩ : Raw)) 27 (0, 0)), (b4, .cells #[.bool (decide ((-d) < 0)), sl y9 (toL ((-d).natAbs)).length] 25 (0, 0)), (b3, .cells #[.bool (decide ((-n) < 0)), sl y8 (toL ((-n).natAbs)).length] 25 (0, 0))]) k_ ?_
      refine RN.fin k_ ?_
      have e_1 : (encQ (((n : Int) : Rat) / ((d : Int) : Rat))) = (⟨decide (((-n) / ((Nat.gcd ((-n).natAbs) ((-d).natAbs) : Nat) : Int)) < 0), toL (((-n) / ((Nat.gcd ((-n).natAbs) ((-d).natAbs) : Nat) : Int)).natAbs), ([] : List Nat)⟩ : Raw) := by rw [neg_div hs, over_pos (by omega), ho, toD_one]
      have e_2 : (toL (((((n : Int) : Rat) / ((d : Int) : Rat)).num).natAbs)) = (toL (((-n) / ((Nat.gcd ((-n).natAbs) ((-d).natAbs) : Nat) : Int)).natAbs)) := congrArg Raw.mag e_1
      have e_3 : (toD ((((n : Int) : Rat) / ((d : Int) : Rat)).den)) = ([] : List Nat) := congrArg Raw.den e_1
      refine J.also (fRat (⟨y12.1, saNil⟩ : RA) (⟨decide (((-n) / ((Nat.gcd ((-n).natAbs) ((-d).natAbs) : Nat) : Int)) < 0), toL (((-n) / ((Nat.gcd ((-n).natAbs) ((-d).natAbs) : Nat) : Int)).natAbs), ([] : List Nat)⟩ : Raw)) (fun w h => ⟨(h _ (.tail _ ((.tail _ ((.head _)))))), fU_nil w⟩) ?_
      refine J.ret (KR.ret (v := ratV (⟨y12.1, saNil⟩ : RA) (⟨decide (((-n) / ((Nat.gcd ((-n).natAbs) ((-d).natAbs) : Nat) : Int)) < 0), toL (((-n) / ((Nat.gcd ((-n).natAbs) ((-d).natAbs) : Nat) : Int)).natAbs), ([] : List Nat)⟩ : Raw)) (⟨y12.1, saNil⟩) [some 5] [0] [b5, b5, b5] k_ (by first | rfl | (rw [e_1]; done) | (simp only [e_1]; done) | (rw [e_2, e_3]; done) | (rw [e_1, e_2, e_3]; rfl) | (simp only [e_1, e_2, e_3]; done) | (simp only [e_1, e_2, e_3]; rfl)) (trivial) (by first | rfl | (rw [e_1]; done) | (simp only [e_1]; done) | (rw [e_2, e_3]; done) | (rw [e_1, e_2, e_3]; rfl) | (simp only [e_1, e_2, e_3]; done) | (simp only [e_1, e_2, e_3]; rfl)))
    · skip
      replace c19 := of_decide_eq_false c19
      have ho := mt toL_eq1.2 c19
      refine J.skip ?_
      refine KN.next ?_
      refine J.sreg ?_
      refine RN.bat [some 3, none, some 1, none, some 5] [4] [b5, b5, b5, b16, b13, b13] (k' := 5) (l' := [(4, pt b5)]) (M' := [(b17, .cells #[.bool (decide ((if ((Nat.gcd ((-n).natAbs) ((-d).natAbs) : Nat) : Int) = 0 then 0 else (-d) % ((Nat.gcd ((-n).natAbs) ((-d).natAbs) : Nat) : Int)) < 0)), sl y15.2 (toL ((if ((Nat.gcd ((-n).natAbs) ((-d).natAbs) : Nat) : Int) = 0 then 0 else (-d) % ((Nat.gcd ((-n).natAbs) ((-d).natAbs) : Nat) : Int)).natAbs)).length] 25 (0, 0)), (b16, .cells #[.bool (decide (((-d) / ((Nat.gcd ((-n).natAbs) ((-d).natAbs) : Nat) : Int)) < 0)), sl y15.1 (toL (((-d) / ((Nat.gcd ((-n).natAbs) ((-d).natAbs) : Nat) : Int)).natAbs)).length] 25 (0, 0)), (b14, .cells #[.bool (decide ((if ((Nat.gcd ((-n).natAbs) ((-d).natAbs) : Nat) : Int) = 0 then 0 else (-n) % ((Nat.gcd ((-n).natAbs) ((-d).natAbs) : Nat) : Int)) < 0)), sl y12.2 (toL ((if ((Nat.gcd ((-n).natAbs) ((-d).natAbs) : Nat) : Int) = 0 then 0 else (-n) % ((Nat.gcd ((-n).natAbs) ((-d).natAbs) : Nat) : Int)).natAbs)).length] 25 (0, 0)), (b13, .cells #[.bool (decide (((-n) / ((Nat.gcd ((-n).natAbs) ((-d).natAbs) : Nat) : Int)) < 0)), sl y12.1 (toL (((-n) / ((Nat.gcd ((-n).natAbs) ((-d).natAbs) : Nat) : Int)).natAbs)).length] 25 (0, 0)), (b11, .cells #[.bool false, sl y10 (toL (Nat.gcd ((-n).natAbs) ((-d).natAbs))).length] 25 (0, 0)), (b5, .cells (ratC (⟨y12.1, y15.1⟩ : RA) (⟨decide (((-n) / ((Nat.gcd ((-n).natAbs) ((-d).natAbs) : Nat) : Int)) < 0), toL (((-n) / ((Nat.gcd ((-n).natAbs) ((-d).natAbs) : Nat) : Int)).natAbs), toL (((-d) / ((Nat.gcd ((-n).natAbs) ((-d).natAbs) : Nat) : Int)).natAbs)⟩ : Raw)) 27 (0, 0)), (b4, .cells #[.bool (decide ((-d) < 0)), sl y9 (toL ((-d).natAbs)).length] 25 (0, 0)), (b3, .cells #[.bool (decide ((-n) < 0)), sl y8 (toL ((-n).natAbs)).length] 25 (0, 0))]) k_ ?_
      refine RN.fin k_ ?_
      have e_1 : (encQ (((n : Int) : Rat) / ((d : Int) : Rat))) = (⟨decide (((-n) / ((Nat.gcd ((-n).natAbs) ((-d).natAbs) : Nat) : Int)) < 0), toL (((-n) / ((Nat.gcd ((-n).natAbs) ((-d).natAbs) : Nat) : Int)).natAbs), toL (((-d) / ((Nat.gcd ((-n).natAbs) ((-d).natAbs) : Nat) : Int)).natAbs)⟩ : Raw) := by rw [neg_div hs, over_pos (by omega), toD_ne ho]
      have e_2 : (toL (((((n : Int) : Rat) / ((d : Int) : Rat)).num).natAbs)) = (toL (((-n) / ((Nat.gcd ((-n).natAbs) ((-d).natAbs) : Nat) : Int)).natAbs)) := congrArg Raw.mag e_1
      have e_3 : (toD ((((n : Int) : Rat) / ((d : Int) : Rat)).den)) = (toL (((-d) / ((Nat.gcd ((-n).natAbs) ((-d).natAbs) : Nat) : Int)).natAbs)) := congrArg Raw.den e_1
      refine J.also (fRat (⟨y12.1, y15.1⟩ : RA) (⟨decide (((-n) / ((Nat.gcd ((-n).natAbs) ((-d).natAbs) : Nat) : Int)) < 0), toL (((-n) / ((Nat.gcd ((-n).natAbs) ((-d).natAbs) : Nat) : Int)).natAbs), toL (((-d) / ((Nat.gcd ((-n).natAbs) ((-d).natAbs) : Nat) : Int)).natAbs)⟩ : Raw)) (fun w h => ⟨(h _ (.tail _ ((.tail _ ((.head _)))))), (h _ (.head _))⟩) ?_
      refine J.ret (KR.ret (v := ratV (⟨y12.1, y15.1⟩ : RA) (⟨decide (((-n) / ((Nat.gcd ((-n).natAbs) ((-d).natAbs) : Nat) : Int)) < 0), toL (((-n) / ((Nat.gcd ((-n).natAbs) ((-d).natAbs) : Nat) : Int)).natAbs), toL (((-d) / ((Nat.gcd ((-n).natAbs) ((-d).natAbs) : Nat) : Int)).natAbs)⟩ : Raw)) (⟨y12.1, y15.1⟩) [some 5] [0] [b5, b5, b5] k_ (by first | rfl | (rw [e_1]; done) | (simp only [e_1]; done) | (rw [e_2, e_3]; done) | (rw [e_1, e_2, e_3]; rfl) | (simp only [e_1, e_2, e_3]; done) | (simp only [e_1, e_2, e_3]; rfl)) (trivial) (by first | rfl | (rw [e_1]; done) | (simp only [e_1]; done) | (rw [e_2, e_3]; done) | (rw [e_1, e_2, e_3]; rfl) | (simp only [e_1, e_2, e_3]; done) | (simp only [e_1, e_2, e_3]; rfl)))
  · skip
    replace c7 := of_decide_eq_false c7
    have hs := sign_nlt0 c7 hd
    refine J.skip ?_
    refine KN.next ?_
    refine J.sreg ?_
    refine RN.bq [some 2, some 1] [2, 3, 4, 19, 20] [b4, b4, b3, b3] (k' := 2) (l' := [(2, pt b3), (3, pt b4), (4, pt b5), (19, intV s (encZ n)), (20, intV t (encZ d))]) k_ ?_
    refine RN.call (r02_Gcd_c s n t d y_r03_over y_r03_over) [0, 1] k_ k_ k_ rfl (fun y20 _ => ?_)
    refine RN.bq (no 1) [2, 3, 4, 22] [] (k' := 4) (l' := [(2, pt b3), (3, pt b4), (4, pt b5), (22, intV y20 (encZ ((Nat.gcd (n.natAbs) (d.natAbs) : Nat) : Int)))]) k_ ?_
    refine RN.new (fun b => pt b) (.cells #[.bool false, sl saNil ([] : List Nat).length] 25 (0, 0)) k_ k_ (fun w => by kernel_rfl) (fun b21 => ?_)
    refine RN.bat [some 0] [2, 3, 4, 5] [b21, b21] (k' := 6) (l' := [(2, pt b3), (3, pt b4), (4, pt b5), (5, pt b21)]) (M' := [(b21, .cells #[.bool false, sl y20 (toL (Nat.gcd (n.natAbs) (d.natAbs))).length] 25 (0, 0)), (b5, .cells (ratC (⟨saNil, saNil⟩ : RA) (⟨false, ([] : List Nat), ([] : List Nat)⟩ : Raw)) 27 (0, 0)), (b4, .cells #[.bool (decide (d < 0)), sl t (toL (d.natAbs)).length] 25 (0, 0)), (b3, .cells #[.bool (decide (n < 0)), sl s (toL (n.natAbs)).length] 25 (0, 0))]) k_ ?_
    refine RN.fin k_ ?_
    refine J.sreg ?_
    refine RN.bq [some 3, some 0] [3, 4, 5, 24, 25] [b21, b21, b3, b3] (k' := 2) (l' := [(3, pt b4), (4, pt b5), (5, pt b21), (24, intV s (encZ n)), (25, intV y20 (encZ ((Nat.gcd (n.natAbs) (d.natAbs) : Nat) : Int)))]) k_ ?_
    refine RN.call (r02_Div_c s n y20 ((Nat.gcd (n.natAbs) (d.natAbs) : Nat) : Int) y_r03_over y_r03_over) [1, 0] k_ k_ k_ rfl (fun y22 _ => ?_)
    refine RN.bq (no 4) [3, 4, 5, 27, 28, 29] [] (k' := 7) (l' := [(3, pt b4), (4, pt b5), (5, pt b21), (27, intV y22.1 (encZ (n / ((Nat.gcd (n.natAbs) (d.natAbs) : Nat) : Int)))), (28, intV y22.2 (encZ (if ((Nat.gcd (n.natAbs) (d.natAbs) : Nat) : Int) = 0 then 0 else n % ((Nat.gcd (n.natAbs) (d.natAbs) : Nat) : Int)))), (29, .bool (decide (((Nat.gcd (n.natAbs) (d.natAbs) : Nat) : Int) ≠ 0)))]) k_ ?_
    refine RN.new (fun b => pt b) (.cells #[.bool false, sl saNil ([] : List Nat).length] 25 (0, 0)) k_ k_ (fun w => by kernel_rfl) (fun b23 => ?_)
    refine RN.new (fun b => pt b) (.cells #[.bool false, sl saNil ([] : List Nat).length] 25 (0, 0)) k_ k_ (fun w => by kernel_rfl) (fun b24 => ?_)
    refine RN.bat [some 1, some 0, none] [3, 4, 5, 6] [b24, b24, b23, b23] (k' := 12) (l' := [(3, pt b4), (4, pt b5), (5, pt b21), (6, pt b23)]) (M' := [(b24, .cells #[.bool (decide ((if ((Nat.gcd (n.natAbs) (d.natAbs) : Nat) : Int) = 0 then 0 else n % ((Nat.gcd (n.natAbs) (d.natAbs) : Nat) : Int)) < 0)), sl y22.2 (toL ((if ((Nat.gcd (n.natAbs) (d.natAbs) : Nat) : Int) = 0 then 0 else n % ((Nat.gcd (n.natAbs) (d.natAbs) : Nat) : Int)).natAbs)).length] 25 (0, 0)), (b23, .cells #[.bool (decide ((n / ((Nat.gcd (n.natAbs) (d.natAbs) : Nat) : Int)) < 0)), sl y22.1 (toL ((n / ((Nat.gcd (n.natAbs) (d.natAbs) : Nat) : Int)).natAbs)).length] 25 (0, 0)), (b21, .cells #[.bool false, sl y20 (toL (Nat.gcd (n.natAbs) (d.natAbs))).length] 25 (0, 0)), (b5, .cells (ratC (⟨saNil, saNil⟩ : RA) (⟨false, ([] : List Nat), ([] : List Nat)⟩ : Raw)) 27 (0, 0)), (b4, .cells #[.bool (decide (d < 0)), sl t (toL (d.natAbs)).length] 25 (0, 0)), (b3, .cells #[.bool (decide (n < 0)), sl s (toL (n.natAbs)).length] 25 (0, 0))]) k_ ?_
    refine RN.fin k_ ?_
    refine J.sreg ?_
    refine RN.bq [some 4, some 2] [4, 6, 31, 32] [b21, b21, b4, b4] (k' := 2) (l' := [(4, pt b5), (6, pt b23), (31, intV t (encZ d)), (32, intV y20 (encZ ((Nat.gcd (n.natAbs) (d.natAbs) : Nat) : Int)))]) k_ ?_
    refine RN.call (r02_Div_c t d y20 ((Nat.gcd (n.natAbs) (d.natAbs) : Nat) : Int) y_r03_over y_r03_over) [4, 2] k_ k_ k_ rfl (fun y25 _ => ?_)
    refine RN.bq (no 4) [4, 6, 34, 35, 36] [] (k' := 7) (l' := [(4, pt b5), (6, pt b23), (34, intV y25.1 (encZ (d / ((Nat.gcd (n.natAbs) (d.natAbs) : Nat) : Int)))), (35, intV y25.2 (encZ (if ((Nat.gcd (n.natAbs) (d.natAbs) : Nat) : Int) = 0 then 0 else d % ((Nat.gcd (n.natAbs) (d.natAbs) : Nat) : Int)))), (36, .bool (decide (((Nat.gcd (n.natAbs) (d.natAbs) : Nat) : Int) ≠ 0)))]) k_ ?_
    refine RN.new (fun b => pt b) (.cells #[.bool false, sl saNil ([] : List Nat).length] 25 (0, 0)) k_ k_ (fun w => by kernel_rfl) (fun b26 => ?_)
    refine RN.new (fun b => pt b) (.cells #[.bool false, sl saNil ([] : List Nat).length] 25 (0, 0)) k_ k_ (fun w => by kernel_rfl) (fun b27 => ?_)
    refine RN.bat [some 1, some 0, none] [4, 6, 9] [b27, b27, b26, b26] (k' := 12) (l' := [(4, pt b5), (6, pt b23), (9, pt b26)]) (M' := [(b27, .cells #[.bool (decide ((if ((Nat.gcd (n.natAbs) (d.natAbs) : Nat) : Int) = 0 then 0 else d % ((Nat.gcd (n.natAbs) (d.natAbs) : Nat) : Int)) < 0)), sl y25.2 (toL ((if ((Nat.gcd (n.natAbs) (d.natAbs) : Nat) : Int) = 0 then 0 else d % ((Nat.gcd (n.natAbs) (d.natAbs) : Nat) : Int)).natAbs)).length] 25 (0, 0)), (b26, .cells #[.bool (decide ((d / ((Nat.gcd (n.natAbs) (d.natAbs) : Nat) : Int)) < 0)), sl y25.1 (toL ((d / ((Nat.gcd (n.natAbs) (d.natAbs) : Nat) : Int)).natAbs)).length] 25 (0, 0)), (b24, .cells #[.bool (decide ((if ((Nat.gcd (n.natAbs) (d.natAbs) : Nat) : Int) = 0 then 0 else n % ((Nat.gcd (n.natAbs) (d.natAbs) : Nat) : Int)) < 0)), sl y22.2 (toL ((if ((Nat.gcd (n.natAbs) (d.natAbs) : Nat) : Int) = 0 then 0 else n % ((Nat.gcd (n.natAbs) (d.natAbs) : Nat) : Int)).natAbs)).length] 25 (0, 0)), (b23, .cells #[.bool (decide ((n / ((Nat.gcd (n.natAbs) (d.natAbs) : Nat) : Int)) < 0)), sl y22.1 (toL ((n / ((Nat.gcd (n.natAbs) (d.natAbs) : Nat) : Int)).natAbs)).length] 25 (0, 0)), (b21, .cells #[.bool false, sl y20 (toL (Nat.gcd (n.natAbs) (d.natAbs))).length] 25 (0, 0)), (b5, .cells (ratC (⟨saNil, saNil⟩ : RA) (⟨false, ([] : List Nat), ([] : List Nat)⟩ : Raw)) 27 (0, 0)), (b4, .cells #[.bool (decide (d < 0)), sl t (toL (d.natAbs)).length] 25 (0, 0)), (b3, .cells #[.bool (decide (n < 0)), sl s (toL (n.natAbs)).length] 25 (0, 0))]) k_ ?_
    refine RN.fin k_ ?_
    refine J.seq ?_
    refine J.sreg ?_
    refine RN.bq [none, some 1] [4, 6, 9, 38] [b26] (k' := 2) (l' := [(4, pt b5), (6, pt b23), (9, pt b26), (38, sl y25.1 (toL ((d / ((Nat.gcd (n.natAbs) (d.natAbs) : Nat) : Int)).natAbs)).length)]) k_ ?_
    refine RN.call (r03_one y25.1 (toL ((d / ((Nat.gcd (n.natAbs) (d.natAbs) : Nat) : Int)).natAbs))) [0] k_ k_ k_ rfl (fun y28 _ => ?_)
    refine RN.fin k_ ?_
    refine J.cond (decide ((toL ((d / ((Nat.gcd (n.natAbs) (d.natAbs) : Nat) : Int)).natAbs)) = [1])) k_ (fun c29 => ?_) (fun c29 => ?_)
    · skip
      replace c29 := of_decide_eq_true c29
      have ho := toL_eq1.1 c29
      refine J.regN ?_
      refine RN.bat [none, some 1] [4, 6, 9] [b26] (k' := 2) (l' := [(4, pt b5), (6, pt b23), (9, pt b26)]) (M' := [(b27, .cells #[.bool (decide ((if ((Nat.gcd (n.natAbs) (d.natAbs) : Nat) : Int) = 0 then 0 else d % ((Nat.gcd (n.natAbs) (d.natAbs) : Nat) : Int)) < 0)), sl y25.2 (toL ((if ((Nat.gcd (n.natAbs) (d.natAbs) : Nat) : Int) = 0 then 0 else d % ((Nat.gcd (n.natAbs) (d.natAbs) : Nat) : Int)).natAbs)).length] 25 (0, 0)), (b26, .cells #[.bool (decide ((d / ((Nat.gcd (n.natAbs) (d.natAbs) : Nat) : Int)) < 0)), sl saNil ([] : List Nat).length] 25 (0, 0)), (b24, .cells #[.bool (decide ((if ((Nat.gcd (n.natAbs) (d.natAbs) : Nat) : Int) = 0 then 0 else n % ((Nat.gcd (n.natAbs) (d.natAbs) : Nat) : Int)) < 0)), sl y22.2 (toL ((if ((Nat.gcd (n.natAbs) (d.natAbs) : Nat) : Int) = 0 then 0 else n % ((Nat.gcd (n.natAbs) (d.natAbs) : Nat) : Int)).natAbs)).length] 25 (0, 0)), (b23, .cells #[.bool (decide ((n / ((Nat.gcd (n.natAbs) (d.natAbs) : Nat) : Int)) < 0)), sl y22.1 (toL ((n / ((Nat.gcd (n.natAbs) (d.natAbs) : Nat) : Int)).natAbs)).length] 25 (0, 0)), (b21, .cells #[.bool false, sl y20 (toL (Nat.gcd (n.natAbs) (d.natAbs))).length] 25 (0, 0)), (b5, .cells (ratC (⟨saNil, saNil⟩ : RA) (⟨false, ([] : List Nat), ([] : List Nat)⟩ : Raw)) 27 (0, 0)), (b4, .cells #[.bool (decide (d < 0)), sl t (toL (d.natAbs)).length] 25 (0, 0)), (b3, .cells #[.bool (decide (n < 0)), sl s (toL (n.natAbs)).length] 25 (0, 0))]) k_ ?_
      refine RN.fin k_ ?_
      refine J.sreg ?_
      refine RN.bat [some 3, none, some 1, none, some 5] [4] [b5, b5, b5, b26, b23, b23] (k' := 5) (l' := [(4, pt b5)]) (M' := [(b27, .cells #[.bool (decide ((if ((Nat.gcd (n.natAbs) (d.natAbs) : Nat) : Int) = 0 then 0 else d % ((Nat.gcd (n.natAbs) (d.natAbs) : Nat) : Int)) < 0)), sl y25.2 (toL ((if ((Nat.gcd (n.natAbs) (d.natAbs) : Nat) : Int) = 0 then 0 else d % ((Nat.gcd (n.natAbs) (d.natAbs) : Nat) : Int)).natAbs)).length] 25 (0, 0)), (b26, .cells #[.bool (decide ((d / ((Nat.gcd (n.natAbs) (d.natAbs) : Nat) : Int)) < 0)), sl saNil ([] : List Nat).length] 25 (0, 0)), (b24, .cells #[.bool (decide ((if ((Nat.gcd (n.natAbs) (d.natAbs) : Nat) : Int) = 0 then 0 else n % ((Nat.gcd (n.natAbs) (d.natAbs) : Nat) : Int)) < 0)), sl y22.2 (toL ((if ((Nat.gcd (n.natAbs) (d.natAbs) : Nat) : Int) = 0 then 0 else n % ((Nat.gcd (n.natAbs) (d.natAbs) : Nat) : Int)).natAbs)).length] 25 (0, 0)), (b23, .cells #[.bool (decide ((n / ((Nat.gcd (n.natAbs) (d.natAbs) : Nat) : Int)) < 0)), sl y22.1 (toL ((n / ((Nat.gcd (n.natAbs) (d.natAbs) : Nat) : Int)).natAbs)).length] 25 (0, 0)), (b21, .cells #[.bool false, sl y20 (toL (Nat.gcd (n.natAbs) (d.natAbs))).length] 25 (0, 0)), (b5, .cells (ratC (⟨y22.1, saNil⟩ : RA) (⟨decide ((n / ((Nat.gcd (n.natAbs) (d.natAbs) : Nat) : Int)) < 0), toL ((n / ((Nat.gcd (n.natAbs) (d.natAbs) : Nat) : Int)).natAbs), ([] : List Nat)⟩ : Raw)) 27 (0, 0)), (b4, .cells #[.bool (decide (d < 0)), sl t (toL (d.natAbs)).length] 25 (0, 0)), (b3, .cells #[.bool (decide (n < 0)), sl s (toL (n.natAbs)).length] 25 (0, 0))]) k_ ?_
      refine RN.fin k_ ?_
      have e_1 : (encQ (((n : Int) : Rat) / ((d : Int) : Rat))) = (⟨decide ((n / ((Nat.gcd (n.natAbs) (d.natAbs) : Nat) : Int)) < 0), toL ((n / ((Nat.gcd (n.natAbs) (d.natAbs) : Nat) : Int)).natAbs), ([] : List Nat)⟩ : Raw) := by rw [over_pos hs, ho, toD_one]
      have e_2 : (toL (((((n : Int) : Rat) / ((d : Int) : Rat)).num).natAbs)) = (toL ((n / ((Nat.gcd (n.natAbs) (d.natAbs) : Nat) : Int)).natAbs)) := congrArg Raw.mag e_1
      have e_3 : (toD ((((n : Int) : Rat) / ((d : Int) : Rat)).den)) = ([] : List Nat) := congrArg Raw.den e_1
      refine J.also (fRat (⟨y22.1, saNil⟩ : RA) (⟨decide ((n / ((Nat.gcd (n.natAbs) (d.natAbs) : Nat) : Int)) < 0), toL ((n / ((Nat.gcd (n.natAbs) (d.natAbs) : Nat) : Int)).natAbs), ([] : List Nat)⟩ : Raw)) (fun w h => ⟨(h _ (.tail _ ((.tail _ ((.head _)))))), fU_nil w⟩) ?_
      refine J.ret (KR.ret (v := ratV (⟨y22.1, saNil⟩ : RA) (⟨decide ((n / ((Nat.gcd (n.natAbs) (d.natAbs) : Nat) : Int)) < 0), toL ((n / ((Nat.gcd (n.natAbs) (d.natAbs) : Nat) : Int)).natAbs), ([] : List Nat)⟩ : Raw)) (⟨y22.1, saNil⟩) [some 5] [0] [b5, b5, b5] k_ (by first | rfl | (rw [e_1]; done) | (simp only [e_1]; done) | (rw [e_2, e_3]; done) | (rw [e_1, e_2, e_3]; rfl) | (simp only [e_1, e_2, e_3]; done) | (simp only [e_1, e_2, e_3]; rfl)) (trivial) (by first | rfl | (rw [e_1]; done) | (simp only [e_1]; done) | (rw [e_2, e_3]; done) | (rw [e_1, e_2, e_3]; rfl) | (simp only [e_1, e_2, e_3]; done) | (simp only [e_1, e_2, e_3]; rfl)))
    · skip
      replace c29 := of_decide_eq_false c29
      have ho := mt toL_eq1.2 c29
      refine J.skip ?_
      refine KN.next ?_
      refine J.sreg ?_
      refine RN.bat [some 3, none, some 1, none, some 5] [4] [b5, b5, b5, b26, b23, b23] (k' := 5) (l' := [(4, pt b5)]) (M' := [(b27, .cells #[.bool (decide ((if ((Nat.gcd (n.natAbs) (d.natAbs) : Nat) : Int) = 0 then 0 else d % ((Nat.gcd (n.natAbs) (d.natAbs) : Nat) : Int)) < 0)), sl y25.2 (toL ((if ((Nat.gcd (n.natAbs) (d.natAbs) : Nat) : Int) = 0 then 0 else d % ((Nat.gcd (n.natAbs) (d.natAbs) : Nat) : Int)).natAbs)).length] 25 (0, 0)), (b26, .cells #[.bool (decide ((d / ((Nat.gcd (n.natAbs) (d.natAbs) : Nat) : Int)) < 0)), sl y25.1 (toL ((d / ((Nat.gcd (n.natAbs) (d.natAbs) : Nat) : Int)).natAbs)).length] 25 (0, 0)), (b24, .cells #[.bool (decide ((if ((Nat.gcd (n.natAbs) (d.natAbs) : Nat) : Int) = 0 then 0 else n % ((Nat.gcd (n.natAbs) (d.natAbs) : Nat) : Int)) < 0)), sl y22.2 (toL ((if ((Nat.gcd (n.natAbs) (d.natAbs) : Nat) : Int) = 0 then 0 else n % ((Nat.gcd (n.natAbs) (d.natAbs) : Nat) : Int)).natAbs)).length] 25 (0, 0)), (b23, .cells #[.bool (decide ((n / ((Nat.gcd (n.natAbs) (d.natAbs) : Nat) : Int)) < 0)), sl y22.1 (toL ((n / ((Nat.gcd (n.natAbs) (d.natAbs) : Nat) : Int)).natAbs)).length] 25 (0, 0)), (b21, .cells #[.bool false, sl y20 (toL (Nat.gcd (n.natAbs) (d.natAbs))).length] 25 (0, 0)), (b5, .cells (ratC (⟨y22.1, y25.1⟩ : RA) (⟨decide ((n / ((Nat.gcd (n.natAbs) (d.natAbs) : Nat) : Int)) < 0), toL ((n / ((Nat.gcd (n.natAbs) (d.natAbs) : Nat) : Int)).natAbs), toL ((d / ((Nat.gcd (n.natAbs) (d.natAbs) : Nat) : Int)).natAbs)⟩ : Raw)) 27 (0, 0)), (b4, .cells #[.bool (decide (d < 0)), sl t (toL (d.natAbs)).length] 25 (0, 0)), (b3, .cells #[.bool (decide (n < 0)), sl s (toL (n.natAbs)).length] 25 (0, 0))]) k_ ?_
      refine RN.fin k_ ?_
      have e_1 : (encQ (((n : Int) : Rat) / ((d : Int) : Rat))) = (⟨decide ((n / ((Nat.gcd (n.natAbs) (d.natAbs) : Nat) : Int)) < 0), toL ((n / ((Nat.gcd (n.natAbs) (d.natAbs) : Nat) : Int)).natAbs), toL ((d / ((Nat.gcd (n.natAbs) (d.natAbs) : Nat) : Int)).natAbs)⟩ : Raw) := by rw [over_pos hs, toD_ne ho]
      have e_2 : (toL (((((n : Int) : Rat) / ((d : Int) : Rat)).num).natAbs)) = (toL ((n / ((Nat.gcd (n.natAbs) (d.natAbs) : Nat) : Int)).natAbs)) := congrArg Raw.mag e_1
      have e_3 : (toD ((((n : Int) : Rat) / ((d : Int) : Rat)).den)) = (toL ((d / ((Nat.gcd (n.natAbs) (d.natAbs) : Nat) : Int)).natAbs)) := congrArg Raw.den e_1
      refine J.also (fRat (⟨y22.1, y25.1⟩ : RA) (⟨decide ((n / ((Nat.gcd (n.natAbs) (d.natAbs) : Nat) : Int)) < 0), toL ((n / ((Nat.gcd (n.natAbs) (d.natAbs) : Nat) : Int)).natAbs), toL ((d / ((Nat.gcd (n.natAbs) (d.natAbs) : Nat) : Int)).natAbs)⟩ : Raw)) (fun w h => ⟨(h _ (.tail _ ((.tail _ ((.head _)))))), (h _ (.head _))⟩) ?_
      refine J.ret (KR.ret (v := ratV (⟨y22.1, y25.1⟩ : RA) (⟨decide ((n / ((Nat.gcd (n.natAbs) (d.natAbs) : Nat) : Int)) < 0), toL ((n / ((Nat.gcd (n.natAbs) (d.natAbs) : Nat) : Int)).natAbs), toL ((d / ((Nat.gcd (n.natAbs) (d.natAbs) : Nat) : Int)).natAbs)⟩ : Raw)) (⟨y22.1, y25.1⟩) [some 5] [0] [b5, b5, b5] k_ (by first | rfl | (rw [e_1]; done) | (simp only [e_1]; done) | (rw [e_2, e_3]; done) | (rw [e_1, e_2, e_3]; rfl) | (simp only [e_1, e_2, e_3]; done) | (simp only [e_1, e_2, e_3]; rfl)) (trivial) (by first | rfl | (rw [e_1]; done) | (simp only [e_1]; done) | (rw [e_2, e_3]; done) | (rw [e_1, e_2, e_3]; rfl) | (simp only [e_1, e_2, e_3]; done) | (simp only [e_1, e_2, e_3]; rfl)))
end Go.Proofs.YtegnonhgildhoaaGreat.E
