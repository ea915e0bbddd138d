import Derived.Test.YtegnonhgildhoaaGreatR04
import Derived.Test.YtegnonhgildhoaaGreatEC
import Derived.Test.YtegnonhgildhoaaGreatP1
namespace Go.Proofs.YtegnonhgildhoaaGreat.E
open Go Go.RowKit
set_option linter.unusedVariables false
set_option linter.unusedSimpArgs false
theorem Q1 : Q 1 (1 : Rat) := ⟨by decide +kernel, by decide +kernel⟩
theorem Q0 : Q 1 (0 : Rat) := ⟨by decide +kernel, by decide +kernel⟩
theorem m19_one : Spec Tryz.prog 49 #[] [] (ι := RA) (fun y => ratV y (encQ (1 : Rat))) (fun y => True) (fun y => [fRat y (encQ (1 : Rat))]) := by
  refine Spec.of_body _ (fn := Tryz.f49) k_ rfl k_ (fun X w0 => ?_)
  refine J.sreg ?_
  refine RN.new (fun b => pt b) (.cells (ratC (⟨saNil, saNil⟩ : RA) (⟨false, ([] : List Nat), ([] : List Nat)⟩ : Raw)) 27 (0, 0)) k_ k_ (fun w => by kernel_rfl) (fun b1 => ?_)
  refine RN.fin k_ ?_
  refine J.sreg ?_
  refine RN.call (rational_FromInt 1 y_ y_) [] k_ k_ k_ rfl (fun y2 _ => ?_)
  refine RN.bat [some 0] [0] [b1, b1, b1] (k' := 2) (l' := [(0, pt b1)]) (M' := [(b1, .cells (ratC y2 (encQ ((1 : Int) : Rat))) 27 (0, 0))]) k_ ?_
  refine RN.fin k_ ?_
  have e_1 : (encQ (1 : Rat)) = (encQ ((1 : Int) : Rat)) := by rfl
  refine J.ret (KR.ret (v := ratV y2 (encQ ((1 : Int) : Rat))) (y2) [some 0] [0] [b1, b1, b1] k_ v1_ (trivial) v1_)
theorem sign_gt {q : Rat} : Int.sign q.num > 0 ↔ 0 < q := by
  have h1 := Rat.num_nonneg (q := -q)
  rw [Rat.neg_num] at h1
  have h2 : 0 < q ↔ ¬ 0 ≤ -q := by
    rw [← Rat.not_le]
    constructor
    · intro h h3; exact h (by have := Rat.neg_le_neg h3; simpa using this)
    · intro h h3; exact h (by have := Rat.neg_le_neg h3; simpa using this)
  rw [h2, ← h1]
  constructor
  · intro h h3
    rcases Int.lt_trichotomy q.num 0 with h4 | h4 | h4
    · rw [Int.sign_eq_neg_one_of_neg h4] at h; omega
    · rw [h4] at h; simp at h
    · omega
  · intro h
    rw [Int.sign_eq_one_of_pos (by omega)]; decide
theorem m19_quotient (p : RA) (r : Raw) (u : RA) (t : Raw) (hr : RQ 268435456 r) (ht : RQ 268435456 t) : Spec Tryz.prog 78 #[ratV p r, ratV u t] [fRat p r, fRat u t] (ι := RA) (fun y => ratV y (encQ ((qv r) / (qv t)))) (fun y => True) (fun y => [fRat y (encQ ((qv r) / (qv t)))]) := by
  refine Spec.of_body _ (fn := Tryz.f78) k_ rfl k_ (fun X w0 => ?_)
  refine J.fact (φ := r.mag.length ≤ 140737488355328 ∧ r.den.length ≤ 140737488355328) (fun w h => by have h1 := (h _ (.head _)).1.1; have h2 := (h _ (.head _)).2.1; omega) (fun hl1 => ?_)
  refine J.fact (φ := t.mag.length ≤ 140737488355328 ∧ t.den.length ≤ 140737488355328) (fun w h => by have h1 := (h _ (.tail _ ((.head _)))).1.1; have h2 := (h _ (.tail _ ((.head _)))).2.1; omega) (fun hl2 => ?_)
  refine J.sreg ?_
  refine RN.new (fun b => pt b) (.cells (ratC p r) 27 (0, 0)) k_ k_ (fun w => by kernel_rfl) (fun b3 => ?_)
  refine RN.new (fun b => pt b) (.cells (ratC u t) 27 (0, 0)) k_ k_ (fun w => by kernel_rfl) (fun b4 => ?_)
  refine RN.new (fun b => pt b) (.cells (ratC (⟨saNil, saNil⟩ : RA) (⟨false, ([] : List Nat), ([] : List Nat)⟩ : Raw)) 27 (0, 0)) k_ k_ (fun w => by kernel_rfl) (fun b5 => ?_)
  refine RN.fin k_ ?_
  refine J.sreg ?_
  refine RN.bq [some 2, some 1] [4, 8, 9] [b4, b4, b4, b3, b3, b3] (k' := 2) (l' := [(4, pt b5), (8, ratV p r), (9, ratV u t)]) k_ ?_
  refine RN.call (rational_Div p r u t y_ y_) [0, 1] k_ k_ k_ rfl (fun y6 _ => ?_)
  refine RN.bq (no 3) [4, 11, 12] [] (k' := 6) (l' := [(4, pt b5), (11, ratV y6 (encQ ((qv r) / (qv t)))), (12, .int .i64 (if (qv t) = 0 then 5 else 0))]) k_ ?_
  refine RN.new (fun b => pt b) (.cells (ratC (⟨saNil, saNil⟩ : RA) (⟨false, ([] : List Nat), ([] : List Nat)⟩ : Raw)) 27 (0, 0)) k_ k_ (fun w => by kernel_rfl) (fun b7 => ?_)
  refine RN.bat [some 0, none] [4, 5] [b7, b7, b7] (k' := 9) (l' := [(4, pt b5), (5, pt b7)]) (M' := [(b7, .cells (ratC y6 (encQ ((qv r) / (qv t)))) 27 (0, 0)), (b5, .cells (ratC (⟨saNil, saNil⟩ : RA) (⟨false, ([] : List Nat), ([] : List Nat)⟩ : Raw)) 27 (0, 0)), (b4, .cells (ratC u t) 27 (0, 0)), (b3, .cells (ratC p r) 27 (0, 0))]) k_ ?_
  refine RN.fin k_ ?_
  refine J.sreg ?_
  refine RN.bat [some 0, some 1] [4] [b5, b5, b5, b7, b7, b7] (k' := 2) (l' := [(4, pt b5)]) (M' := [(b7, .cells (ratC y6 (encQ ((qv r) / (qv t)))) 27 (0, 0)), (b5, .cells (ratC y6 (encQ ((qv r) / (qv t)))) 27 (0, 0)), (b4, .cells (ratC u t) 27 (0, 0)), (b3, .cells (ratC p r) 27 (0, 0))]) k_ ?_
  refine RN.fin k_ ?_
  refine J.ret (KR.ret (v := ratV y6 (encQ ((qv r) / (qv t)))) (y6) [some 1] [0] [b5, b5, b5] k_ rfl (trivial) rfl)
theorem m19_quotient_c (p : RA) (r' : Rat) (u : RA) (t' : Rat) (hr : Q 268435456 r') (ht : Q 268435456 t') : Spec Tryz.prog 78 #[ratV p (encQ r'), ratV u (encQ t')] [fRat p (encQ r'), fRat u (encQ t')] (ι := RA) (fun y => ratV y (encQ (r' / t'))) (fun y => True) (fun y => [fRat y (encQ (r' / t'))]) := by
  have H := m19_quotient p (encQ r') u (encQ t') (RQ_enc hr) (RQ_enc ht)
  first | exact H | (simp only [qv_encQ, validQ_encQ] at H; exact H)
theorem m19_quotient_c1 (p : RA) (r' : Rat) (u : RA) (t : Raw) (hr : Q 268435456 r') (ht : RQ 268435456 t) : Spec Tryz.prog 78 #[ratV p (encQ r'), ratV u t] [fRat p (encQ r'), fRat u t] (ι := RA) (fun y => ratV y (encQ (r' / (qv t)))) (fun y => True) (fun y => [fRat y (encQ (r' / (qv t)))]) := by
  have H := m19_quotient p (encQ r') u t (RQ_enc hr) (by first | exact ht | simpa only [qv_encQ] using ht)
  first | exact H | (simp only [qv_encQ, validQ_encQ] at H; exact H)
theorem m19_quotient_c2 (p : RA) (r : Raw) (u : RA) (t' : Rat) (hr : RQ 268435456 r) (ht : Q 268435456 t') : Spec Tryz.prog 78 #[ratV p r, ratV u (encQ t')] [fRat p r, fRat u (encQ t')] (ι := RA) (fun y => ratV y (encQ ((qv r) / t'))) (fun y => True) (fun y => [fRat y (encQ ((qv r) / t'))]) := by
  have H := m19_quotient p r u (encQ t') (by first | exact hr | simpa only [qv_encQ] using hr) (RQ_enc ht)
  first | exact H | (simp only [qv_encQ, validQ_encQ] at H; exact H)
theorem m19_positive (p : RA) (r : Raw) (hr : RQ 268435456 r) : Spec Tryz.prog 41 #[ratV p r] [fRat p r] (ι := Unit) (fun y => .bool (decide (0 < (qv r)))) (fun y => True) (fun y => []) := by
  refine Spec.of_body _ (fn := Tryz.f41) k_ rfl k_ (fun X w0 => ?_)
  refine J.fact (φ := r.mag.length ≤ 140737488355328 ∧ r.den.length ≤ 140737488355328) (fun w h => by have h1 := (h _ (.head _)).1.1; have h2 := (h _ (.head _)).2.1; omega) (fun hl1 => ?_)
  refine J.sreg ?_
  refine RN.new (fun b => pt b) (.cells (ratC p r) 27 (0, 0)) k_ k_ (fun w => by kernel_rfl) (fun b2 => ?_)
  refine RN.bq (no 1) [1] [] (k' := 2) (l' := [(1, pt b2)]) k_ ?_
  refine RN.fin k_ ?_
  refine J.sreg ?_
  refine RN.bq [some 0] [3] [b2, b2, b2] (k' := 1) (l' := [(3, ratV p r)]) k_ ?_
  refine RN.call (rational_Sign p r y_) [0] k_ k_ k_ rfl (fun y3 _ => ?_)
  refine RN.bq (no 2) [2] [] (k' := 4) (l' := [(2, .bool (decide ((Int.sign ((qv r).num)) > 0)))]) k_ ?_
  refine RN.fin k_ ?_
  have e_1 : (decide (0 < (qv r))) = (decide ((Int.sign ((qv r).num)) > 0)) := by rw [decide_eq_decide]; exact sign_gt.symm
  refine J.ret (KR.ret (v := .bool (decide ((Int.sign ((qv r).num)) > 0))) (()) [none] [] [] k_ v1_ (trivial) v1_)
theorem y_m19_Rho {p : Prop} (h : p := by first | assumption | exact Lb_toL _ | omega | (simp; done) | first | exact RQ_enc Q1 | exact Q.le Q1 (by decide) | (apply Q.le; (case h => (repeat' (first | assumption | exact Q1 | apply Q.sub | apply Q.add | apply Q.mul | apply Q.neg))); (case hab => omega)) | (refine RQ_enc ?_; (apply Q.le; (case h => (repeat' (first | assumption | exact Q1 | apply Q.sub | apply Q.add | apply Q.mul | apply Q.neg))); (case hab => omega)))) : p := h
theorem m19_Rho (p : RA) (r : Raw) (hr : RQ 268435456 r) (hs : Q 16777216 (qv r)) : Spec Tryz.prog 16 #[ratV p r] [fRat p r] (ι := RA) (fun y => ratV y (encQ (rhoQ (qv r)))) (fun y => True) (fun y => [fRat y (encQ (rhoQ (qv r)))]) := by
  refine Spec.of_body _ (fn := Tryz.f16) k_ rfl k_ (fun X w0 => ?_)
  refine J.fact (φ := r.mag.length ≤ 140737488355328 ∧ r.den.length ≤ 140737488355328) (fun w h => by have h1 := (h _ (.head _)).1.1; have h2 := (h _ (.head _)).2.1; omega) (fun hl1 => ?_)
  refine J.sreg ?_
  refine RN.new (fun b => pt b) (.cells (ratC p r) 27 (0, 0)) k_ k_ (fun w => by kernel_rfl) (fun b2 => ?_)
  refine RN.new (fun b => pt b) (.cells (ratC (⟨saNil, saNil⟩ : RA) (⟨false, ([] : List Nat), ([] : List Nat)⟩ : Raw)) 27 (0, 0)) k_ k_ (fun w => by kernel_rfl) (fun b3 => ?_)
  refine RN.fin k_ ?_
  refine J.seq ?_
  refine J.block ?_
  refine J.sreg ?_
  refine RN.bq [some 1] [1, 2, 5] [b2, b2, b2] (k' := 1) (l' := [(1, pt b2), (2, pt b3), (5, ratV p r)]) k_ ?_
  refine RN.call (rational_Sign p r y_m19_Rho) [0] k_ k_ k_ rfl (fun y4 _ => ?_)
  refine RN.bq (no 2) [1, 2, 4] [] (k' := 4) (l' := [(1, pt b2), (2, pt b3), (4, .bool (decide ((Int.sign ((qv r).num)) < 0)))]) k_ ?_
  refine RN.fin k_ ?_
  refine J.cond (decide ((Int.sign ((qv r).num)) < 0)) k_ (fun c5 => ?_) (fun c5 => ?_)
  · skip
    replace c5 := of_decide_eq_true c5
    refine J.sreg ?_
    refine RN.bat [none, some 0] [2] [b3, b3, b3] (k' := 2) (l' := [(2, pt b3)]) (M' := [(b3, .cells (ratC (⟨saNil, saNil⟩ : RA) (⟨false, ([] : List Nat), ([] : List Nat)⟩ : Raw)) 27 (0, 0)), (b2, .cells (ratC p r) 27 (0, 0))]) k_ ?_
    refine RN.fin k_ ?_
    have e_1 : (encQ (rhoQ (qv r))) = (⟨false, ([] : List Nat), ([] : List Nat)⟩ : Raw) := by rw [rhoQ, if_pos (sign_lt.1 ‹_›), encQ_zero]
    have e_2 : (toL (((rhoQ (qv r)).num).natAbs)) = ([] : List Nat) := congrArg Raw.mag e_1
    have e_3 : (toD ((rhoQ (qv r)).den)) = ([] : List Nat) := congrArg Raw.den e_1
    refine J.also (fRat (⟨saNil, saNil⟩ : RA) (⟨false, ([] : List Nat), ([] : List Nat)⟩ : Raw)) (fun w h => ⟨fU_nil w, fU_nil w⟩) ?_
    refine J.ret (KR.blk (KR.next (KR.ret (v := ratV (⟨saNil, saNil⟩ : RA) (⟨false, ([] : List Nat), ([] : List Nat)⟩ : Raw)) (⟨saNil, saNil⟩) [some 0] [0] [b3, b3, b3] k_ (by first | rfl | (rw [e_1]; done) | (simp only [e_1]; done) | (rw [e_2, e_3]; done) | (rw [e_1, e_2, e_3]; rfl) | (simp only [e_1, e_2, e_3]; done) | (simp only [e_1, e_2, e_3]; rfl)) (trivial) (by first | rfl | (rw [e_1]; done) | (simp only [e_1]; done) | (rw [e_2, e_3]; done) | (rw [e_1, e_2, e_3]; rfl) | (simp only [e_1, e_2, e_3]; done) | (simp only [e_1, e_2, e_3]; rfl)))))
  · skip
    replace c5 := of_decide_eq_false c5
    refine J.seq ?_
    refine J.regD k_ [] ?_
    refine RD.bat k_ [(0, some 1)] [1, 2, 10] [b2, b2, b2] (L' := [0]) (l' := [(1, pt b2), (2, pt b3), (10, ratV p r)]) k_ ?_
    refine RD.call (i := 1) (m19_one) [] k_ k_ k_ k_ k_ rfl (fun y6 _ => ?_)
    refine RD.call (i := 2) (rational_Compare_c2 p r y6 (1 : Rat) y_m19_Rho y_m19_Rho) [1, 0] k_ k_ k_ k_ k_ rfl (fun y7 _ => ?_)
    refine RD.bat k_ [(3, none), (4, none)] [1, 2, 9] [] (L' := [4, 3, 2, 1, 0]) (l' := [(1, pt b2), (2, pt b3), (9, .bool (decide ((cmpQ (qv r) (1 : Rat)) > 0)))]) k_ ?_
    refine RD.done k_ ?_
    refine KN.next ?_
    refine J.cond (decide ((cmpQ (qv r) (1 : Rat)) > 0)) k_ (fun c8 => ?_) (fun c8 => ?_)
    · skip
      replace c8 := of_decide_eq_true c8
      refine J.sreg ?_
      refine RN.call (m19_one) [] k_ k_ k_ rfl (fun y9 _ => ?_)
      refine RN.bat [some 0] [2] [b3, b3, b3] (k' := 2) (l' := [(2, pt b3)]) (M' := [(b3, .cells (ratC y9 (encQ (1 : Rat))) 27 (0, 0)), (b2, .cells (ratC p r) 27 (0, 0))]) k_ ?_
      refine RN.fin k_ ?_
      have e_1 : (encQ (rhoQ (qv r))) = (encQ (1 : Rat)) := by rw [rhoQ, if_neg (mt sign_lt.2 ‹_›), if_pos (cmpQ_gt.1 ‹_›)]
      refine J.ret (KR.blk (KR.next (KR.ret (v := ratV y9 (encQ (1 : Rat))) (y9) [some 0] [0] [b3, b3, b3] k_ v1_ (trivial) v1_)))
    · skip
      replace c8 := of_decide_eq_false c8
      refine J.skip ?_
      refine KN.blk ?_
      refine KN.next ?_
      refine J.seqC (ι := (RA) × (RA) × (Nat)) (fun x => True) (fun x => [(2, pt b3), (3, .pointer (some ⟨x.2.2, 0, none⟩))]) (fun x => [(x.2.2, .cells (ratC x.2.1 (encQ ((1 : Rat) - (qv r)))) 27 (0, 0)), (b3, .cells (ratC (⟨saNil, saNil⟩ : RA) (⟨false, ([] : List Nat), ([] : List Nat)⟩ : Raw)) 27 (0, 0)), (b2, .cells (ratC p r) 27 (0, 0))]) (fun x => [fRat x.2.1 (encQ ((1 : Rat) - (qv r))), fRat x.1 (encQ (1 : Rat)), fRat y6 (encQ (1 : Rat)), fRat p r]) ?_ ?_
      · skip
        refine J.regD k_ [4] ?_
        refine RD.bat k_ [(1, some 1)] [2, 16] [b2, b2, b2] (L' := [1]) (l' := [(2, pt b3), (16, ratV p r)]) k_ ?_
        refine RD.forkL (is := [0, 3]) k_ rfl k_ ⟨?_, ?_, trivial⟩
        · skip
          refine RDi.call (i := 0) (m19_one) [] k_ k_ k_ k_ rfl (fun y10 _ => ?_)
          refine RD.forkL (is := [2, 3]) k_ rfl k_ ⟨?_, ?_, trivial⟩
          · skip
            refine RDi.call (i := 2) (rational_Sub_c1 y10 (1 : Rat) p r y_m19_Rho y_m19_Rho) [0, 2] k_ k_ k_ k_ rfl (fun y11 _ => ?_)
            refine RD.new (i := 3) (fun b => pt b) (.cells (ratC (⟨saNil, saNil⟩ : RA) (⟨false, ([] : List Nat), ([] : List Nat)⟩ : Raw)) 27 (0, 0)) k_ k_ k_ k_ (fun w => by kernel_rfl) (fun b12 => ?_)
            refine RD.last (i := 4) (some 0) [2, 3] [b12, b12, b12] k_ k_ k_ (l' := [(2, pt b3), (3, pt b12)]) (M' := [(b12, .cells (ratC y11 (encQ ((1 : Rat) - (qv r)))) 27 (0, 0)), (b3, .cells (ratC (⟨saNil, saNil⟩ : RA) (⟨false, ([] : List Nat), ([] : List Nat)⟩ : Raw)) 27 (0, 0)), (b2, .cells (ratC p r) 27 (0, 0))]) k_ ?_
            refine RD.done k_ ?_
            refine KN.meet (y10, y11, b12) [2, 3] [0, 1, 2, 3] (l2 := [(2, pt b3), (3, pt b12)]) (by exact trivial) k_ (by rfl) (by rfl) (by rfl)
          · skip
            refine RDi.new (i := 3) (fun b => pt b) (.cells (ratC (⟨saNil, saNil⟩ : RA) (⟨false, ([] : List Nat), ([] : List Nat)⟩ : Raw)) 27 (0, 0)) k_ k_ k_ (fun w => by kernel_rfl) (fun b13 => ?_)
            refine RD.call (i := 2) (rational_Sub_c1 y10 (1 : Rat) p r y_m19_Rho y_m19_Rho) [0, 2] k_ k_ k_ k_ k_ rfl (fun y14 _ => ?_)
            refine RD.last (i := 4) (some 0) [2, 3] [b13, b13, b13] k_ k_ k_ (l' := [(2, pt b3), (3, pt b13)]) (M' := [(b13, .cells (ratC y14 (encQ ((1 : Rat) - (qv r)))) 27 (0, 0)), (b3, .cells (ratC (⟨saNil, saNil⟩ : RA) (⟨false, ([] : List Nat), ([] : List Nat)⟩ : Raw)) 27 (0, 0)), (b2, .cells (ratC p r) 27 (0, 0))]) k_ ?_
            refine RD.done k_ ?_
            refine KN.meet (y10, y14, b13) [2, 3] [0, 1, 2, 3] (l2 := [(2, pt b3), (3, pt b13)]) (by exact trivial) k_ (by rfl) (by rfl) (by rfl)
        · skip
          refine RDi.new (i := 3) (fun b => pt b) (.cells (ratC (⟨saNil, saNil⟩ : RA) (⟨false, ([] : List Nat), ([] : List Nat)⟩ : Raw)) 27 (0, 0)) k_ k_ k_ (fun w => by kernel_rfl) (fun b15 => ?_)
          refine RD.call (i := 0) (m19_one) [] k_ k_ k_ k_ k_ rfl (fun y16 _ => ?_)
          refine RD.call (i := 2) (rational_Sub_c1 y16 (1 : Rat) p r y_m19_Rho y_m19_Rho) [0, 2] k_ k_ k_ k_ k_ rfl (fun y17 _ => ?_)
          refine RD.last (i := 4) (some 0) [2, 3] [b15, b15, b15] k_ k_ k_ (l' := [(2, pt b3), (3, pt b15)]) (M' := [(b15, .cells (ratC y17 (encQ ((1 : Rat) - (qv r)))) 27 (0, 0)), (b3, .cells (ratC (⟨saNil, saNil⟩ : RA) (⟨false, ([] : List Nat), ([] : List Nat)⟩ : Raw)) 27 (0, 0)), (b2, .cells (ratC p r) 27 (0, 0))]) k_ ?_
          refine RD.done k_ ?_
          refine KN.meet (y16, y17, b15) [2, 3] [0, 1, 2, 3] (l2 := [(2, pt b3), (3, pt b15)]) (by exact trivial) k_ (by rfl) (by rfl) (by rfl)
      · skip
        intro x18 hx19
        obtain ⟨y10, y11, b12⟩ := x18
        replace hx19 : True := hx19
        refine J.seq ?_
        refine J.regD k_ [7] ?_
        refine RD.bat k_ [(1, some 0), (2, some 0), (3, some 0)] [2, 19, 20, 21] [b12, b12, b12, b12, b12, b12, b12, b12, b12] (L' := [3, 2, 1]) (l' := [(2, pt b3), (19, ratV y11 (encQ ((1 : Rat) - (qv r)))), (20, ratV y11 (encQ ((1 : Rat) - (qv r)))), (21, ratV y11 (encQ ((1 : Rat) - (qv r))))]) k_ ?_
        refine RD.call (i := 0) (m19_one) [] k_ k_ k_ k_ k_ rfl (fun y20 _ => ?_)
        refine RD.call (i := 4) (rational_Mul_c y11 ((1 : Rat) - (qv r)) y11 ((1 : Rat) - (qv r)) y_m19_Rho y_m19_Rho) [1, 1] k_ k_ k_ k_ k_ rfl (fun y21 _ => ?_)
        refine RD.call (i := 5) (rational_Mul_c y11 ((1 : Rat) - (qv r)) y21 (((1 : Rat) - (qv r)) * ((1 : Rat) - (qv r))) y_m19_Rho y_m19_Rho) [2, 0] k_ k_ k_ k_ k_ rfl (fun y22 _ => ?_)
        refine RD.call (i := 6) (rational_Sub_c y20 (1 : Rat) y22 (((1 : Rat) - (qv r)) * (((1 : Rat) - (qv r)) * ((1 : Rat) - (qv r)))) y_m19_Rho y_m19_Rho) [2, 0] k_ k_ k_ k_ k_ rfl (fun y23 _ => ?_)
        refine RD.last (i := 7) (some 1) [2] [b3, b3, b3] k_ k_ k_ (l' := [(2, pt b3)]) (M' := [(b12, .cells (ratC y11 (encQ ((1 : Rat) - (qv r)))) 27 (0, 0)), (b3, .cells (ratC y23 (encQ ((1 : Rat) - (((1 : Rat) - (qv r)) * (((1 : Rat) - (qv r)) * ((1 : Rat) - (qv r))))))) 27 (0, 0)), (b2, .cells (ratC p r) 27 (0, 0))]) k_ ?_
        refine RD.done k_ ?_
        refine KN.next ?_
        have e_1 : (encQ (rhoQ (qv r))) = (encQ ((1 : Rat) - (((1 : Rat) - (qv r)) * (((1 : Rat) - (qv r)) * ((1 : Rat) - (qv r)))))) := by rw [rhoQ, if_neg (mt sign_lt.2 ‹_›), if_neg (mt cmpQ_gt.2 ‹_›)]
        refine J.ret (KR.ret (v := ratV y23 (encQ ((1 : Rat) - (((1 : Rat) - (qv r)) * (((1 : Rat) - (qv r)) * ((1 : Rat) - (qv r))))))) (y23) [some 1] [0] [b3, b3, b3] k_ v1_ (trivial) v1_)
theorem m19_Rho_c (p : RA) (r' : Rat) (hr : Q 268435456 r') (hs : Q 16777216 r') : Spec Tryz.prog 16 #[ratV p (encQ r')] [fRat p (encQ r')] (ι := RA) (fun y => ratV y (encQ (rhoQ r'))) (fun y => True) (fun y => [fRat y (encQ (rhoQ r'))]) := by
  have H := m19_Rho p (encQ r') (RQ_enc hr) (by first | exact hs | simpa only [qv_encQ] using hs)
  first | exact H | (simp only [qv_encQ, validQ_encQ] at H; exact H)
def sizeE (n : Nat) : Int := if n = 0 then 10 else if 1024 < n then 2 else 0
def meanT (c s2 : Rat) (x : Rat) : Rat := rhoQ (x * x / (c * s2))
theorem m19_size (s : SA) (ps : List PR) : Spec Tryz.prog 40 #[sl s ps.length] [fRats s ps] (ι := Unit) (fun y => .int .i64 (sizeE ps.length)) (fun y => True) (fun y => []) := by
  refine Spec.of_body _ (fn := Tryz.f40) k_ rfl k_ (fun X w0 => ?_)
  refine J.fact (φ := ps.length ≤ 140737488355328) (fun w h => by have := (h _ (.head _)).1; omega) (fun hl1 => ?_)
  refine J.sreg ?_
  refine RN.bq (no 1) [0] [] (k' := 1) (l' := [(0, sl s ps.length)]) k_ ?_
  refine RN.fin k_ ?_
  refine J.seq ?_
  refine J.block ?_
  refine J.sreg ?_
  refine RN.bq (no 4) [0, 3] [] (k' := 4) (l' := [(0, sl s ps.length), (3, .bool ((((ps.length : Nat) : Int) : Int) == 0))]) k_ ?_
  refine RN.fin k_ ?_
  refine J.cond ((((ps.length : Nat) : Int) : Int) == 0) k_ (fun c2 => ?_) (fun c2 => ?_)
  · skip
    replace c2 := eq_of_beq c2
    refine J.sreg ?_
    refine RN.bq (no 1) [2] [] (k' := 1) (l' := [(2, .int .i64 10)]) k_ ?_
    refine RN.fin k_ ?_
    have e_1 : (sizeE ps.length : Int) = (10 : Int) := by unfold sizeE; first | (rw [if_pos (by omega)]; done) | (rw [if_neg (by omega), if_pos (by omega)]; done) | (rw [if_neg (by omega), if_neg (by omega)])
    refine J.ret (KR.blk (KR.next (KR.ret (v := .int .i64 10) (()) [none] [] [] k_ v1_ (trivial) v1_)))
  · skip
    replace c2 := ne_of_beq_false c2
    refine J.sreg ?_
    refine RN.bq (no 4) [7] [] (k' := 4) (l' := [(7, .bool (decide (((ps.length : Nat) : Int) > 1024)))]) k_ ?_
    refine RN.fin k_ ?_
    refine J.cond (decide (((ps.length : Nat) : Int) > 1024)) k_ (fun c3 => ?_) (fun c3 => ?_)
    · skip
      replace c3 := of_decide_eq_true c3
      refine J.sreg ?_
      refine RN.bq (no 1) [2] [] (k' := 1) (l' := [(2, .int .i64 2)]) k_ ?_
      refine RN.fin k_ ?_
      have e_1 : (sizeE ps.length : Int) = (2 : Int) := by unfold sizeE; first | (rw [if_pos (by omega)]; done) | (rw [if_neg (by omega), if_pos (by omega)]; done) | (rw [if_neg (by omega), if_neg (by omega)])
      refine J.ret (KR.blk (KR.next (KR.ret (v := .int .i64 2) (()) [none] [] [] k_ v1_ (trivial) v1_)))
    · skip
      replace c3 := of_decide_eq_false c3
      refine J.skip ?_
      refine KN.blk ?_
      refine KN.next ?_
      refine J.sreg ?_
      refine RN.bq (no 1) [2] [] (k' := 1) (l' := [(2, .int .i64 0)]) k_ ?_
      refine RN.fin k_ ?_
      have e_1 : (sizeE ps.length : Int) = (0 : Int) := by unfold sizeE; first | (rw [if_pos (by omega)]; done) | (rw [if_neg (by omega), if_pos (by omega)]; done) | (rw [if_neg (by omega), if_neg (by omega)])
      refine J.ret (KR.ret (v := .int .i64 0) (()) [none] [] [] k_ v1_ (trivial) v1_)
def sumTo (f : Rat → Rat) (ps : List PR) (k : Nat) : Rat := sumN (fun i => f (vals ps i)) k
theorem Q_rho {k : Nat} {u : Rat} (h : Q k u) : Q (3 * k + 9) (rhoQ u) := by
  unfold rhoQ
  split
  · exact Q0.le (by omega)
  · split
    · exact Q1.le (by omega)
    · have h1 := Q1.sub h
      exact (Q1.sub (h1.mul (h1.mul h1))).le (by omega)
theorem Q.div {k l : Nat} {p q : Rat} (hp : Q k p) (hq : Q l q) : Q (k + l + 1) (p / q) := by
  rw [← div_parts]
  obtain ⟨a, b⟩ := Q_iff.1 hp
  obtain ⟨c, d⟩ := Q_iff.1 hq
  by_cases h0 : q.num = 0
  · have : ((q.num * (p.den : Int) : Int) : Rat) = 0 := by rw [h0, Int.zero_mul]; rfl
    rw [this, Rat.div_def, Rat.inv_zero, Rat.mul_zero]
    exact Q0.le (by omega)
  · have hn : p.num * (q.den : Int) = p.num * (q.den : Int) := rfl
    have e1 : (p.num * (q.den : Int)).natAbs < W ^ (k + l + 1) := by
      rw [Int.natAbs_mul, Int.natAbs_natCast]
      exact Nat.lt_of_lt_of_le (mul_lt_pow a d) (Nat.pow_le_pow_right (by decide) (by omega))
    have e2 : (q.num * (p.den : Int)).natAbs < W ^ (k + l + 1) := by
      rw [Int.natAbs_mul, Int.natAbs_natCast, Nat.mul_comm]
      exact Nat.lt_of_lt_of_le (mul_lt_pow b c) (Nat.pow_le_pow_right (by decide) (by omega))
    have hd : (q.num * (p.den : Int)) ≠ 0 := Int.mul_ne_zero h0 (by have := p.den_nz; omega)
    rcases Int.lt_trichotomy (q.num * (p.den : Int)) 0 with h | h | h
    · rw [← mk_neg h]
      exact Q_mk (by omega) (by rw [Int.natAbs_neg]; exact e1) e2
    · exact absurd h hd
    · rw [← mk_pos h]
      exact Q_mk (by omega) e1 e2
theorem RQ.le {a b : Nat} {r : Raw} (h : RQ a r) (hab : a ≤ b) : RQ b r := ⟨h.1, h.2.1, Nat.le_trans h.2.2.1 hab, Nat.le_trans h.2.2.2.1 hab, h.2.2.2.2.le hab⟩
theorem Q_int {v : Int} (h : v.natAbs < 18446744073709551616) : Q 2 (v : Rat) := ⟨u64_len.2 h, by show (toL 1).length ≤ 2; rw [toL_1]; decide⟩
theorem Q_term {c s2 x : Rat} (hc : Q 64 c) (hs : Q 65536 s2) (hx : Q 64 x) : Q 128 (x * x) ∧ Q 65600 (c * s2) ∧ Q 65729 (x * x / (c * s2)) ∧ Q 197196 (meanT c s2 x) := by
  have h1 : Q 128 (x * x) := hx.mul hx
  have h2 : Q 65600 (c * s2) := hc.mul hs
  have h3 : Q 65729 (x * x / (c * s2)) := h1.div h2
  exact ⟨h1, h2, h3, Q_rho h3⟩
theorem y_m19_mean {p : Prop} (h : p := by first | assumption | exact Lb_toL _ | omega | (simp; done) | first | exact Q.le hc (by decide) | exact Q.le hs (by decide) | exact Q.le hx1 (by decide) | exact Q.le hx2 (by decide) | exact Q.le hx3 (by decide) | exact Q.le hx4 (by decide) | exact Q.le (Q_int (by omega)) (by decide) | exact Q.le (hc.mul hs) (by decide)) : p := h
theorem m19_mean (s : SA) (ps : List PR) (p : RA) (c : Raw) (u : RA) (t : Raw) (hps : ∀ i, i < ps.length → RQ 64 (ps.getD i pr0).2) (hcR : RQ 268435456 c) (htR : RQ 268435456 t) (hc : Q 64 (qv c)) (hs : Q 65536 (qv t)) (hn : ps.length ≤ 1024) : Spec Tryz.prog 42 #[sl s ps.length, ratV p c, ratV u t] [fRats s ps, fRat p c, fRat u t] (ι := RA) (fun y => ratV y (encQ (sumTo (meanT (qv c) (qv t)) ps ps.length / ((((ps.length : Nat) : Int)) : Rat)))) (fun y => True) (fun y => [fRat y (encQ (sumTo (meanT (qv c) (qv t)) ps ps.length / ((((ps.length : Nat) : Int)) : Rat)))]) := by
  refine Spec.of_body _ (fn := Tryz.f42) k_ rfl k_ (fun X w0 => ?_)
  refine J.fact (φ := ps.length ≤ 140737488355328) (fun w h => by have := (h _ (.head _)).1; omega) (fun hl1 => ?_)
  refine J.fact (φ := c.mag.length ≤ 140737488355328 ∧ c.den.length ≤ 140737488355328) (fun w h => by have h1 := (h _ (.tail _ ((.head _)))).1.1; have h2 := (h _ (.tail _ ((.head _)))).2.1; omega) (fun hl2 => ?_)
  refine J.fact (φ := t.mag.length ≤ 140737488355328 ∧ t.den.length ≤ 140737488355328) (fun w h => by have h1 := (h _ (.tail _ ((.tail _ ((.head _)))))).1.1; have h2 := (h _ (.tail _ ((.tail _ ((.head _)))))).2.1; omega) (fun hl3 => ?_)
  refine J.sreg ?_
  refine RN.new (fun b => pt b) (.cells (ratC p c) 27 (0, 0)) k_ k_ (fun w => by kernel_rfl) (fun b4 => ?_)
  refine RN.new (fun b => pt b) (.cells (ratC u t) 27 (0, 0)) k_ k_ (fun w => by kernel_rfl) (fun b5 => ?_)
  refine RN.new (fun b => pt b) (.cells (ratC (⟨saNil, saNil⟩ : RA) (⟨false, ([] : List Nat), ([] : List Nat)⟩ : Raw)) 27 (0, 0)) k_ k_ (fun w => by kernel_rfl) (fun b6 => ?_)
  refine RN.fin k_ ?_
  refine J.sreg ?_
  refine RN.new (fun b => pt b) (.cells (ratC (⟨saNil, saNil⟩ : RA) (⟨false, ([] : List Nat), ([] : List Nat)⟩ : Raw)) 27 (0, 0)) k_ k_ (fun w => by kernel_rfl) (fun b7 => ?_)
  refine RN.fin k_ ?_
  refine J.sreg ?_
  refine RN.bq [some 3, some 2] [0, 6, 7, 11, 12] [b5, b5, b5, b4, b4, b4] (k' := 2) (l' := [(0, sl s ps.length), (6, pt b6), (7, pt b7), (11, ratV p c), (12, ratV u t)]) k_ ?_
  refine RN.call (rational_Mul p c u t y_m19_mean y_m19_mean) [1, 2] k_ k_ k_ rfl (fun y8 _ => ?_)
  refine RN.new (fun b => pt b) (.cells (ratC (⟨saNil, saNil⟩ : RA) (⟨false, ([] : List Nat), ([] : List Nat)⟩ : Raw)) 27 (0, 0)) k_ k_ (fun w => by kernel_rfl) (fun b9 => ?_)
  refine RN.bat [some 0] [0, 6, 7, 8] [b9, b9, b9] (k' := 5) (l' := [(0, sl s ps.length), (6, pt b6), (7, pt b7), (8, pt b9)]) (M' := [(b9, .cells (ratC y8 (encQ ((qv c) * (qv t)))) 27 (0, 0)), (b7, .cells (ratC (⟨saNil, saNil⟩ : RA) (⟨false, ([] : List Nat), ([] : List Nat)⟩ : Raw)) 27 (0, 0)), (b6, .cells (ratC (⟨saNil, saNil⟩ : RA) (⟨false, ([] : List Nat), ([] : List Nat)⟩ : Raw)) 27 (0, 0)), (b5, .cells (ratC u t) 27 (0, 0)), (b4, .cells (ratC p c) 27 (0, 0))]) k_ ?_
  refine RN.fin k_ ?_
  refine J.seq ?_
  refine J.sreg ?_
  refine RN.bq (no 3) [0, 6, 7, 8, 14, 15, 16] [] (k' := 3) (l' := [(0, sl s ps.length), (6, pt b6), (7, pt b7), (8, pt b9), (14, sl s ps.length), (15, .int .i64 ((ps.length : Nat) : Int)), (16, .int .i64 0)]) k_ ?_
  refine RN.fin k_ ?_
  refine J.block ?_
  refine J.also (fRat (⟨saNil, saNil⟩ : RA) (encQ 0)) (fun w h => fRat_zero w) ?_
  refine J.loop (ι := (Nat) × (RA) × (Rat)) (fun x => x.1 ≤ ps.length ∧ x.2.2 = sumTo (meanT (qv c) (qv t)) ps x.1 ∧ Q (197198 * x.1 + 1) x.2.2) (fun x => ps.length - x.1) (fun x => [(0, sl s ps.length), (6, pt b6), (7, pt b7), (8, pt b9), (14, sl s ps.length), (15, .int .i64 ((ps.length : Nat) : Int)), (16, .int .i64 ((x.1 : Nat) : Int))]) (fun x => [(b9, .cells (ratC y8 (encQ ((qv c) * (qv t)))) 27 (0, 0)), (b7, .cells (ratC x.2.1 (encQ x.2.2)) 27 (0, 0)), (b6, .cells (ratC (⟨saNil, saNil⟩ : RA) (⟨false, ([] : List Nat), ([] : List Nat)⟩ : Raw)) 27 (0, 0)), (b5, .cells (ratC u t) 27 (0, 0)), (b4, .cells (ratC p c) 27 (0, 0))]) (fun x => [fRat x.2.1 (encQ x.2.2), fRat y8 (encQ ((qv c) * (qv t))), fRats s ps, fRat p c, fRat u t]) (0, (⟨saNil, saNil⟩ : RA), 0) [0, 6, 7, 8, 14, 15, 16] [0, 1, 2, 3, 4] (⟨Nat.zero_le _, rfl, Q0⟩) k_ (by first | rfl | (simp only [encQ_zero]; done) | (simp only [encQ_zero]; rfl)) (by rfl) (fun x10 hI => ?_)
  obtain ⟨i, so, S⟩ := x10
  replace hI : i ≤ ps.length ∧ S = sumTo (meanT (qv c) (qv t)) ps i ∧ Q (197198 * i + 1) S := hI
  obtain ⟨hI1, hI2, hI3⟩ := hI
  have hSL := hI3.le (by omega : 197198 * i + 1 ≤ 268435456)
  refine J.sreg ?_
  refine RN.bq (no 1) [0, 6, 7, 8, 14, 15, 16, 17] [] (k' := 1) (l' := [(0, sl s ps.length), (6, pt b6), (7, pt b7), (8, pt b9), (14, sl s ps.length), (15, .int .i64 ((ps.length : Nat) : Int)), (16, .int .i64 ((i : Nat) : Int)), (17, .bool (decide (((i : Nat) : Int) < ((ps.length : Nat) : Int))))]) k_ ?_
  refine RN.fin k_ ?_
  refine J.seq ?_
  refine J.cond (decide (((i : Nat) : Int) < ((ps.length : Nat) : Int))) k_ (fun c11 => ?_) (fun c11 => ?_)
  · skip
    replace c11 := of_decide_eq_true c11
    have hxr := hps i (by omega)
    have hxq := hxr.2.2.2.2
    have hxb := hxr.le (by decide : 64 ≤ 268435456)
    obtain ⟨hx1, hx2, hx3, hx4⟩ := Q_term hc hs hxq
    refine J.skip ?_
    refine KN.next ?_
    refine J.seq ?_
    refine J.block ?_
    refine J.sreg ?_
    refine RN.val _ k_ k_ (q_ridx (t := 22) (x := (.tmp 14)) (ix := (.tmp 16)) (K := .i64) (i0 := ((i : Nat) : Int)) (m := i) (e := 27) 2 rfl k_ k_ k_ k_ k_ (by omega) x_) ?_
    refine RN.val _ k_ k_ (q_rload (T := 27) (x := (.tmp 18)) (m := i) (s := s) (ps := ps) 2 rfl k_ k_ k_ k_ x_) ?_
    refine RN.also (fRat ((ps.getD i pr0).1) ((ps.getD i pr0).2)) (fun w h => rat_of (h _ (.tail _ ((.tail _ ((.head _)))))) x_) ?_
    refine RN.new (fun b => pt b) (.cells (ratC (⟨saNil, saNil⟩ : RA) (⟨false, ([] : List Nat), ([] : List Nat)⟩ : Raw)) 27 (0, 0)) k_ k_ (fun w => by kernel_rfl) (fun b12 => ?_)
    refine RN.bat [some 0] [0, 6, 7, 8, 10, 14, 15, 16] [b12, b12, b12] (k' := 4) (l' := [(0, sl s ps.length), (6, pt b6), (7, pt b7), (8, pt b9), (10, pt b12), (14, sl s ps.length), (15, .int .i64 ((ps.length : Nat) : Int)), (16, .int .i64 ((i : Nat) : Int))]) (M' := [(b12, .cells (ratC ((ps.getD i pr0).1) ((ps.getD i pr0).2)) 27 (0, 0)), (b9, .cells (ratC y8 (encQ ((qv c) * (qv t)))) 27 (0, 0)), (b7, .cells (ratC so (encQ S)) 27 (0, 0)), (b6, .cells (ratC (⟨saNil, saNil⟩ : RA) (⟨false, ([] : List Nat), ([] : List Nat)⟩ : Raw)) 27 (0, 0)), (b5, .cells (ratC u t) 27 (0, 0)), (b4, .cells (ratC p c) 27 (0, 0))]) k_ ?_
    refine RN.fin k_ ?_
    refine J.regD k_ [8] ?_
    refine RD.bat k_ [(0, some 2), (1, some 0), (2, some 0), (4, some 1)] [0, 6, 7, 8, 14, 15, 16, 20, 21, 22, 24] [b9, b9, b9, b12, b12, b12, b12, b12, b12, b7, b7, b7] (L' := [4, 2, 1, 0]) (l' := [(0, sl s ps.length), (6, pt b6), (7, pt b7), (8, pt b9), (14, sl s ps.length), (15, .int .i64 ((ps.length : Nat) : Int)), (16, .int .i64 ((i : Nat) : Int)), (20, ratV so (encQ S)), (21, ratV ((ps.getD i pr0).1) ((ps.getD i pr0).2)), (22, ratV ((ps.getD i pr0).1) ((ps.getD i pr0).2)), (24, ratV y8 (encQ ((qv c) * (qv t))))]) k_ ?_
    refine RD.call (i := 3) (rational_Mul ((ps.getD i pr0).1) ((ps.getD i pr0).2) ((ps.getD i pr0).1) ((ps.getD i pr0).2) y_m19_mean y_m19_mean) [0, 0] k_ k_ k_ k_ k_ rfl (fun y13 _ => ?_)
    refine RD.call (i := 5) (m19_quotient_c y13 ((qv ((ps.getD i pr0).2)) * (qv ((ps.getD i pr0).2))) y8 ((qv c) * (qv t)) y_m19_mean y_m19_mean) [0, 3] k_ k_ k_ k_ k_ rfl (fun y14 _ => ?_)
    refine RD.call (i := 6) (m19_Rho_c y14 (((qv ((ps.getD i pr0).2)) * (qv ((ps.getD i pr0).2))) / ((qv c) * (qv t))) y_m19_mean y_m19_mean) [0] k_ k_ k_ k_ k_ rfl (fun y15 _ => ?_)
    refine RD.call (i := 7) (rational_Add_c so S y15 (rhoQ (((qv ((ps.getD i pr0).2)) * (qv ((ps.getD i pr0).2))) / ((qv c) * (qv t)))) y_m19_mean y_m19_mean) [4, 0] k_ k_ k_ k_ k_ rfl (fun y16 _ => ?_)
    refine RD.last (i := 8) (some 2) [0, 6, 7, 8, 14, 15, 16] [b7, b7, b7] k_ k_ k_ (l' := [(0, sl s ps.length), (6, pt b6), (7, pt b7), (8, pt b9), (14, sl s ps.length), (15, .int .i64 ((ps.length : Nat) : Int)), (16, .int .i64 ((i : Nat) : Int))]) (M' := [(b12, .cells (ratC ((ps.getD i pr0).1) ((ps.getD i pr0).2)) 27 (0, 0)), (b9, .cells (ratC y8 (encQ ((qv c) * (qv t)))) 27 (0, 0)), (b7, .cells (ratC y16 (encQ (S + (rhoQ (((qv ((ps.getD i pr0).2)) * (qv ((ps.getD i pr0).2))) / ((qv c) * (qv t))))))) 27 (0, 0)), (b6, .cells (ratC (⟨saNil, saNil⟩ : RA) (⟨false, ([] : List Nat), ([] : List Nat)⟩ : Raw)) 27 (0, 0)), (b5, .cells (ratC u t) 27 (0, 0)), (b4, .cells (ratC p c) 27 (0, 0))]) k_ ?_
    refine RD.done k_ ?_
    refine KN.blk ?_
    refine KN.next ?_
    refine J.regN ?_
    refine RN.bq (no 1) [0, 6, 7, 8, 14, 15, 28] [] (k' := 1) (l' := [(0, sl s ps.length), (6, pt b6), (7, pt b7), (8, pt b9), (14, sl s ps.length), (15, .int .i64 ((ps.length : Nat) : Int)), (28, .int .i64 (IntKind.i64.wrap (((i : Nat) : Int) + 1)))]) k_ ?_
    rw [show IntKind.i64.wrap (((i : Nat) : Int) + 1) = ((i + 1 : Nat) : Int) from by rw [IntKind.wrap_i64]; omega]
    refine RN.bq (no 1) [0, 6, 7, 8, 14, 15, 16] [] (k' := 2) (l' := [(0, sl s ps.length), (6, pt b6), (7, pt b7), (8, pt b9), (14, sl s ps.length), (15, .int .i64 ((ps.length : Nat) : Int)), (16, .int .i64 ((i + 1 : Nat) : Int))]) k_ ?_
    refine RN.done k_ ?_
    refine KN.dropF 1 ?_
    refine KN.roundE (i + 1, y16, S + (rhoQ (((qv ((ps.getD i pr0).2)) * (qv ((ps.getD i pr0).2))) / ((qv c) * (qv t))))) [0, 6, 7, 8, 14, 15, 16] [0, 6, 7, 8, 9] (l2 := [(0, sl s ps.length), (6, pt b6), (7, pt b7), (8, pt b9), (14, sl s ps.length), (15, .int .i64 ((ps.length : Nat) : Int)), (16, .int .i64 ((i + 1 : Nat) : Int))]) (by (try dsimp only); omega) (by (try dsimp only); exact ⟨by omega, by rw [hI2]; rfl, (hI3.add hx4).le (by omega)⟩) k_ (by rfl) (by rfl) (by rfl)
  · skip
    replace c11 := of_decide_eq_false c11
    have hi : i = ps.length := by omega
    subst hi
    refine J.exit (KX.next (KX.next (KX.hit ?_)))
    refine KN.next ?_
    refine J.seq ?_
    refine J.regD k_ [5] ?_
    refine RD.bat k_ [(0, some 1), (1, none), (2, none)] [6, 29, 31] [b7, b7, b7] (L' := [2, 1, 0]) (l' := [(6, pt b6), (29, ratV so (encQ S)), (31, .int .i64 ((ps.length : Nat) : Int))]) k_ ?_
    refine RD.call (i := 3) (rational_FromInt ((ps.length : Nat) : Int) y_m19_mean y_m19_mean) [] k_ k_ k_ k_ k_ rfl (fun y17 _ => ?_)
    refine RD.call (i := 4) (m19_quotient_c so S y17 ((((ps.length : Nat) : Int) : Int) : Rat) y_m19_mean y_m19_mean) [1, 0] k_ k_ k_ k_ k_ rfl (fun y18 _ => ?_)
    refine RD.last (i := 5) (some 2) [6] [b6, b6, b6] k_ k_ k_ (l' := [(6, pt b6)]) (M' := [(b9, .cells (ratC y8 (encQ ((qv c) * (qv t)))) 27 (0, 0)), (b7, .cells (ratC so (encQ S)) 27 (0, 0)), (b6, .cells (ratC y18 (encQ (S / ((((ps.length : Nat) : Int) : Int) : Rat)))) 27 (0, 0)), (b5, .cells (ratC u t) 27 (0, 0)), (b4, .cells (ratC p c) 27 (0, 0))]) k_ ?_
    refine RD.done k_ ?_
    refine KN.next ?_
    have e_1 : (encQ (sumTo (meanT (qv c) (qv t)) ps ps.length / ((((ps.length : Nat) : Int)) : Rat))) = (encQ (S / ((((ps.length : Nat) : Int) : Int) : Rat))) := by rw [← hI2]
    refine J.ret (KR.ret (v := ratV y18 (encQ (S / ((((ps.length : Nat) : Int) : Int) : Rat)))) (y18) [some 2] [0] [b6, b6, b6] k_ v1_ (trivial) v1_)
theorem m19_mean_c2 (s : SA) (ps : List PR) (p : RA) (c : Raw) (u : RA) (t' : Rat) (hps : ∀ i, i < ps.length → RQ 64 (ps.getD i pr0).2) (hcR : RQ 268435456 c) (htR : Q 268435456 t') (hc : Q 64 (qv c)) (hs : Q 65536 t') (hn : ps.length ≤ 1024) : Spec Tryz.prog 42 #[sl s ps.length, ratV p c, ratV u (encQ t')] [fRats s ps, fRat p c, fRat u (encQ t')] (ι := RA) (fun y => ratV y (encQ (sumTo (meanT (qv c) t') ps ps.length / ((((ps.length : Nat) : Int)) : Rat)))) (fun y => True) (fun y => [fRat y (encQ (sumTo (meanT (qv c) t') ps ps.length / ((((ps.length : Nat) : Int)) : Rat)))]) := by
  have H := m19_mean s ps p c u (encQ t') (by first | exact hps | simpa only [qv_encQ] using hps) (by first | exact hcR | simpa only [qv_encQ] using hcR) (RQ_enc htR) (by first | exact hc | simpa only [qv_encQ] using hc) (by first | exact hs | simpa only [qv_encQ] using hs) (by first | exact hn | simpa only [qv_encQ] using hn)
  first | exact H | (simp only [qv_encQ, validQ_encQ] at H; exact H)
def meanE (n : Nat) (c s : Rat) : Int := if sizeE n ≠ 0 then sizeE n else if 0 < c ∧ 0 < s then 0 else 1
def meanV (ps : List PR) (c s : Rat) : Rat := if meanE ps.length c s = 0 then sumTo (meanT c s) ps ps.length / ((((ps.length : Nat) : Int)) : Rat) else 0
theorem sizeE_0 {n : Nat} (h : sizeE n = 0) : 0 < n ∧ n ≤ 1024 := by
  unfold sizeE at h
  split at h
  · omega
  · split at h <;> omega
theorem meanE_size {n : Nat} {c s : Rat} (h : sizeE n ≠ 0) : meanE n c s = sizeE n := if_pos h
theorem meanE_bad {n : Nat} {c s : Rat} (h : sizeE n = 0) (h2 : ¬ (0 < c ∧ 0 < s)) : meanE n c s = 1 := by unfold meanE; rw [if_neg (by omega), if_neg h2]
theorem meanE_ok {n : Nat} {c s : Rat} (h : sizeE n = 0) (h1 : 0 < c) (h2 : 0 < s) : meanE n c s = 0 := by unfold meanE; rw [if_neg (by omega), if_pos ⟨h1, h2⟩]
theorem meanV_bad {ps : List PR} {c s : Rat} (h : meanE ps.length c s ≠ 0) : encQ (meanV ps c s) = ⟨false, [], []⟩ := by unfold meanV; rw [if_neg h, encQ_zero]
theorem meanV_ok {ps : List PR} {c s : Rat} (h : meanE ps.length c s = 0) : meanV ps c s = sumTo (meanT c s) ps ps.length / ((((ps.length : Nat) : Int)) : Rat) := if_pos h
theorem m19_Mean (s : SA) (ps : List PR) (p : RA) (c : Raw) (u : RA) (t : Raw) (hcR : RQ 268435456 c) (htR : RQ 268435456 t) (hps : ∀ i, i < ps.length → RQ 64 (ps.getD i pr0).2) (hc : Q 64 (qv c)) (hs : Q 65536 (qv t)) : Spec Tryz.prog 13 #[sl s ps.length, ratV p c, ratV u t] [fRats s ps, fRat p c, fRat u t] (ι := RA) (fun y => .tuple #[ratV y (encQ (meanV ps (qv c) (qv t))), .int .i64 (meanE ps.length (qv c) (qv t))]) (fun y => True) (fun y => [fRat y (encQ (meanV ps (qv c) (qv t)))]) := by
  refine Spec.of_body _ (fn := Tryz.f13) k_ rfl k_ (fun X w0 => ?_)
  refine J.fact (φ := ps.length ≤ 140737488355328) (fun w h => by have := (h _ (.head _)).1; omega) (fun hl1 => ?_)
  refine J.fact (φ := c.mag.length ≤ 140737488355328 ∧ c.den.length ≤ 140737488355328) (fun w h => by have h1 := (h _ (.tail _ ((.head _)))).1.1; have h2 := (h _ (.tail _ ((.head _)))).2.1; omega) (fun hl2 => ?_)
  refine J.fact (φ := t.mag.length ≤ 140737488355328 ∧ t.den.length ≤ 140737488355328) (fun w h => by have h1 := (h _ (.tail _ ((.tail _ ((.head _)))))).1.1; have h2 := (h _ (.tail _ ((.tail _ ((.head _)))))).2.1; omega) (fun hl3 => ?_)
  refine J.sreg ?_
  refine RN.new (fun b => pt b) (.cells (ratC p c) 27 (0, 0)) k_ k_ (fun w => by kernel_rfl) (fun b4 => ?_)
  refine RN.new (fun b => pt b) (.cells (ratC u t) 27 (0, 0)) k_ k_ (fun w => by kernel_rfl) (fun b5 => ?_)
  refine RN.new (fun b => pt b) (.cells (ratC (⟨saNil, saNil⟩ : RA) (⟨false, ([] : List Nat), ([] : List Nat)⟩ : Raw)) 27 (0, 0)) k_ k_ (fun w => by kernel_rfl) (fun b6 => ?_)
  refine RN.bq (no 1) [0, 4, 5, 6] [] (k' := 4) (l' := [(0, sl s ps.length), (4, pt b4), (5, pt b5), (6, pt b6)]) k_ ?_
  refine RN.fin k_ ?_
  refine J.seq ?_
  refine J.sreg ?_
  refine RN.bq (no 1) [0, 4, 5, 6, 9] [] (k' := 1) (l' := [(0, sl s ps.length), (4, pt b4), (5, pt b5), (6, pt b6), (9, sl s ps.length)]) k_ ?_
  refine RN.call (m19_size s ps) [0] k_ k_ k_ rfl (fun y7 _ => ?_)
  refine RN.bq (no 1) [0, 4, 5, 6, 8] [] (k' := 3) (l' := [(0, sl s ps.length), (4, pt b4), (5, pt b5), (6, pt b6), (8, .int .i64 (sizeE ps.length))]) k_ ?_
  refine RN.fin k_ ?_
  refine J.sreg ?_
  refine RN.bq (no 2) [0, 4, 5, 6, 8, 12] [] (k' := 2) (l' := [(0, sl s ps.length), (4, pt b4), (5, pt b5), (6, pt b6), (8, .int .i64 (sizeE ps.length)), (12, .bool (((sizeE ps.length) : Int) != 0))]) k_ ?_
  refine RN.fin k_ ?_
  refine J.cond (((sizeE ps.length) : Int) != 0) k_ (fun c8 => ?_) (fun c8 => ?_)
  · skip
    replace c8 := bne_iff_ne.1 c8
    have h0 : sizeE ps.length ≠ 0 := by simpa using c8
    refine J.sreg ?_
    refine RN.bat [none, none, some 0, none] [6, 7] [b6, b6, b6] (k' := 4) (l' := [(6, pt b6), (7, .int .i64 (sizeE ps.length))]) (M' := [(b6, .cells (ratC (⟨saNil, saNil⟩ : RA) (⟨false, ([] : List Nat), ([] : List Nat)⟩ : Raw)) 27 (0, 0)), (b5, .cells (ratC u t) 27 (0, 0)), (b4, .cells (ratC p c) 27 (0, 0))]) k_ ?_
    refine RN.fin k_ ?_
    have e_1 : (encQ (meanV ps (qv c) (qv t))) = (⟨false, ([] : List Nat), ([] : List Nat)⟩ : Raw) := by first | exact meanV_bad (by rw [meanE_size h0]; exact h0) | exact meanE_size h0 | exact meanV_bad (by rw [hE]; decide) | exact hE | (rw [meanV_ok hE])
    have e_2 : (toL (((meanV ps (qv c) (qv t)).num).natAbs)) = ([] : List Nat) := congrArg Raw.mag e_1
    have e_3 : (toD ((meanV ps (qv c) (qv t)).den)) = ([] : List Nat) := congrArg Raw.den e_1
    have e_4 : (meanE ps.length (qv c) (qv t) : Int) = (sizeE ps.length : Int) := by first | exact meanV_bad (by rw [meanE_size h0]; exact h0) | exact meanE_size h0 | exact meanV_bad (by rw [hE]; decide) | exact hE | (rw [meanV_ok hE])
    refine J.also (fRat (⟨saNil, saNil⟩ : RA) (⟨false, ([] : List Nat), ([] : List Nat)⟩ : Raw)) (fun w h => ⟨fU_nil w, fU_nil w⟩) ?_
    refine J.ret (KR.next (KR.ret (v := .tuple #[ratV (⟨saNil, saNil⟩ : RA) (⟨false, ([] : List Nat), ([] : List Nat)⟩ : Raw), .int .i64 (sizeE ps.length)]) (⟨saNil, saNil⟩) [some 0, none] [0] [b6, b6, b6] k_ (by first | rfl | (rw [e_1, e_4]; done) | (simp only [e_1, e_4]; done) | (rw [e_2, e_3]; done) | (rw [e_1, e_2, e_3, e_4]; rfl) | (simp only [e_1, e_2, e_3, e_4]; done) | (simp only [e_1, e_2, e_3, e_4]; rfl)) (trivial) (by first | rfl | (rw [e_1, e_4]; done) | (simp only [e_1, e_4]; done) | (rw [e_2, e_3]; done) | (rw [e_1, e_2, e_3, e_4]; rfl) | (simp only [e_1, e_2, e_3, e_4]; done) | (simp only [e_1, e_2, e_3, e_4]; rfl))))
  · skip
    replace c8 := bne_eq_false_iff_eq.1 c8
    have h0 : sizeE ps.length = 0 := by simpa using c8
    have hn := (sizeE_0 h0).2
    refine J.skip ?_
    refine KN.next ?_
    refine J.seq ?_
    refine J.sreg ?_
    refine RN.bq [some 2] [0, 4, 5, 6, 15] [b4, b4, b4] (k' := 1) (l' := [(0, sl s ps.length), (4, pt b4), (5, pt b5), (6, pt b6), (15, ratV p c)]) k_ ?_
    refine RN.call (m19_positive p c y_) [1] k_ k_ k_ rfl (fun y9 _ => ?_)
    refine RN.bq (no 2) [0, 4, 5, 6, 18] [] (k' := 4) (l' := [(0, sl s ps.length), (4, pt b4), (5, pt b5), (6, pt b6), (18, .bool (!(decide (0 < (qv c)))))]) k_ ?_
    refine RN.split 18 (!(decide (0 < (qv c)))) k_ (fun c10 => ?_) (fun c10 => ?_)
    · skip
      replace c10 := of_decide_eq_false ((Bool.not_eq_true' _).mp c10)
      have h1 : ¬ 0 < (qv c) := by simpa using c10
      have hE := meanE_bad (s := qv t) h0 (fun h => h1 h.1)
      refine RN.bq (no 4) [0, 4, 5, 6, 22] [] (k' := 8) (l' := [(0, sl s ps.length), (4, pt b4), (5, pt b5), (6, pt b6), (22, .bool true)]) k_ ?_
      refine RN.fin k_ ?_
      refine J.condT k_ ?_
      refine J.sreg ?_
      refine RN.bat [none, some 0, none] [6, 7] [b6, b6, b6] (k' := 3) (l' := [(6, pt b6), (7, .int .i64 1)]) (M' := [(b6, .cells (ratC (⟨saNil, saNil⟩ : RA) (⟨false, ([] : List Nat), ([] : List Nat)⟩ : Raw)) 27 (0, 0)), (b5, .cells (ratC u t) 27 (0, 0)), (b4, .cells (ratC p c) 27 (0, 0))]) k_ ?_
      refine RN.fin k_ ?_
      have e_1 : (encQ (meanV ps (qv c) (qv t))) = (⟨false, ([] : List Nat), ([] : List Nat)⟩ : Raw) := by first | exact meanV_bad (by rw [meanE_size h0]; exact h0) | exact meanE_size h0 | exact meanV_bad (by rw [hE]; decide) | exact hE | (rw [meanV_ok hE])
      have e_2 : (toL (((meanV ps (qv c) (qv t)).num).natAbs)) = ([] : List Nat) := congrArg Raw.mag e_1
      have e_3 : (toD ((meanV ps (qv c) (qv t)).den)) = ([] : List Nat) := congrArg Raw.den e_1
      have e_4 : (meanE ps.length (qv c) (qv t) : Int) = (1 : Int) := by first | exact meanV_bad (by rw [meanE_size h0]; exact h0) | exact meanE_size h0 | exact meanV_bad (by rw [hE]; decide) | exact hE | (rw [meanV_ok hE])
      refine J.also (fRat (⟨saNil, saNil⟩ : RA) (⟨false, ([] : List Nat), ([] : List Nat)⟩ : Raw)) (fun w h => ⟨fU_nil w, fU_nil w⟩) ?_
      refine J.ret (KR.next (KR.ret (v := .tuple #[ratV (⟨saNil, saNil⟩ : RA) (⟨false, ([] : List Nat), ([] : List Nat)⟩ : Raw), .int .i64 1]) (⟨saNil, saNil⟩) [some 0, none] [0] [b6, b6, b6] k_ (by first | rfl | (rw [e_1, e_4]; done) | (simp only [e_1, e_4]; done) | (rw [e_2, e_3]; done) | (rw [e_1, e_2, e_3, e_4]; rfl) | (simp only [e_1, e_2, e_3, e_4]; done) | (simp only [e_1, e_2, e_3, e_4]; rfl)) (trivial) (by first | rfl | (rw [e_1, e_4]; done) | (simp only [e_1, e_4]; done) | (rw [e_2, e_3]; done) | (rw [e_1, e_2, e_3, e_4]; rfl) | (simp only [e_1, e_2, e_3, e_4]; done) | (simp only [e_1, e_2, e_3, e_4]; rfl))))
    · skip
      replace c10 := of_decide_eq_true ((Bool.not_eq_false' _).mp c10)
      have h1 : 0 < (qv c) := by simpa using c10
      refine RN.bq [some 1] [0, 4, 5, 6, 18, 19] [b5, b5, b5] (k' := 5) (l' := [(0, sl s ps.length), (4, pt b4), (5, pt b5), (6, pt b6), (18, .bool false), (19, ratV u t)]) k_ ?_
      refine RN.call (m19_positive u t y_) [2] k_ k_ k_ rfl (fun y11 _ => ?_)
      refine RN.bq (no 2) [0, 4, 5, 6, 22] [] (k' := 8) (l' := [(0, sl s ps.length), (4, pt b4), (5, pt b5), (6, pt b6), (22, .bool (!(decide (0 < (qv t)))))]) k_ ?_
      refine RN.fin k_ ?_
      refine J.cond (!(decide (0 < (qv t)))) k_ (fun c12 => ?_) (fun c12 => ?_)
      · skip
        replace c12 := of_decide_eq_false ((Bool.not_eq_true' _).mp c12)
        have h2 : ¬ 0 < (qv t) := by simpa using c12
        have hE := meanE_bad (c := qv c) h0 (fun h => h2 h.2)
        refine J.sreg ?_
        refine RN.bat [none, some 0, none] [6, 7] [b6, b6, b6] (k' := 3) (l' := [(6, pt b6), (7, .int .i64 1)]) (M' := [(b6, .cells (ratC (⟨saNil, saNil⟩ : RA) (⟨false, ([] : List Nat), ([] : List Nat)⟩ : Raw)) 27 (0, 0)), (b5, .cells (ratC u t) 27 (0, 0)), (b4, .cells (ratC p c) 27 (0, 0))]) k_ ?_
        refine RN.fin k_ ?_
        have e_1 : (encQ (meanV ps (qv c) (qv t))) = (⟨false, ([] : List Nat), ([] : List Nat)⟩ : Raw) := by first | exact meanV_bad (by rw [meanE_size h0]; exact h0) | exact meanE_size h0 | exact meanV_bad (by rw [hE]; decide) | exact hE | (rw [meanV_ok hE])
        have e_2 : (toL (((meanV ps (qv c) (qv t)).num).natAbs)) = ([] : List Nat) := congrArg Raw.mag e_1
        have e_3 : (toD ((meanV ps (qv c) (qv t)).den)) = ([] : List Nat) := congrArg Raw.den e_1
        have e_4 : (meanE ps.length (qv c) (qv t) : Int) = (1 : Int) := by first | exact meanV_bad (by rw [meanE_size h0]; exact h0) | exact meanE_size h0 | exact meanV_bad (by rw [hE]; decide) | exact hE | (rw [meanV_ok hE])
        refine J.also (fRat (⟨saNil, saNil⟩ : RA) (⟨false, ([] : List Nat), ([] : List Nat)⟩ : Raw)) (fun w h => ⟨fU_nil w, fU_nil w⟩) ?_
        refine J.ret (KR.next (KR.ret (v := .tuple #[ratV (⟨saNil, saNil⟩ : RA) (⟨false, ([] : List Nat), ([] : List Nat)⟩ : Raw), .int .i64 1]) (⟨saNil, saNil⟩) [some 0, none] [0] [b6, b6, b6] k_ (by first | rfl | (rw [e_1, e_4]; done) | (simp only [e_1, e_4]; done) | (rw [e_2, e_3]; done) | (rw [e_1, e_2, e_3, e_4]; rfl) | (simp only [e_1, e_2, e_3, e_4]; done) | (simp only [e_1, e_2, e_3, e_4]; rfl)) (trivial) (by first | rfl | (rw [e_1, e_4]; done) | (simp only [e_1, e_4]; done) | (rw [e_2, e_3]; done) | (rw [e_1, e_2, e_3, e_4]; rfl) | (simp only [e_1, e_2, e_3, e_4]; done) | (simp only [e_1, e_2, e_3, e_4]; rfl))))
      · skip
        replace c12 := of_decide_eq_true ((Bool.not_eq_false' _).mp c12)
        have h2 : 0 < (qv t) := by simpa using c12
        have hE := meanE_ok h0 h1 h2
        refine J.skip ?_
        refine KN.next ?_
        refine J.sreg ?_
        refine RN.bq [none, some 2, some 1] [6, 24, 25, 26] [b5, b5, b5, b4, b4, b4] (k' := 3) (l' := [(6, pt b6), (24, sl s ps.length), (25, ratV p c), (26, ratV u t)]) k_ ?_
        refine RN.call (m19_mean s ps p c u t y_ y_ y_ y_ y_ y_) [0, 1, 2] k_ k_ k_ rfl (fun y13 _ => ?_)
        refine RN.bat [some 0, none] [6, 7] [b6, b6, b6] (k' := 6) (l' := [(6, pt b6), (7, .int .i64 0)]) (M' := [(b6, .cells (ratC y13 (encQ (sumTo (meanT (qv c) (qv t)) ps ps.length / ((((ps.length : Nat) : Int)) : Rat)))) 27 (0, 0)), (b5, .cells (ratC u t) 27 (0, 0)), (b4, .cells (ratC p c) 27 (0, 0))]) k_ ?_
        refine RN.fin k_ ?_
        have e_1 : (encQ (meanV ps (qv c) (qv t))) = (encQ (sumTo (meanT (qv c) (qv t)) ps ps.length / ((((ps.length : Nat) : Int)) : Rat))) := by first | exact meanV_bad (by rw [meanE_size h0]; exact h0) | exact meanE_size h0 | exact meanV_bad (by rw [hE]; decide) | exact hE | (rw [meanV_ok hE])
        have e_2 : (meanE ps.length (qv c) (qv t) : Int) = (0 : Int) := by first | exact meanV_bad (by rw [meanE_size h0]; exact h0) | exact meanE_size h0 | exact meanV_bad (by rw [hE]; decide) | exact hE | (rw [meanV_ok hE])
        refine J.ret (KR.ret (v := .tuple #[ratV y13 (encQ (sumTo (meanT (qv c) (qv t)) ps ps.length / ((((ps.length : Nat) : Int)) : Rat))), .int .i64 0]) (y13) [some 0, none] [0] [b6, b6, b6] k_ v2_ (trivial) v2_)
theorem m19_Mean_c (s : SA) (ps : List PR) (p : RA) (c' : Rat) (u : RA) (t' : Rat) (hcR : Q 268435456 c') (htR : Q 268435456 t') (hps : ∀ i, i < ps.length → RQ 64 (ps.getD i pr0).2) (hc : Q 64 c') (hs : Q 65536 t') : Spec Tryz.prog 13 #[sl s ps.length, ratV p (encQ c'), ratV u (encQ t')] [fRats s ps, fRat p (encQ c'), fRat u (encQ t')] (ι := RA) (fun y => .tuple #[ratV y (encQ (meanV ps c' t')), .int .i64 (meanE ps.length c' t')]) (fun y => True) (fun y => [fRat y (encQ (meanV ps c' t'))]) := by
  have H := m19_Mean s ps p (encQ c') u (encQ t') (RQ_enc hcR) (RQ_enc htR) (by first | exact hps | simpa only [qv_encQ, qv_encQ] using hps) (by first | exact hc | simpa only [qv_encQ, qv_encQ] using hc) (by first | exact hs | simpa only [qv_encQ, qv_encQ] using hs)
  first | exact H | (simp only [qv_encQ, validQ_encQ] at H; exact H)
end Go.Proofs.YtegnonhgildhoaaGreat.E
