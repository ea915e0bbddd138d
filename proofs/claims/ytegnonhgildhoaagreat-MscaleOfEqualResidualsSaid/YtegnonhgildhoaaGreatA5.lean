/- Lemmas and contracts of functions on the way to the law, part 5. -/
import Derived.Test.YtegnonhgildhoaaGreatA4
namespace Go.Proofs.YtegnonhgildhoaaGreat.E
open Go Go.RowKit
set_option linter.unusedVariables false
set_option linter.unusedSimpArgs false
theorem Q1 : Q 1 (1 : Rat) := ⟨by decide +kernel, by decide +kernel⟩
theorem Q0 : Q 1 (0 : Rat) := ⟨by decide +kernel, by decide +kernel⟩
theorem m19_one : Spec Tryz.prog 49 #[] [] (ι := RA) (fun y => ratV y (encQ (1 : Rat))) (fun y => True) (fun y => [fRat y (encQ (1 : Rat))]) := by
 refine Spec.of_body _ (fn := Tryz.f49) k_ rfl k_ (fun X w0 => ?_)
 refine J.sreg ?_
 refine RN.new (fun b => pt b) (.cells (ratC (⟨saNil, saNil⟩ : RA) (⟨false, ([] : List Nat), ([] : List Nat)⟩ : Raw)) 27 (0, 0)) k_ k_ (fun w => by kernel_rfl) (fun b1 => ?_)
 refine RN.fs k_ ?_
 refine RN.call (rational_FromInt 1 y_ y_) [] k_ k_ k_ rfl (fun y2 _ => ?_)
 refine RN.bs [some 0] [0] [b1, b1, b1] 2 [(0, pt b1)] ([(b1, .cells (ratC y2 (encQ ((1 : Int) : Rat))) 27 (0, 0))]) k_ ?_
 refine RN.fin k_ ?_
 have e_1 : (encQ (1 : Rat)) = (encQ ((1 : Int) : Rat)) := by rfl
 refine J.ret (KR.ret (v := ratV y2 (encQ ((1 : Int) : Rat))) (y2) [some 0] [0] [b1, b1, b1] k_ v1_ (trivial) v1_)
theorem sign_gt {q : Rat} : Int.sign q.num > 0 ↔ 0 < q := by
  have h1 := Rat.num_nonneg (q := -q)
  rw [Rat.neg_num] at h1
  have h2 : 0 < q ↔ ¬ 0 ≤ -q := by
    rw [← Rat.not_le]
    constructor
    · intro h h3; exact h (by have := Rat.neg_le_neg h3; simpa using this)
    · intro h h3; exact h (by have := Rat.neg_le_neg h3; simpa using this)
  rw [h2, ← h1]
  constructor
  · intro h h3
    rcases Int.lt_trichotomy q.num 0 with h4 | h4 | h4
    · rw [Int.sign_eq_neg_one_of_neg h4] at h; omega
    · rw [h4] at h; simp at h
    · omega
  · intro h
    rw [Int.sign_eq_one_of_pos (by omega)]; decide
theorem m19_quotient (p : RA) (r : Raw) (u : RA) (t : Raw) (hr : RQ 268435456 r) (ht : RQ 268435456 t) : Spec Tryz.prog 78 #[ratV p r, ratV u t] [fRat p r, fRat u t] (ι := RA) (fun y => ratV y (encQ ((qv r) / (qv t)))) (fun y => True) (fun y => [fRat y (encQ ((qv r) / (qv t)))]) := by
 refine Spec.of_body _ (fn := Tryz.f78) k_ rfl k_ (fun X w0 => ?_)
 refine J.fact (φ := r.mag.length ≤ 140737488355328 ∧ r.den.length ≤ 140737488355328) (fun w h => by have h1 := (h _ (.head _)).1.1; have h2 := (h _ (.head _)).2.1; omega) (fun hl1 => ?_)
 refine J.fact (φ := t.mag.length ≤ 140737488355328 ∧ t.den.length ≤ 140737488355328) (fun w h => by have h1 := (h _ (.tail _ ((.head _)))).1.1; have h2 := (h _ (.tail _ ((.head _)))).2.1; omega) (fun hl2 => ?_)
 refine J.sreg ?_
 refine RN.new (fun b => pt b) (.cells (ratC p r) 27 (0, 0)) k_ k_ (fun w => by kernel_rfl) (fun b3 => ?_)
 refine RN.new (fun b => pt b) (.cells (ratC u t) 27 (0, 0)) k_ k_ (fun w => by kernel_rfl) (fun b4 => ?_)
 refine RN.new (fun b => pt b) (.cells (ratC (⟨saNil, saNil⟩ : RA) (⟨false, ([] : List Nat), ([] : List Nat)⟩ : Raw)) 27 (0, 0)) k_ k_ (fun w => by kernel_rfl) (fun b5 => ?_)
 refine RN.fs k_ ?_
 refine RN.bq [some 2, some 1] [4, 8, 9] [b4, b4, b4, b3, b3, b3] 2 [(4, pt b5), (8, ratV p r), (9, ratV u t)] k_ ?_
 refine RN.call (rational_Div p r u t y_ y_) [0, 1] k_ k_ k_ rfl (fun y6 _ => ?_)
 refine RN.bq (no 3) [4, 11, 12] [] 6 [(4, pt b5), (11, ratV y6 (encQ ((qv r) / (qv t)))), (12, .int .i64 (if (qv t) = 0 then 5 else 0))] k_ ?_
 refine RN.new (fun b => pt b) (.cells (ratC (⟨saNil, saNil⟩ : RA) (⟨false, ([] : List Nat), ([] : List Nat)⟩ : Raw)) 27 (0, 0)) k_ k_ (fun w => by kernel_rfl) (fun b7 => ?_)
 refine RN.bs [some 0, none] [4, 5] [b7, b7, b7] 9 [(4, pt b5), (5, pt b7)] ([(b7, .cells (ratC y6 (encQ ((qv r) / (qv t)))) 27 (0, 0)), (b5, .cells (ratC (⟨saNil, saNil⟩ : RA) (⟨false, ([] : List Nat), ([] : List Nat)⟩ : Raw)) 27 (0, 0)), (b4, .cells (ratC u t) 27 (0, 0)), (b3, .cells (ratC p r) 27 (0, 0))]) k_ ?_
 refine RN.fs k_ ?_
 refine RN.bs [some 0, some 1] [4] [b5, b5, b5, b7, b7, b7] 2 [(4, pt b5)] ([(b7, .cells (ratC y6 (encQ ((qv r) / (qv t)))) 27 (0, 0)), (b5, .cells (ratC y6 (encQ ((qv r) / (qv t)))) 27 (0, 0)), (b4, .cells (ratC u t) 27 (0, 0)), (b3, .cells (ratC p r) 27 (0, 0))]) k_ ?_
 refine RN.fin k_ ?_
 refine J.ret (KR.ret (v := ratV y6 (encQ ((qv r) / (qv t)))) (y6) [some 1] [0] [b5, b5, b5] k_ rfl (trivial) rfl)
theorem m19_quotient_c (p : RA) (r' : Rat) (u : RA) (t' : Rat) (hr : Q 268435456 r') (ht : Q 268435456 t') : Spec Tryz.prog 78 #[ratV p (encQ r'), ratV u (encQ t')] [fRat p (encQ r'), fRat u (encQ t')] (ι := RA) (fun y => ratV y (encQ (r' / t'))) (fun y => True) (fun y => [fRat y (encQ (r' / t'))]) := by
  have H := m19_quotient p (encQ r') u (encQ t') (RQ_enc hr) (RQ_enc ht)
  first | exact H | (simp only [qv_encQ, validQ_encQ] at H; exact H)
theorem m19_quotient_c1 (p : RA) (r' : Rat) (u : RA) (t : Raw) (hr : Q 268435456 r') (ht : RQ 268435456 t) : Spec Tryz.prog 78 #[ratV p (encQ r'), ratV u t] [fRat p (encQ r'), fRat u t] (ι := RA) (fun y => ratV y (encQ (r' / (qv t)))) (fun y => True) (fun y => [fRat y (encQ (r' / (qv t)))]) := by
  have H := m19_quotient p (encQ r') u t (RQ_enc hr) (by first | exact ht | simpa only [qv_encQ] using ht)
  first | exact H | (simp only [qv_encQ, validQ_encQ] at H; exact H)
theorem m19_quotient_c2 (p : RA) (r : Raw) (u : RA) (t' : Rat) (hr : RQ 268435456 r) (ht : Q 268435456 t') : Spec Tryz.prog 78 #[ratV p r, ratV u (encQ t')] [fRat p r, fRat u (encQ t')] (ι := RA) (fun y => ratV y (encQ ((qv r) / t'))) (fun y => True) (fun y => [fRat y (encQ ((qv r) / t'))]) := by
  have H := m19_quotient p r u (encQ t') (by first | exact hr | simpa only [qv_encQ] using hr) (RQ_enc ht)
  first | exact H | (simp only [qv_encQ, validQ_encQ] at H; exact H)
theorem m19_positive (p : RA) (r : Raw) (hr : RQ 268435456 r) : Spec Tryz.prog 41 #[ratV p r] [fRat p r] (ι := Unit) (fun y => .bool (decide (0 < (qv r)))) (fun y => True) (fun y => []) := by
 refine Spec.of_body _ (fn := Tryz.f41) k_ rfl k_ (fun X w0 => ?_)
 refine J.fact (φ := r.mag.length ≤ 140737488355328 ∧ r.den.length ≤ 140737488355328) (fun w h => by have h1 := (h _ (.head _)).1.1; have h2 := (h _ (.head _)).2.1; omega) (fun hl1 => ?_)
 refine J.sreg ?_
 refine RN.new (fun b => pt b) (.cells (ratC p r) 27 (0, 0)) k_ k_ (fun w => by kernel_rfl) (fun b2 => ?_)
 refine RN.bq (no 1) [1] [] 2 [(1, pt b2)] k_ ?_
 refine RN.fs k_ ?_
 refine RN.bq [some 0] [3] [b2, b2, b2] 1 [(3, ratV p r)] k_ ?_
 refine RN.call (rational_Sign p r y_) [0] k_ k_ k_ rfl (fun y3 _ => ?_)
 refine RN.bq (no 2) [2] [] 4 [(2, .bool (decide ((Int.sign ((qv r).num)) > 0)))] k_ ?_
 refine RN.fin k_ ?_
 have e_1 : (decide (0 < (qv r))) = (decide ((Int.sign ((qv r).num)) > 0)) := by rw [decide_eq_decide]; exact sign_gt.symm
 refine J.ret (KR.ret (v := .bool (decide ((Int.sign ((qv r).num)) > 0))) (()) [none] [] [] k_ v1_ (trivial) v1_)
theorem y_m19_Rho {p : Prop} (h : p := by first | assumption | exact Lb_toL _ | omega | (simp; done) | first | exact RQ_enc Q1 | exact Q.le Q1 (by decide) | (apply Q.le; (case h => (repeat' (first | assumption | exact Q1 | apply Q.sub | apply Q.add | apply Q.mul | apply Q.neg))); (case hab => omega)) | (refine RQ_enc ?_; (apply Q.le; (case h => (repeat' (first | assumption | exact Q1 | apply Q.sub | apply Q.add | apply Q.mul | apply Q.neg))); (case hab => omega)))) : p := h
theorem m19_Rho (p : RA) (r : Raw) (hr : RQ 268435456 r) (hs : Q 16777216 (qv r)) : Spec Tryz.prog 16 #[ratV p r] [fRat p r] (ι := RA) (fun y => ratV y (encQ (rhoQ (qv r)))) (fun y => True) (fun y => [fRat y (encQ (rhoQ (qv r)))]) := by
 refine Spec.of_body _ (fn := Tryz.f16) k_ rfl k_ (fun X w0 => ?_)
 refine J.fact (φ := r.mag.length ≤ 140737488355328 ∧ r.den.length ≤ 140737488355328) (fun w h => by have h1 := (h _ (.head _)).1.1; have h2 := (h _ (.head _)).2.1; omega) (fun hl1 => ?_)
 refine J.sreg ?_
 refine RN.new (fun b => pt b) (.cells (ratC p r) 27 (0, 0)) k_ k_ (fun w => by kernel_rfl) (fun b2 => ?_)
 refine RN.new (fun b => pt b) (.cells (ratC (⟨saNil, saNil⟩ : RA) (⟨false, ([] : List Nat), ([] : List Nat)⟩ : Raw)) 27 (0, 0)) k_ k_ (fun w => by kernel_rfl) (fun b3 => ?_)
 refine RN.fin k_ ?_
 refine J.seq ?_
 refine J.block ?_
 refine J.sreg ?_
 refine RN.bq [some 1] [1, 2, 5] [b2, b2, b2] 1 [(1, pt b2), (2, pt b3), (5, ratV p r)] k_ ?_
 refine RN.call (rational_Sign p r y_m19_Rho) [0] k_ k_ k_ rfl (fun y4 _ => ?_)
 refine RN.bq (no 2) [1, 2, 4] [] 4 [(1, pt b2), (2, pt b3), (4, .bool (decide ((Int.sign ((qv r).num)) < 0)))] k_ ?_
 refine RN.fin k_ ?_
 refine J.cond (decide ((Int.sign ((qv r).num)) < 0)) k_ (fun c5 => ?_) (fun c5 => ?_)
 ·replace c5 := of_decide_eq_true c5
  refine J.sreg ?_
  refine RN.bs [none, some 0] [2] [b3, b3, b3] 2 [(2, pt b3)] ([(b3, .cells (ratC (⟨saNil, saNil⟩ : RA) (⟨false, ([] : List Nat), ([] : List Nat)⟩ : Raw)) 27 (0, 0)), (b2, .cells (ratC p r) 27 (0, 0))]) k_ ?_
  refine RN.fin k_ ?_
  have e_1 : (encQ (rhoQ (qv r))) = (⟨false, ([] : List Nat), ([] : List Nat)⟩ : Raw) := by rw [rhoQ, if_pos (sign_lt.1 ‹_›), encQ_zero]
  have e_2 : (toL (((rhoQ (qv r)).num).natAbs)) = ([] : List Nat) := congrArg Raw.mag e_1
  have e_3 : (toD ((rhoQ (qv r)).den)) = ([] : List Nat) := congrArg Raw.den e_1
  refine J.also (fRat (⟨saNil, saNil⟩ : RA) (⟨false, ([] : List Nat), ([] : List Nat)⟩ : Raw)) (fun w h => ⟨fU_nil w, fU_nil w⟩) ?_
  refine J.ret (KR.blk (KR.next (KR.ret (v := ratV (⟨saNil, saNil⟩ : RA) (⟨false, ([] : List Nat), ([] : List Nat)⟩ : Raw)) (⟨saNil, saNil⟩) [some 0] [0] [b3, b3, b3] k_ (by first | rfl | (rw [e_1]; done) | (simp only [e_1]; done) | (rw [e_2, e_3]; done) | (rw [e_1, e_2, e_3]; rfl) | (simp only [e_1, e_2, e_3]; done) | (simp only [e_1, e_2, e_3]; rfl)) (trivial) (by first | rfl | (rw [e_1]; done) | (simp only [e_1]; done) | (rw [e_2, e_3]; done) | (rw [e_1, e_2, e_3]; rfl) | (simp only [e_1, e_2, e_3]; done) | (simp only [e_1, e_2, e_3]; rfl)))))
 ·replace c5 := of_decide_eq_false c5
  refine J.seq ?_
  refine J.regD k_ [] ?_
  refine RD.bq [(0, some 1)] [1, 2, 10] [b2, b2, b2] [(1, pt b2), (2, pt b3), (10, ratV p r)] k_ k_ ?_
  refine RD.call (i := 1) (m19_one) [] k_ k_ k_ k_ k_ rfl (fun y6 _ => ?_)
  refine RD.call (i := 2) (rational_Compare_c2 p r y6 (1 : Rat) y_m19_Rho y_m19_Rho) [1, 0] k_ k_ k_ k_ k_ rfl (fun y7 _ => ?_)
  refine RD.bq (nl [3, 4]) [1, 2, 9] [] [(1, pt b2), (2, pt b3), (9, .bool (decide ((cmpQ (qv r) (1 : Rat)) > 0)))] k_ k_ ?_
  refine RD.done k_ ?_
  refine KN.next ?_
  refine J.cond (decide ((cmpQ (qv r) (1 : Rat)) > 0)) k_ (fun c8 => ?_) (fun c8 => ?_)
  ·replace c8 := of_decide_eq_true c8
   refine J.sreg ?_
   refine RN.call (m19_one) [] k_ k_ k_ rfl (fun y9 _ => ?_)
   refine RN.bs [some 0] [2] [b3, b3, b3] 2 [(2, pt b3)] ([(b3, .cells (ratC y9 (encQ (1 : Rat))) 27 (0, 0)), (b2, .cells (ratC p r) 27 (0, 0))]) k_ ?_
   refine RN.fin k_ ?_
   have e_1 : (encQ (rhoQ (qv r))) = (encQ (1 : Rat)) := by rw [rhoQ, if_neg (mt sign_lt.2 ‹_›), if_pos (cmpQ_gt.1 ‹_›)]
   refine J.ret (KR.blk (KR.next (KR.ret (v := ratV y9 (encQ (1 : Rat))) (y9) [some 0] [0] [b3, b3, b3] k_ v1_ (trivial) v1_)))
  ·replace c8 := of_decide_eq_false c8
   refine J.skip ?_
   refine KN.blk ?_
   refine KN.next ?_
   refine J.seqC (ι := (RA) × (RA) × (Nat)) (fun x => True) (fun x => [(2, pt b3), (3, .pointer (some ⟨x.2.2, 0, none⟩))]) (fun x => [(x.2.2, .cells (ratC x.2.1 (encQ ((1 : Rat) - (qv r)))) 27 (0, 0)), (b3, .cells (ratC (⟨saNil, saNil⟩ : RA) (⟨false, ([] : List Nat), ([] : List Nat)⟩ : Raw)) 27 (0, 0)), (b2, .cells (ratC p r) 27 (0, 0))]) (fun x => [fRat x.2.1 (encQ ((1 : Rat) - (qv r))), fRat x.1 (encQ (1 : Rat)), fRat y6 (encQ (1 : Rat)), fRat p r]) ?_ ?_
   ·refine J.regD k_ [4] ?_
    refine RD.bq [(1, some 1)] [2, 16] [b2, b2, b2] [(2, pt b3), (16, ratV p r)] k_ k_ ?_
    refine RD.forkL (is := [0, 3]) k_ rfl k_ ⟨?_, ?_, trivial⟩
    ·refine RDi.call (i := 0) (m19_one) [] k_ k_ k_ k_ rfl (fun y10 _ => ?_)
     refine RD.forkL (is := [2, 3]) k_ rfl k_ ⟨?_, ?_, trivial⟩
     ·refine RDi.call (i := 2) (rational_Sub_c1 y10 (1 : Rat) p r y_m19_Rho y_m19_Rho) [0, 2] k_ k_ k_ k_ rfl (fun y11 _ => ?_)
      refine RD.new (i := 3) (fun b => pt b) (.cells (ratC (⟨saNil, saNil⟩ : RA) (⟨false, ([] : List Nat), ([] : List Nat)⟩ : Raw)) 27 (0, 0)) k_ k_ k_ k_ (fun w => by kernel_rfl) (fun b12 => ?_)
      refine RD.last (i := 4) (some 0) [2, 3] [b12, b12, b12] k_ k_ k_ (l' := [(2, pt b3), (3, pt b12)]) (M' := [(b12, .cells (ratC y11 (encQ ((1 : Rat) - (qv r)))) 27 (0, 0)), (b3, .cells (ratC (⟨saNil, saNil⟩ : RA) (⟨false, ([] : List Nat), ([] : List Nat)⟩ : Raw)) 27 (0, 0)), (b2, .cells (ratC p r) 27 (0, 0))]) k_ ?_
      refine RD.done k_ ?_
      refine KN.meet (y10, y11, b12) [2, 3] [0, 1, 2, 3] (l2 := [(2, pt b3), (3, pt b12)]) (by exact trivial) k_ (by rfl) (by rfl) (by rfl)
     ·refine RDi.new (i := 3) (fun b => pt b) (.cells (ratC (⟨saNil, saNil⟩ : RA) (⟨false, ([] : List Nat), ([] : List Nat)⟩ : Raw)) 27 (0, 0)) k_ k_ k_ (fun w => by kernel_rfl) (fun b13 => ?_)
      refine RD.call (i := 2) (rational_Sub_c1 y10 (1 : Rat) p r y_m19_Rho y_m19_Rho) [0, 2] k_ k_ k_ k_ k_ rfl (fun y14 _ => ?_)
      refine RD.last (i := 4) (some 0) [2, 3] [b13, b13, b13] k_ k_ k_ (l' := [(2, pt b3), (3, pt b13)]) (M' := [(b13, .cells (ratC y14 (encQ ((1 : Rat) - (qv r)))) 27 (0, 0)), (b3, .cells (ratC (⟨saNil, saNil⟩ : RA) (⟨false, ([] : List Nat), ([] : List Nat)⟩ : Raw)) 27 (0, 0)), (b2, .cells (ratC p r) 27 (0, 0))]) k_ ?_
      refine RD.done k_ ?_
      refine KN.meet (y10, y14, b13) [2, 3] [0, 1, 2, 3] (l2 := [(2, pt b3), (3, pt b13)]) (by exact trivial) k_ (by rfl) (by rfl) (by rfl)
    ·refine RDi.new (i := 3) (fun b => pt b) (.cells (ratC (⟨saNil, saNil⟩ : RA) (⟨false, ([] : List Nat), ([] : List Nat)⟩ : Raw)) 27 (0, 0)) k_ k_ k_ (fun w => by kernel_rfl) (fun b15 => ?_)
     refine RD.call (i := 0) (m19_one) [] k_ k_ k_ k_ k_ rfl (fun y16 _ => ?_)
     refine RD.call (i := 2) (rational_Sub_c1 y16 (1 : Rat) p r y_m19_Rho y_m19_Rho) [0, 2] k_ k_ k_ k_ k_ rfl (fun y17 _ => ?_)
     refine RD.last (i := 4) (some 0) [2, 3] [b15, b15, b15] k_ k_ k_ (l' := [(2, pt b3), (3, pt b15)]) (M' := [(b15, .cells (ratC y17 (encQ ((1 : Rat) - (qv r)))) 27 (0, 0)), (b3, .cells (ratC (⟨saNil, saNil⟩ : RA) (⟨false, ([] : List Nat), ([] : List Nat)⟩ : Raw)) 27 (0, 0)), (b2, .cells (ratC p r) 27 (0, 0))]) k_ ?_
     refine RD.done k_ ?_
     refine KN.meet (y16, y17, b15) [2, 3] [0, 1, 2, 3] (l2 := [(2, pt b3), (3, pt b15)]) (by exact trivial) k_ (by rfl) (by rfl) (by rfl)
   ·intro x18 hx19
    obtain ⟨y10, y11, b12⟩ := x18
    replace hx19 : True := hx19
    refine J.seq ?_
    refine J.regD k_ [7] ?_
    refine RD.bq [(1, some 0), (2, some 0), (3, some 0)] [2, 19, 20, 21] [b12, b12, b12, b12, b12, b12, b12, b12, b12] [(2, pt b3), (19, ratV y11 (encQ ((1 : Rat) - (qv r)))), (20, ratV y11 (encQ ((1 : Rat) - (qv r)))), (21, ratV y11 (encQ ((1 : Rat) - (qv r))))] k_ k_ ?_
    refine RD.call (i := 0) (m19_one) [] k_ k_ k_ k_ k_ rfl (fun y20 _ => ?_)
    refine RD.call (i := 4) (rational_Mul_c y11 ((1 : Rat) - (qv r)) y11 ((1 : Rat) - (qv r)) y_m19_Rho y_m19_Rho) [1, 1] k_ k_ k_ k_ k_ rfl (fun y21 _ => ?_)
    refine RD.call (i := 5) (rational_Mul_c y11 ((1 : Rat) - (qv r)) y21 (((1 : Rat) - (qv r)) * ((1 : Rat) - (qv r))) y_m19_Rho y_m19_Rho) [2, 0] k_ k_ k_ k_ k_ rfl (fun y22 _ => ?_)
    refine RD.call (i := 6) (rational_Sub_c y20 (1 : Rat) y22 (((1 : Rat) - (qv r)) * (((1 : Rat) - (qv r)) * ((1 : Rat) - (qv r)))) y_m19_Rho y_m19_Rho) [2, 0] k_ k_ k_ k_ k_ rfl (fun y23 _ => ?_)
    refine RD.last (i := 7) (some 1) [2] [b3, b3, b3] k_ k_ k_ (l' := [(2, pt b3)]) (M' := [(b12, .cells (ratC y11 (encQ ((1 : Rat) - (qv r)))) 27 (0, 0)), (b3, .cells (ratC y23 (encQ ((1 : Rat) - (((1 : Rat) - (qv r)) * (((1 : Rat) - (qv r)) * ((1 : Rat) - (qv r))))))) 27 (0, 0)), (b2, .cells (ratC p r) 27 (0, 0))]) k_ ?_
    refine RD.done k_ ?_
    refine KN.next ?_
    have e_1 : (encQ (rhoQ (qv r))) = (encQ ((1 : Rat) - (((1 : Rat) - (qv r)) * (((1 : Rat) - (qv r)) * ((1 : Rat) - (qv r)))))) := by rw [rhoQ, if_neg (mt sign_lt.2 ‹_›), if_neg (mt cmpQ_gt.2 ‹_›)]
    refine J.ret (KR.ret (v := ratV y23 (encQ ((1 : Rat) - (((1 : Rat) - (qv r)) * (((1 : Rat) - (qv r)) * ((1 : Rat) - (qv r))))))) (y23) [some 1] [0] [b3, b3, b3] k_ v1_ (trivial) v1_)
theorem m19_Rho_c (p : RA) (r' : Rat) (hr : Q 268435456 r') (hs : Q 16777216 r') : Spec Tryz.prog 16 #[ratV p (encQ r')] [fRat p (encQ r')] (ι := RA) (fun y => ratV y (encQ (rhoQ r'))) (fun y => True) (fun y => [fRat y (encQ (rhoQ r'))]) := by
  have H := m19_Rho p (encQ r') (RQ_enc hr) (by first | exact hs | simpa only [qv_encQ] using hs)
  first | exact H | (simp only [qv_encQ, validQ_encQ] at H; exact H)
def sizeE (n : Nat) : Int := if n = 0 then 10 else if 1024 < n then 2 else 0
def meanT (c s2 : Rat) (x : Rat) : Rat := rhoQ (x * x / (c * s2))
theorem m19_size (s : SA) (ps : List PR) : Spec Tryz.prog 40 #[sl s ps.length] [fRats s ps] (ι := Unit) (fun y => .int .i64 (sizeE ps.length)) (fun y => True) (fun y => []) := by
 refine Spec.of_body _ (fn := Tryz.f40) k_ rfl k_ (fun X w0 => ?_)
 refine J.fact (φ := ps.length ≤ 140737488355328) (fun w h => by have := (h _ (.head _)).1; omega) (fun hl1 => ?_)
 refine J.sreg ?_
 refine RN.bq (no 1) [0] [] 1 [(0, sl s ps.length)] k_ ?_
 refine RN.fin k_ ?_
 refine J.seq ?_
 refine J.block ?_
 refine J.sreg ?_
 refine RN.bq (no 4) [0, 3] [] 4 [(0, sl s ps.length), (3, .bool ((((ps.length : Nat) : Int) : Int) == 0))] k_ ?_
 refine RN.fin k_ ?_
 refine J.cond ((((ps.length : Nat) : Int) : Int) == 0) k_ (fun c2 => ?_) (fun c2 => ?_)
 ·replace c2 := eq_of_beq c2
  refine J.sreg ?_
  refine RN.bq (no 1) [2] [] 1 [(2, .int .i64 10)] k_ ?_
  refine RN.fin k_ ?_
  have e_1 : (sizeE ps.length : Int) = (10 : Int) := by unfold sizeE; first | (rw [if_pos (by omega)]; done) | (rw [if_neg (by omega), if_pos (by omega)]; done) | (rw [if_neg (by omega), if_neg (by omega)])
  refine J.ret (KR.blk (KR.next (KR.ret (v := .int .i64 10) (()) [none] [] [] k_ v1_ (trivial) v1_)))
 ·replace c2 := ne_of_beq_false c2
  refine J.sreg ?_
  refine RN.bq (no 4) [7] [] 4 [(7, .bool (decide (((ps.length : Nat) : Int) > 1024)))] k_ ?_
  refine RN.fin k_ ?_
  refine J.cond (decide (((ps.length : Nat) : Int) > 1024)) k_ (fun c3 => ?_) (fun c3 => ?_)
  ·replace c3 := of_decide_eq_true c3
   refine J.sreg ?_
   refine RN.bq (no 1) [2] [] 1 [(2, .int .i64 2)] k_ ?_
   refine RN.fin k_ ?_
   have e_1 : (sizeE ps.length : Int) = (2 : Int) := by unfold sizeE; first | (rw [if_pos (by omega)]; done) | (rw [if_neg (by omega), if_pos (by omega)]; done) | (rw [if_neg (by omega), if_neg (by omega)])
   refine J.ret (KR.blk (KR.next (KR.ret (v := .int .i64 2) (()) [none] [] [] k_ v1_ (trivial) v1_)))
  ·replace c3 := of_decide_eq_false c3
   refine J.skip ?_
   refine KN.blk ?_
   refine KN.next ?_
   refine J.sreg ?_
   refine RN.bq (no 1) [2] [] 1 [(2, .int .i64 0)] k_ ?_
   refine RN.fin k_ ?_
   have e_1 : (sizeE ps.length : Int) = (0 : Int) := by unfold sizeE; first | (rw [if_pos (by omega)]; done) | (rw [if_neg (by omega), if_pos (by omega)]; done) | (rw [if_neg (by omega), if_neg (by omega)])
   refine J.ret (KR.ret (v := .int .i64 0) (()) [none] [] [] k_ v1_ (trivial) v1_)
def sumTo (f : Rat → Rat) (ps : List PR) (k : Nat) : Rat := sumN (fun i => f (vals ps i)) k
theorem Q_rho {k : Nat} {u : Rat} (h : Q k u) : Q (3 * k + 9) (rhoQ u) := by
  unfold rhoQ
  split
  · exact Q0.le (by omega)
  · split
    · exact Q1.le (by omega)
    · have h1 := Q1.sub h
      exact (Q1.sub (h1.mul (h1.mul h1))).le (by omega)
theorem Q.div {k l : Nat} {p q : Rat} (hp : Q k p) (hq : Q l q) : Q (k + l + 1) (p / q) := by
  rw [← div_parts]
  obtain ⟨a, b⟩ := Q_iff.1 hp
  obtain ⟨c, d⟩ := Q_iff.1 hq
  by_cases h0 : q.num = 0
  · have : ((q.num * (p.den : Int) : Int) : Rat) = 0 := by rw [h0, Int.zero_mul]; rfl
    rw [this, Rat.div_def, Rat.inv_zero, Rat.mul_zero]
    exact Q0.le (by omega)
  · have hn : p.num * (q.den : Int) = p.num * (q.den : Int) := rfl
    have e1 : (p.num * (q.den : Int)).natAbs < W ^ (k + l + 1) := by
      rw [Int.natAbs_mul, Int.natAbs_natCast]
      exact Nat.lt_of_lt_of_le (mul_lt_pow a d) (Nat.pow_le_pow_right (by decide) (by omega))
    have e2 : (q.num * (p.den : Int)).natAbs < W ^ (k + l + 1) := by
      rw [Int.natAbs_mul, Int.natAbs_natCast, Nat.mul_comm]
      exact Nat.lt_of_lt_of_le (mul_lt_pow b c) (Nat.pow_le_pow_right (by decide) (by omega))
    have hd : (q.num * (p.den : Int)) ≠ 0 := Int.mul_ne_zero h0 (by have := p.den_nz; omega)
    rcases Int.lt_trichotomy (q.num * (p.den : Int)) 0 with h | h | h
    · rw [← mk_neg h]
      exact Q_mk (by omega) (by rw [Int.natAbs_neg]; exact e1) e2
    · exact absurd h hd
    · rw [← mk_pos h]
      exact Q_mk (by omega) e1 e2
theorem RQ.le {a b : Nat} {r : Raw} (h : RQ a r) (hab : a ≤ b) : RQ b r := ⟨h.1, h.2.1, Nat.le_trans h.2.2.1 hab, Nat.le_trans h.2.2.2.1 hab, h.2.2.2.2.le hab⟩
theorem Q_int {v : Int} (h : v.natAbs < 18446744073709551616) : Q 2 (v : Rat) := ⟨u64_len.2 h, by show (toL 1).length ≤ 2; rw [toL_1]; decide⟩
theorem Q_term {c s2 x : Rat} (hc : Q 64 c) (hs : Q 65536 s2) (hx : Q 64 x) : Q 128 (x * x) ∧ Q 65600 (c * s2) ∧ Q 65729 (x * x / (c * s2)) ∧ Q 197196 (meanT c s2 x) := by
  have h1 : Q 128 (x * x) := hx.mul hx
  have h2 : Q 65600 (c * s2) := hc.mul hs
  have h3 : Q 65729 (x * x / (c * s2)) := h1.div h2
  exact ⟨h1, h2, h3, Q_rho h3⟩
theorem y_m19_mean {p : Prop} (h : p := by first | assumption | exact Lb_toL _ | omega | (simp; done) | first | exact Q.le hc (by decide) | exact Q.le hs (by decide) | exact Q.le hx1 (by decide) | exact Q.le hx2 (by decide) | exact Q.le hx3 (by decide) | exact Q.le hx4 (by decide) | exact Q.le (Q_int (by omega)) (by decide) | exact Q.le (hc.mul hs) (by decide)) : p := h
theorem m19_mean (s : SA) (ps : List PR) (p : RA) (c : Raw) (u : RA) (t : Raw) (hps : ∀ i, i < ps.length → RQ 64 (ps.getD i pr0).2) (hcR : RQ 268435456 c) (htR : RQ 268435456 t) (hc : Q 64 (qv c)) (hs : Q 65536 (qv t)) (hn : ps.length ≤ 1024) : Spec Tryz.prog 42 #[sl s ps.length, ratV p c, ratV u t] [fRats s ps, fRat p c, fRat u t] (ι := RA) (fun y => ratV y (encQ (sumTo (meanT (qv c) (qv t)) ps ps.length / ((((ps.length : Nat) : Int)) : Rat)))) (fun y => True) (fun y => [fRat y (encQ (sumTo (meanT (qv c) (qv t)) ps ps.length / ((((ps.length : Nat) : Int)) : Rat)))]) := by
 refine Spec.of_body _ (fn := Tryz.f42) k_ rfl k_ (fun X w0 => ?_)
 refine J.fact (φ := ps.length ≤ 140737488355328) (fun w h => by have := (h _ (.head _)).1; omega) (fun hl1 => ?_)
 refine J.fact (φ := c.mag.length ≤ 140737488355328 ∧ c.den.length ≤ 140737488355328) (fun w h => by have h1 := (h _ (.tail _ ((.head _)))).1.1; have h2 := (h _ (.tail _ ((.head _)))).2.1; omega) (fun hl2 => ?_)
 refine J.fact (φ := t.mag.length ≤ 140737488355328 ∧ t.den.length ≤ 140737488355328) (fun w h => by have h1 := (h _ (.tail _ ((.tail _ ((.head _)))))).1.1; have h2 := (h _ (.tail _ ((.tail _ ((.head _)))))).2.1; omega) (fun hl3 => ?_)
 refine J.sreg ?_
 refine RN.new (fun b => pt b) (.cells (ratC p c) 27 (0, 0)) k_ k_ (fun w => by kernel_rfl) (fun b4 => ?_)
 refine RN.new (fun b => pt b) (.cells (ratC u t) 27 (0, 0)) k_ k_ (fun w => by kernel_rfl) (fun b5 => ?_)
 refine RN.new (fun b => pt b) (.cells (ratC (⟨saNil, saNil⟩ : RA) (⟨false, ([] : List Nat), ([] : List Nat)⟩ : Raw)) 27 (0, 0)) k_ k_ (fun w => by kernel_rfl) (fun b6 => ?_)
 refine RN.fs k_ ?_
 refine RN.new (fun b => pt b) (.cells (ratC (⟨saNil, saNil⟩ : RA) (⟨false, ([] : List Nat), ([] : List Nat)⟩ : Raw)) 27 (0, 0)) k_ k_ (fun w => by kernel_rfl) (fun b7 => ?_)
 refine RN.fs k_ ?_
 refine RN.bq [some 3, some 2] [0, 6, 7, 11, 12] [b5, b5, b5, b4, b4, b4] 2 [(0, sl s ps.length), (6, pt b6), (7, pt b7), (11, ratV p c), (12, ratV u t)] k_ ?_
 refine RN.call (rational_Mul p c u t y_m19_mean y_m19_mean) [1, 2] k_ k_ k_ rfl (fun y8 _ => ?_)
 refine RN.new (fun b => pt b) (.cells (ratC (⟨saNil, saNil⟩ : RA) (⟨false, ([] : List Nat), ([] : List Nat)⟩ : Raw)) 27 (0, 0)) k_ k_ (fun w => by kernel_rfl) (fun b9 => ?_)
 refine RN.bs [some 0] [0, 6, 7, 8] [b9, b9, b9] 5 [(0, sl s ps.length), (6, pt b6), (7, pt b7), (8, pt b9)] ([(b9, .cells (ratC y8 (encQ ((qv c) * (qv t)))) 27 (0, 0)), (b7, .cells (ratC (⟨saNil, saNil⟩ : RA) (⟨false, ([] : List Nat), ([] : List Nat)⟩ : Raw)) 27 (0, 0)), (b6, .cells (ratC (⟨saNil, saNil⟩ : RA) (⟨false, ([] : List Nat), ([] : List Nat)⟩ : Raw)) 27 (0, 0)), (b5, .cells (ratC u t) 27 (0, 0)), (b4, .cells (ratC p c) 27 (0, 0))]) k_ ?_
 refine RN.fin k_ ?_
 refine J.seq ?_
 refine J.sreg ?_
 refine RN.bq (no 3) [0, 6, 7, 8, 14, 15, 16] [] 3 [(0, sl s ps.length), (6, pt b6), (7, pt b7), (8, pt b9), (14, sl s ps.length), (15, .int .i64 ((ps.length : Nat) : Int)), (16, .int .i64 0)] k_ ?_
 refine RN.fin k_ ?_
 refine J.block ?_
 refine J.also (fRat (⟨saNil, saNil⟩ : RA) (encQ 0)) (fun w h => fRat_zero w) ?_
 refine J.loop (ι := (Nat) × (RA) × (Rat)) (fun x => x.1 ≤ ps.length ∧ x.2.2 = sumTo (meanT (qv c) (qv t)) ps x.1 ∧ Q (197198 * x.1 + 1) x.2.2) (fun x => ps.length - x.1) (fun x => [(0, sl s ps.length), (6, pt b6), (7, pt b7), (8, pt b9), (14, sl s ps.length), (15, .int .i64 ((ps.length : Nat) : Int)), (16, .int .i64 ((x.1 : Nat) : Int))]) (fun x => [(b9, .cells (ratC y8 (encQ ((qv c) * (qv t)))) 27 (0, 0)), (b7, .cells (ratC x.2.1 (encQ x.2.2)) 27 (0, 0)), (b6, .cells (ratC (⟨saNil, saNil⟩ : RA) (⟨false, ([] : List Nat), ([] : List Nat)⟩ : Raw)) 27 (0, 0)), (b5, .cells (ratC u t) 27 (0, 0)), (b4, .cells (ratC p c) 27 (0, 0))]) (fun x => [fRat x.2.1 (encQ x.2.2), fRat y8 (encQ ((qv c) * (qv t))), fRats s ps, fRat p c, fRat u t]) (0, (⟨saNil, saNil⟩ : RA), 0) [0, 6, 7, 8, 14, 15, 16] [0, 1, 2, 3, 4] (⟨Nat.zero_le _, rfl, Q0⟩) k_ (by first | rfl | (simp only [encQ_zero]; done) | (simp only [encQ_zero]; rfl)) (by rfl) (fun x10 hI => ?_)
 obtain ⟨i, so, S⟩ := x10
 replace hI : i ≤ ps.length ∧ S = sumTo (meanT (qv c) (qv t)) ps i ∧ Q (197198 * i + 1) S := hI
 obtain ⟨hI1, hI2, hI3⟩ := hI
 have hSL := hI3.le (by omega : 197198 * i + 1 ≤ 268435456)
 refine J.sreg ?_
 refine RN.bq (no 1) [0, 6, 7, 8, 14, 15, 16, 17] [] 1 [(0, sl s ps.length), (6, pt b6), (7, pt b7), (8, pt b9), (14, sl s ps.length), (15, .int .i64 ((ps.length : Nat) : Int)), (16, .int .i64 ((i : Nat) : Int)), (17, .bool (decide (((i : Nat) : Int) < ((ps.length : Nat) : Int))))] k_ ?_
 refine RN.fin k_ ?_
 refine J.seq ?_
 refine J.cond (decide (((i : Nat) : Int) < ((ps.length : Nat) : Int))) k_ (fun c11 => ?_) (fun c11 => ?_)
 ·replace c11 := of_decide_eq_true c11
  have hxr := hps i (by omega)
  have hxq := hxr.2.2.2.2
  have hxb := hxr.le (by decide : 64 ≤ 268435456)
  obtain ⟨hx1, hx2, hx3, hx4⟩ := Q_term hc hs hxq
  refine J.skip ?_
  refine KN.next ?_
  refine J.seq ?_
  refine J.block ?_
  refine J.sreg ?_
  refine RN.val _ k_ k_ (q_ridx (t := 22) (x := (.tmp 14)) (ix := (.tmp 16)) (K := .i64) (i0 := ((i : Nat) : Int)) (m := i) (e := 27) 2 rfl k_ k_ k_ k_ k_ (by omega) x_) ?_
  refine RN.val _ k_ k_ (q_rload (T := 27) (x := (.tmp 18)) (m := i) (s := s) (ps := ps) 2 rfl k_ k_ k_ k_ x_) ?_
  refine RN.also (fRat ((ps.getD i pr0).1) ((ps.getD i pr0).2)) (fun w h => rat_of (h _ (.tail _ ((.tail _ ((.head _)))))) x_) ?_
  refine RN.new (fun b => pt b) (.cells (ratC (⟨saNil, saNil⟩ : RA) (⟨false, ([] : List Nat), ([] : List Nat)⟩ : Raw)) 27 (0, 0)) k_ k_ (fun w => by kernel_rfl) (fun b12 => ?_)
  refine RN.bs [some 0] [0, 6, 7, 8, 10, 14, 15, 16] [b12, b12, b12] 4 [(0, sl s ps.length), (6, pt b6), (7, pt b7), (8, pt b9), (10, pt b12), (14, sl s ps.length), (15, .int .i64 ((ps.length : Nat) : Int)), (16, .int .i64 ((i : Nat) : Int))] ([(b12, .cells (ratC ((ps.getD i pr0).1) ((ps.getD i pr0).2)) 27 (0, 0)), (b9, .cells (ratC y8 (encQ ((qv c) * (qv t)))) 27 (0, 0)), (b7, .cells (ratC so (encQ S)) 27 (0, 0)), (b6, .cells (ratC (⟨saNil, saNil⟩ : RA) (⟨false, ([] : List Nat), ([] : List Nat)⟩ : Raw)) 27 (0, 0)), (b5, .cells (ratC u t) 27 (0, 0)), (b4, .cells (ratC p c) 27 (0, 0))]) k_ ?_
  refine RN.fin k_ ?_
  refine J.regD k_ [8] ?_
  refine RD.bq [(0, some 2), (1, some 0), (2, some 0), (4, some 1)] [0, 6, 7, 8, 14, 15, 16, 20, 21, 22, 24] [b9, b9, b9, b12, b12, b12, b12, b12, b12, b7, b7, b7] [(0, sl s ps.length), (6, pt b6), (7, pt b7), (8, pt b9), (14, sl s ps.length), (15, .int .i64 ((ps.length : Nat) : Int)), (16, .int .i64 ((i : Nat) : Int)), (20, ratV so (encQ S)), (21, ratV ((ps.getD i pr0).1) ((ps.getD i pr0).2)), (22, ratV ((ps.getD i pr0).1) ((ps.getD i pr0).2)), (24, ratV y8 (encQ ((qv c) * (qv t))))] k_ k_ ?_
  refine RD.call (i := 3) (rational_Mul ((ps.getD i pr0).1) ((ps.getD i pr0).2) ((ps.getD i pr0).1) ((ps.getD i pr0).2) y_m19_mean y_m19_mean) [0, 0] k_ k_ k_ k_ k_ rfl (fun y13 _ => ?_)
  refine RD.call (i := 5) (m19_quotient_c y13 ((qv ((ps.getD i pr0).2)) * (qv ((ps.getD i pr0).2))) y8 ((qv c) * (qv t)) y_m19_mean y_m19_mean) [0, 3] k_ k_ k_ k_ k_ rfl (fun y14 _ => ?_)
  refine RD.call (i := 6) (m19_Rho_c y14 (((qv ((ps.getD i pr0).2)) * (qv ((ps.getD i pr0).2))) / ((qv c) * (qv t))) y_m19_mean y_m19_mean) [0] k_ k_ k_ k_ k_ rfl (fun y15 _ => ?_)
  refine RD.call (i := 7) (rational_Add_c so S y15 (rhoQ (((qv ((ps.getD i pr0).2)) * (qv ((ps.getD i pr0).2))) / ((qv c) * (qv t)))) y_m19_mean y_m19_mean) [4, 0] k_ k_ k_ k_ k_ rfl (fun y16 _ => ?_)
  refine RD.last (i := 8) (some 2) [0, 6, 7, 8, 14, 15, 16] [b7, b7, b7] k_ k_ k_ (l' := [(0, sl s ps.length), (6, pt b6), (7, pt b7), (8, pt b9), (14, sl s ps.length), (15, .int .i64 ((ps.length : Nat) : Int)), (16, .int .i64 ((i : Nat) : Int))]) (M' := [(b12, .cells (ratC ((ps.getD i pr0).1) ((ps.getD i pr0).2)) 27 (0, 0)), (b9, .cells (ratC y8 (encQ ((qv c) * (qv t)))) 27 (0, 0)), (b7, .cells (ratC y16 (encQ (S + (rhoQ (((qv ((ps.getD i pr0).2)) * (qv ((ps.getD i pr0).2))) / ((qv c) * (qv t))))))) 27 (0, 0)), (b6, .cells (ratC (⟨saNil, saNil⟩ : RA) (⟨false, ([] : List Nat), ([] : List Nat)⟩ : Raw)) 27 (0, 0)), (b5, .cells (ratC u t) 27 (0, 0)), (b4, .cells (ratC p c) 27 (0, 0))]) k_ ?_
  refine RD.done k_ ?_
  refine KN.blk ?_
  refine KN.next ?_
  refine J.regN ?_
  refine RN.bq (no 1) [0, 6, 7, 8, 14, 15, 28] [] 1 [(0, sl s ps.length), (6, pt b6), (7, pt b7), (8, pt b9), (14, sl s ps.length), (15, .int .i64 ((ps.length : Nat) : Int)), (28, .int .i64 (IntKind.i64.wrap (((i : Nat) : Int) + 1)))] k_ ?_
  rw [show IntKind.i64.wrap (((i : Nat) : Int) + 1) = ((i + 1 : Nat) : Int) from by rw [IntKind.wrap_i64]; omega]
  refine RN.bq (no 1) [0, 6, 7, 8, 14, 15, 16] [] 2 [(0, sl s ps.length), (6, pt b6), (7, pt b7), (8, pt b9), (14, sl s ps.length), (15, .int .i64 ((ps.length : Nat) : Int)), (16, .int .i64 ((i + 1 : Nat) : Int))] k_ ?_
  refine RN.done k_ ?_
  refine KN.dropF 1 ?_
  refine KN.roundE (i + 1, y16, S + (rhoQ (((qv ((ps.getD i pr0).2)) * (qv ((ps.getD i pr0).2))) / ((qv c) * (qv t))))) [0, 6, 7, 8, 14, 15, 16] [0, 6, 7, 8, 9] (l2 := [(0, sl s ps.length), (6, pt b6), (7, pt b7), (8, pt b9), (14, sl s ps.length), (15, .int .i64 ((ps.length : Nat) : Int)), (16, .int .i64 ((i + 1 : Nat) : Int))]) (by (try dsimp only); omega) (by (try dsimp only); exact ⟨by omega, by rw [hI2]; rfl, (hI3.add hx4).le (by omega)⟩) k_ (by rfl) (by rfl) (by rfl)
 ·replace c11 := of_decide_eq_false c11
  have hi : i = ps.length := by omega
  subst hi
  refine J.exit (KX.next (KX.next (KX.hit ?_)))
  refine KN.next ?_
  refine J.seq ?_
  refine J.regD k_ [5] ?_
  refine RD.bq [(0, some 1), (1, none), (2, none)] [6, 29, 31] [b7, b7, b7] [(6, pt b6), (29, ratV so (encQ S)), (31, .int .i64 ((ps.length : Nat) : Int))] k_ k_ ?_
  refine RD.call (i := 3) (rational_FromInt ((ps.length : Nat) : Int) y_m19_mean y_m19_mean) [] k_ k_ k_ k_ k_ rfl (fun y17 _ => ?_)
  refine RD.call (i := 4) (m19_quotient_c so S y17 ((((ps.length : Nat) : Int) : Int) : Rat) y_m19_mean y_m19_mean) [1, 0] k_ k_ k_ k_ k_ rfl (fun y18 _ => ?_)
  refine RD.last (i := 5) (some 2) [6] [b6, b6, b6] k_ k_ k_ (l' := [(6, pt b6)]) (M' := [(b9, .cells (ratC y8 (encQ ((qv c) * (qv t)))) 27 (0, 0)), (b7, .cells (ratC so (encQ S)) 27 (0, 0)), (b6, .cells (ratC y18 (encQ (S / ((((ps.length : Nat) : Int) : Int) : Rat)))) 27 (0, 0)), (b5, .cells (ratC u t) 27 (0, 0)), (b4, .cells (ratC p c) 27 (0, 0))]) k_ ?_
  refine RD.done k_ ?_
  refine KN.next ?_
  have e_1 : (encQ (sumTo (meanT (qv c) (qv t)) ps ps.length / ((((ps.length : Nat) : Int)) : Rat))) = (encQ (S / ((((ps.length : Nat) : Int) : Int) : Rat))) := by rw [← hI2]
  refine J.ret (KR.ret (v := ratV y18 (encQ (S / ((((ps.length : Nat) : Int) : Int) : Rat)))) (y18) [some 2] [0] [b6, b6, b6] k_ v1_ (trivial) v1_)
theorem m19_mean_c2 (s : SA) (ps : List PR) (p : RA) (c : Raw) (u : RA) (t' : Rat) (hps : ∀ i, i < ps.length → RQ 64 (ps.getD i pr0).2) (hcR : RQ 268435456 c) (htR : Q 268435456 t') (hc : Q 64 (qv c)) (hs : Q 65536 t') (hn : ps.length ≤ 1024) : Spec Tryz.prog 42 #[sl s ps.length, ratV p c, ratV u (encQ t')] [fRats s ps, fRat p c, fRat u (encQ t')] (ι := RA) (fun y => ratV y (encQ (sumTo (meanT (qv c) t') ps ps.length / ((((ps.length : Nat) : Int)) : Rat)))) (fun y => True) (fun y => [fRat y (encQ (sumTo (meanT (qv c) t') ps ps.length / ((((ps.length : Nat) : Int)) : Rat)))]) := by
  have H := m19_mean s ps p c u (encQ t') (by first | exact hps | simpa only [qv_encQ] using hps) (by first | exact hcR | simpa only [qv_encQ] using hcR) (RQ_enc htR) (by first | exact hc | simpa only [qv_encQ] using hc) (by first | exact hs | simpa only [qv_encQ] using hs) (by first | exact hn | simpa only [qv_encQ] using hn)
  first | exact H | (simp only [qv_encQ, validQ_encQ] at H; exact H)
def meanE (n : Nat) (c s : Rat) : Int := if sizeE n ≠ 0 then sizeE n else if 0 < c ∧ 0 < s then 0 else 1
def meanV (ps : List PR) (c s : Rat) : Rat := if meanE ps.length c s = 0 then sumTo (meanT c s) ps ps.length / ((((ps.length : Nat) : Int)) : Rat) else 0
theorem sizeE_0 {n : Nat} (h : sizeE n = 0) : 0 < n ∧ n ≤ 1024 := by
  unfold sizeE at h
  split at h
  · omega
  · split at h <;> omega
theorem meanE_size {n : Nat} {c s : Rat} (h : sizeE n ≠ 0) : meanE n c s = sizeE n := if_pos h
theorem meanE_bad {n : Nat} {c s : Rat} (h : sizeE n = 0) (h2 : ¬ (0 < c ∧ 0 < s)) : meanE n c s = 1 := by unfold meanE; rw [if_neg (by omega), if_neg h2]
theorem meanE_ok {n : Nat} {c s : Rat} (h : sizeE n = 0) (h1 : 0 < c) (h2 : 0 < s) : meanE n c s = 0 := by unfold meanE; rw [if_neg (by omega), if_pos ⟨h1, h2⟩]
theorem meanV_bad {ps : List PR} {c s : Rat} (h : meanE ps.length c s ≠ 0) : encQ (meanV ps c s) = ⟨false, [], []⟩ := by unfold meanV; rw [if_neg h, encQ_zero]
theorem meanV_ok {ps : List PR} {c s : Rat} (h : meanE ps.length c s = 0) : meanV ps c s = sumTo (meanT c s) ps ps.length / ((((ps.length : Nat) : Int)) : Rat) := if_pos h
theorem m19_Mean (s : SA) (ps : List PR) (p : RA) (c : Raw) (u : RA) (t : Raw) (hcR : RQ 268435456 c) (htR : RQ 268435456 t) (hps : ∀ i, i < ps.length → RQ 64 (ps.getD i pr0).2) (hc : Q 64 (qv c)) (hs : Q 65536 (qv t)) : Spec Tryz.prog 13 #[sl s ps.length, ratV p c, ratV u t] [fRats s ps, fRat p c, fRat u t] (ι := RA) (fun y => .tuple #[ratV y (encQ (meanV ps (qv c) (qv t))), .int .i64 (meanE ps.length (qv c) (qv t))]) (fun y => True) (fun y => [fRat y (encQ (meanV ps (qv c) (qv t)))]) := by
 refine Spec.of_body _ (fn := Tryz.f13) k_ rfl k_ (fun X w0 => ?_)
 refine J.fact (φ := ps.length ≤ 140737488355328) (fun w h => by have := (h _ (.head _)).1; omega) (fun hl1 => ?_)
 refine J.fact (φ := c.mag.length ≤ 140737488355328 ∧ c.den.length ≤ 140737488355328) (fun w h => by have h1 := (h _ (.tail _ ((.head _)))).1.1; have h2 := (h _ (.tail _ ((.head _)))).2.1; omega) (fun hl2 => ?_)
 refine J.fact (φ := t.mag.length ≤ 140737488355328 ∧ t.den.length ≤ 140737488355328) (fun w h => by have h1 := (h _ (.tail _ ((.tail _ ((.head _)))))).1.1; have h2 := (h _ (.tail _ ((.tail _ ((.head _)))))).2.1; omega) (fun hl3 => ?_)
 refine J.sreg ?_
 refine RN.new (fun b => pt b) (.cells (ratC p c) 27 (0, 0)) k_ k_ (fun w => by kernel_rfl) (fun b4 => ?_)
 refine RN.new (fun b => pt b) (.cells (ratC u t) 27 (0, 0)) k_ k_ (fun w => by kernel_rfl) (fun b5 => ?_)
 refine RN.new (fun b => pt b) (.cells (ratC (⟨saNil, saNil⟩ : RA) (⟨false, ([] : List Nat), ([] : List Nat)⟩ : Raw)) 27 (0, 0)) k_ k_ (fun w => by kernel_rfl) (fun b6 => ?_)
 refine RN.bq (no 1) [0, 4, 5, 6] [] 4 [(0, sl s ps.length), (4, pt b4), (5, pt b5), (6, pt b6)] k_ ?_
 refine RN.fin k_ ?_
 refine J.seq ?_
 refine J.sreg ?_
 refine RN.bq (no 1) [0, 4, 5, 6, 9] [] 1 [(0, sl s ps.length), (4, pt b4), (5, pt b5), (6, pt b6), (9, sl s ps.length)] k_ ?_
 refine RN.call (m19_size s ps) [0] k_ k_ k_ rfl (fun y7 _ => ?_)
 refine RN.bq (no 1) [0, 4, 5, 6, 8] [] 3 [(0, sl s ps.length), (4, pt b4), (5, pt b5), (6, pt b6), (8, .int .i64 (sizeE ps.length))] k_ ?_
 refine RN.fs k_ ?_
 refine RN.bq (no 2) [0, 4, 5, 6, 8, 12] [] 2 [(0, sl s ps.length), (4, pt b4), (5, pt b5), (6, pt b6), (8, .int .i64 (sizeE ps.length)), (12, .bool (((sizeE ps.length) : Int) != 0))] k_ ?_
 refine RN.fin k_ ?_
 refine J.cond (((sizeE ps.length) : Int) != 0) k_ (fun c8 => ?_) (fun c8 => ?_)
 ·replace c8 := bne_iff_ne.1 c8
  have h0 : sizeE ps.length ≠ 0 := by simpa using c8
  refine J.sreg ?_
  refine RN.bs [none, none, some 0, none] [6, 7] [b6, b6, b6] 4 [(6, pt b6), (7, .int .i64 (sizeE ps.length))] ([(b6, .cells (ratC (⟨saNil, saNil⟩ : RA) (⟨false, ([] : List Nat), ([] : List Nat)⟩ : Raw)) 27 (0, 0)), (b5, .cells (ratC u t) 27 (0, 0)), (b4, .cells (ratC p c) 27 (0, 0))]) k_ ?_
  refine RN.fin k_ ?_
  have e_1 : (encQ (meanV ps (qv c) (qv t))) = (⟨false, ([] : List Nat), ([] : List Nat)⟩ : Raw) := by first | exact meanV_bad (by rw [meanE_size h0]; exact h0) | exact meanE_size h0 | exact meanV_bad (by rw [hE]; decide) | exact hE | (rw [meanV_ok hE])
  have e_2 : (toL (((meanV ps (qv c) (qv t)).num).natAbs)) = ([] : List Nat) := congrArg Raw.mag e_1
  have e_3 : (toD ((meanV ps (qv c) (qv t)).den)) = ([] : List Nat) := congrArg Raw.den e_1
  have e_4 : (meanE ps.length (qv c) (qv t) : Int) = (sizeE ps.length : Int) := by first | exact meanV_bad (by rw [meanE_size h0]; exact h0) | exact meanE_size h0 | exact meanV_bad (by rw [hE]; decide) | exact hE | (rw [meanV_ok hE])
  refine J.also (fRat (⟨saNil, saNil⟩ : RA) (⟨false, ([] : List Nat), ([] : List Nat)⟩ : Raw)) (fun w h => ⟨fU_nil w, fU_nil w⟩) ?_
  refine J.ret (KR.next (KR.ret (v := .tuple #[ratV (⟨saNil, saNil⟩ : RA) (⟨false, ([] : List Nat), ([] : List Nat)⟩ : Raw), .int .i64 (sizeE ps.length)]) (⟨saNil, saNil⟩) [some 0, none] [0] [b6, b6, b6] k_ (by first | rfl | (rw [e_1, e_4]; done) | (simp only [e_1, e_4]; done) | (rw [e_2, e_3]; done) | (rw [e_1, e_2, e_3, e_4]; rfl) | (simp only [e_1, e_2, e_3, e_4]; done) | (simp only [e_1, e_2, e_3, e_4]; rfl)) (trivial) (by first | rfl | (rw [e_1, e_4]; done) | (simp only [e_1, e_4]; done) | (rw [e_2, e_3]; done) | (rw [e_1, e_2, e_3, e_4]; rfl) | (simp only [e_1, e_2, e_3, e_4]; done) | (simp only [e_1, e_2, e_3, e_4]; rfl))))
 ·replace c8 := bne_eq_false_iff_eq.1 c8
  have h0 : sizeE ps.length = 0 := by simpa using c8
  have hn := (sizeE_0 h0).2
  refine J.skip ?_
  refine KN.next ?_
  refine J.seq ?_
  refine J.sreg ?_
  refine RN.bq [some 2] [0, 4, 5, 6, 15] [b4, b4, b4] 1 [(0, sl s ps.length), (4, pt b4), (5, pt b5), (6, pt b6), (15, ratV p c)] k_ ?_
  refine RN.call (m19_positive p c y_) [1] k_ k_ k_ rfl (fun y9 _ => ?_)
  refine RN.bq (no 2) [0, 4, 5, 6, 18] [] 4 [(0, sl s ps.length), (4, pt b4), (5, pt b5), (6, pt b6), (18, .bool (!(decide (0 < (qv c)))))] k_ ?_
  refine RN.split 18 (!(decide (0 < (qv c)))) k_ (fun c10 => ?_) (fun c10 => ?_)
  ·replace c10 := of_decide_eq_false ((Bool.not_eq_true' _).mp c10)
   have h1 : ¬ 0 < (qv c) := by simpa using c10
   have hE := meanE_bad (s := qv t) h0 (fun h => h1 h.1)
   refine RN.bq (no 4) [0, 4, 5, 6, 22] [] 8 [(0, sl s ps.length), (4, pt b4), (5, pt b5), (6, pt b6), (22, .bool true)] k_ ?_
   refine RN.fin k_ ?_
   refine J.condT k_ ?_
   refine J.sreg ?_
   refine RN.bs [none, some 0, none] [6, 7] [b6, b6, b6] 3 [(6, pt b6), (7, .int .i64 1)] ([(b6, .cells (ratC (⟨saNil, saNil⟩ : RA) (⟨false, ([] : List Nat), ([] : List Nat)⟩ : Raw)) 27 (0, 0)), (b5, .cells (ratC u t) 27 (0, 0)), (b4, .cells (ratC p c) 27 (0, 0))]) k_ ?_
   refine RN.fin k_ ?_
   have e_1 : (encQ (meanV ps (qv c) (qv t))) = (⟨false, ([] : List Nat), ([] : List Nat)⟩ : Raw) := by first | exact meanV_bad (by rw [meanE_size h0]; exact h0) | exact meanE_size h0 | exact meanV_bad (by rw [hE]; decide) | exact hE | (rw [meanV_ok hE])
   have e_2 : (toL (((meanV ps (qv c) (qv t)).num).natAbs)) = ([] : List Nat) := congrArg Raw.mag e_1
   have e_3 : (toD ((meanV ps (qv c) (qv t)).den)) = ([] : List Nat) := congrArg Raw.den e_1
   have e_4 : (meanE ps.length (qv c) (qv t) : Int) = (1 : Int) := by first | exact meanV_bad (by rw [meanE_size h0]; exact h0) | exact meanE_size h0 | exact meanV_bad (by rw [hE]; decide) | exact hE | (rw [meanV_ok hE])
   refine J.also (fRat (⟨saNil, saNil⟩ : RA) (⟨false, ([] : List Nat), ([] : List Nat)⟩ : Raw)) (fun w h => ⟨fU_nil w, fU_nil w⟩) ?_
   refine J.ret (KR.next (KR.ret (v := .tuple #[ratV (⟨saNil, saNil⟩ : RA) (⟨false, ([] : List Nat), ([] : List Nat)⟩ : Raw), .int .i64 1]) (⟨saNil, saNil⟩) [some 0, none] [0] [b6, b6, b6] k_ (by first | rfl | (rw [e_1, e_4]; done) | (simp only [e_1, e_4]; done) | (rw [e_2, e_3]; done) | (rw [e_1, e_2, e_3, e_4]; rfl) | (simp only [e_1, e_2, e_3, e_4]; done) | (simp only [e_1, e_2, e_3, e_4]; rfl)) (trivial) (by first | rfl | (rw [e_1, e_4]; done) | (simp only [e_1, e_4]; done) | (rw [e_2, e_3]; done) | (rw [e_1, e_2, e_3, e_4]; rfl) | (simp only [e_1, e_2, e_3, e_4]; done) | (simp only [e_1, e_2, e_3, e_4]; rfl))))
  ·replace c10 := of_decide_eq_true ((Bool.not_eq_false' _).mp c10)
   have h1 : 0 < (qv c) := by simpa using c10
   refine RN.bq [some 1] [0, 4, 5, 6, 18, 19] [b5, b5, b5] 5 [(0, sl s ps.length), (4, pt b4), (5, pt b5), (6, pt b6), (18, .bool false), (19, ratV u t)] k_ ?_
   refine RN.call (m19_positive u t y_) [2] k_ k_ k_ rfl (fun y11 _ => ?_)
   refine RN.bq (no 2) [0, 4, 5, 6, 22] [] 8 [(0, sl s ps.length), (4, pt b4), (5, pt b5), (6, pt b6), (22, .bool (!(decide (0 < (qv t)))))] k_ ?_
   refine RN.fin k_ ?_
   refine J.cond (!(decide (0 < (qv t)))) k_ (fun c12 => ?_) (fun c12 => ?_)
   ·replace c12 := of_decide_eq_false ((Bool.not_eq_true' _).mp c12)
    have h2 : ¬ 0 < (qv t) := by simpa using c12
    have hE := meanE_bad (c := qv c) h0 (fun h => h2 h.2)
    refine J.sreg ?_
    refine RN.bs [none, some 0, none] [6, 7] [b6, b6, b6] 3 [(6, pt b6), (7, .int .i64 1)] ([(b6, .cells (ratC (⟨saNil, saNil⟩ : RA) (⟨false, ([] : List Nat), ([] : List Nat)⟩ : Raw)) 27 (0, 0)), (b5, .cells (ratC u t) 27 (0, 0)), (b4, .cells (ratC p c) 27 (0, 0))]) k_ ?_
    refine RN.fin k_ ?_
    have e_1 : (encQ (meanV ps (qv c) (qv t))) = (⟨false, ([] : List Nat), ([] : List Nat)⟩ : Raw) := by first | exact meanV_bad (by rw [meanE_size h0]; exact h0) | exact meanE_size h0 | exact meanV_bad (by rw [hE]; decide) | exact hE | (rw [meanV_ok hE])
    have e_2 : (toL (((meanV ps (qv c) (qv t)).num).natAbs)) = ([] : List Nat) := congrArg Raw.mag e_1
    have e_3 : (toD ((meanV ps (qv c) (qv t)).den)) = ([] : List Nat) := congrArg Raw.den e_1
    have e_4 : (meanE ps.length (qv c) (qv t) : Int) = (1 : Int) := by first | exact meanV_bad (by rw [meanE_size h0]; exact h0) | exact meanE_size h0 | exact meanV_bad (by rw [hE]; decide) | exact hE | (rw [meanV_ok hE])
    refine J.also (fRat (⟨saNil, saNil⟩ : RA) (⟨false, ([] : List Nat), ([] : List Nat)⟩ : Raw)) (fun w h => ⟨fU_nil w, fU_nil w⟩) ?_
    refine J.ret (KR.next (KR.ret (v := .tuple #[ratV (⟨saNil, saNil⟩ : RA) (⟨false, ([] : List Nat), ([] : List Nat)⟩ : Raw), .int .i64 1]) (⟨saNil, saNil⟩) [some 0, none] [0] [b6, b6, b6] k_ (by first | rfl | (rw [e_1, e_4]; done) | (simp only [e_1, e_4]; done) | (rw [e_2, e_3]; done) | (rw [e_1, e_2, e_3, e_4]; rfl) | (simp only [e_1, e_2, e_3, e_4]; done) | (simp only [e_1, e_2, e_3, e_4]; rfl)) (trivial) (by first | rfl | (rw [e_1, e_4]; done) | (simp only [e_1, e_4]; done) | (rw [e_2, e_3]; done) | (rw [e_1, e_2, e_3, e_4]; rfl) | (simp only [e_1, e_2, e_3, e_4]; done) | (simp only [e_1, e_2, e_3, e_4]; rfl))))
   ·replace c12 := of_decide_eq_true ((Bool.not_eq_false' _).mp c12)
    have h2 : 0 < (qv t) := by simpa using c12
    have hE := meanE_ok h0 h1 h2
    refine J.skip ?_
    refine KN.next ?_
    refine J.sreg ?_
    refine RN.bq [none, some 2, some 1] [6, 24, 25, 26] [b5, b5, b5, b4, b4, b4] 3 [(6, pt b6), (24, sl s ps.length), (25, ratV p c), (26, ratV u t)] k_ ?_
    refine RN.call (m19_mean s ps p c u t y_ y_ y_ y_ y_ y_) [0, 1, 2] k_ k_ k_ rfl (fun y13 _ => ?_)
    refine RN.bs [some 0, none] [6, 7] [b6, b6, b6] 6 [(6, pt b6), (7, .int .i64 0)] ([(b6, .cells (ratC y13 (encQ (sumTo (meanT (qv c) (qv t)) ps ps.length / ((((ps.length : Nat) : Int)) : Rat)))) 27 (0, 0)), (b5, .cells (ratC u t) 27 (0, 0)), (b4, .cells (ratC p c) 27 (0, 0))]) k_ ?_
    refine RN.fin k_ ?_
    have e_1 : (encQ (meanV ps (qv c) (qv t))) = (encQ (sumTo (meanT (qv c) (qv t)) ps ps.length / ((((ps.length : Nat) : Int)) : Rat))) := by first | exact meanV_bad (by rw [meanE_size h0]; exact h0) | exact meanE_size h0 | exact meanV_bad (by rw [hE]; decide) | exact hE | (rw [meanV_ok hE])
    have e_2 : (meanE ps.length (qv c) (qv t) : Int) = (0 : Int) := by first | exact meanV_bad (by rw [meanE_size h0]; exact h0) | exact meanE_size h0 | exact meanV_bad (by rw [hE]; decide) | exact hE | (rw [meanV_ok hE])
    refine J.ret (KR.ret (v := .tuple #[ratV y13 (encQ (sumTo (meanT (qv c) (qv t)) ps ps.length / ((((ps.length : Nat) : Int)) : Rat))), .int .i64 0]) (y13) [some 0, none] [0] [b6, b6, b6] k_ v2_ (trivial) v2_)
theorem m19_Mean_c (s : SA) (ps : List PR) (p : RA) (c' : Rat) (u : RA) (t' : Rat) (hcR : Q 268435456 c') (htR : Q 268435456 t') (hps : ∀ i, i < ps.length → RQ 64 (ps.getD i pr0).2) (hc : Q 64 c') (hs : Q 65536 t') : Spec Tryz.prog 13 #[sl s ps.length, ratV p (encQ c'), ratV u (encQ t')] [fRats s ps, fRat p (encQ c'), fRat u (encQ t')] (ι := RA) (fun y => .tuple #[ratV y (encQ (meanV ps c' t')), .int .i64 (meanE ps.length c' t')]) (fun y => True) (fun y => [fRat y (encQ (meanV ps c' t'))]) := by
  have H := m19_Mean s ps p (encQ c') u (encQ t') (RQ_enc hcR) (RQ_enc htR) (by first | exact hps | simpa only [qv_encQ, qv_encQ] using hps) (by first | exact hc | simpa only [qv_encQ, qv_encQ] using hc) (by first | exact hs | simpa only [qv_encQ, qv_encQ] using hs)
  first | exact H | (simp only [qv_encQ, validQ_encQ] at H; exact H)
end Go.Proofs.YtegnonhgildhoaaGreat.E
namespace Go.Proofs.YtegnonhgildhoaaGreat.E
open Go Go.RowKit
set_option linter.unusedVariables false
set_option linter.unusedSimpArgs false
def checkE (n : Nat) (c b : Rat) (bits : Int) : Int := if sizeE n ≠ 0 then sizeE n else if 0 < c ∧ 0 < b ∧ b < 1 ∧ 0 ≤ bits ∧ bits ≤ 128 then 0 else 1
theorem checkE_size {n : Nat} {c b : Rat} {bits : Int} (h : sizeE n ≠ 0) : checkE n c b bits = sizeE n := if_pos h
theorem cmpQ_ge {x y : Rat} : cmpQ x y ≥ 0 ↔ ¬ x < y := by rw [← cmpQ_lt]; omega
theorem cmpQ_le {x y : Rat} : cmpQ x y ≤ 0 ↔ ¬ y < x := by rw [← cmpQ_gt]; omega
theorem y_m19_Check {p : Prop} (h : p := by first | assumption | exact Lb_toL _ | omega | (simp; done) | first | exact RQ_enc Q1 | exact Q.le Q1 (by decide)) : p := h
theorem m19_Check (s : SA) (ps : List PR) (p : RA) (c : Raw) (u : RA) (b : Raw) (bits : Int) (hc : RQ 268435456 c) (hb : RQ 268435456 b) : Spec Tryz.prog 54 #[sl s ps.length, ratV p c, ratV u b, .int .i64 bits] [fRats s ps, fRat p c, fRat u b] (ι := Unit) (fun y => .int .i64 (checkE ps.length (qv c) (qv b) bits)) (fun y => True) (fun y => []) := by
 refine Spec.of_body _ (fn := Tryz.f54) k_ rfl k_ (fun X w0 => ?_)
 refine J.fact (φ := ps.length ≤ 140737488355328) (fun w h => by have := (h _ (.head _)).1; omega) (fun hl1 => ?_)
 refine J.fact (φ := c.mag.length ≤ 140737488355328 ∧ c.den.length ≤ 140737488355328) (fun w h => by have h1 := (h _ (.tail _ ((.head _)))).1.1; have h2 := (h _ (.tail _ ((.head _)))).2.1; omega) (fun hl2 => ?_)
 refine J.fact (φ := b.mag.length ≤ 140737488355328 ∧ b.den.length ≤ 140737488355328) (fun w h => by have h1 := (h _ (.tail _ ((.tail _ ((.head _)))))).1.1; have h2 := (h _ (.tail _ ((.tail _ ((.head _)))))).2.1; omega) (fun hl3 => ?_)
 refine J.sreg ?_
 refine RN.new (fun b => pt b) (.cells (ratC p c) 27 (0, 0)) k_ k_ (fun w => by kernel_rfl) (fun b4 => ?_)
 refine RN.new (fun b => pt b) (.cells (ratC u b) 27 (0, 0)) k_ k_ (fun w => by kernel_rfl) (fun b5 => ?_)
 refine RN.bq (no 1) [0, 3, 5, 6] [] 3 [(0, sl s ps.length), (3, .int .i64 bits), (5, pt b4), (6, pt b5)] k_ ?_
 refine RN.fin k_ ?_
 refine J.seq ?_
 refine J.sreg ?_
 refine RN.bq (no 1) [3, 5, 6, 10] [] 1 [(3, .int .i64 bits), (5, pt b4), (6, pt b5), (10, sl s ps.length)] k_ ?_
 refine RN.call (m19_size s ps) [0] k_ k_ k_ rfl (fun y6 _ => ?_)
 refine RN.bq (no 1) [3, 5, 6, 9] [] 3 [(3, .int .i64 bits), (5, pt b4), (6, pt b5), (9, .int .i64 (sizeE ps.length))] k_ ?_
 refine RN.fs k_ ?_
 refine RN.bq (no 2) [3, 5, 6, 9, 13] [] 2 [(3, .int .i64 bits), (5, pt b4), (6, pt b5), (9, .int .i64 (sizeE ps.length)), (13, .bool (((sizeE ps.length) : Int) != 0))] k_ ?_
 refine RN.fin k_ ?_
 refine J.cond (((sizeE ps.length) : Int) != 0) k_ (fun c7 => ?_) (fun c7 => ?_)
 ·replace c7 := bne_iff_ne.1 c7
  have h0 : sizeE ps.length ≠ 0 := by simpa using c7
  refine J.sreg ?_
  refine RN.bq (no 2) [8] [] 2 [(8, .int .i64 (sizeE ps.length))] k_ ?_
  refine RN.fin k_ ?_
  have e_1 : (checkE ps.length (qv c) (qv b) bits : Int) = (sizeE ps.length : Int) := by first | exact checkE_size h0 | (unfold checkE; rw [if_neg (by omega)]; simp_all [cmpQ_ge, Rat.not_lt, Rat.not_le]; done) | (unfold checkE; rw [if_neg (by omega)]; simp_all [cmpQ_ge, Rat.not_lt, Rat.not_le]; grind)
  refine J.ret (KR.next (KR.ret (v := .int .i64 (sizeE ps.length)) (()) [none] [] [] k_ v1_ (trivial) v1_))
 ·replace c7 := bne_eq_false_iff_eq.1 c7
  have h0 : sizeE ps.length = 0 := by simpa using c7
  refine J.skip ?_
  refine KN.next ?_
  refine J.seq ?_
  refine J.seq ?_
  refine J.regD k_ [] ?_
  refine RD.bq [(0, some 1)] [3, 6, 15] [b4, b4, b4] [(3, .int .i64 bits), (6, pt b5), (15, ratV p c)] k_ k_ ?_
  refine RD.call (i := 1) (m19_positive p c y_m19_Check) [1] k_ k_ k_ k_ k_ rfl (fun y8 _ => ?_)
  refine RD.bq (nl [2, 3]) [3, 6, 18] [] [(3, .int .i64 bits), (6, pt b5), (18, .bool (!(decide (0 < (qv c)))))] k_ k_ ?_
  refine RD.split (t := 18) (!(decide (0 < (qv c)))) k_ (fun c9 => ?_) (fun c9 => ?_)
  ·replace c9 := of_decide_eq_false ((Bool.not_eq_true' _).mp c9)
   refine RD.bq (nl [4, 5, 6, 7, 8, 9, 10, 11, 12, 13, 14, 15, 16, 17, 18, 19, 20, 21]) [36] [] [(36, .bool true)] k_ k_ ?_
   refine RD.done k_ ?_
   refine KN.next ?_
   refine J.condT k_ ?_
   refine J.sreg ?_
   refine RN.bq (no 1) [8] [] 1 [(8, .int .i64 1)] k_ ?_
   refine RN.fin k_ ?_
   have e_1 : (checkE ps.length (qv c) (qv b) bits : Int) = (1 : Int) := by first | exact checkE_size h0 | (unfold checkE; rw [if_neg (by omega)]; simp_all [cmpQ_ge, Rat.not_lt, Rat.not_le]; done) | (unfold checkE; rw [if_neg (by omega)]; simp_all [cmpQ_ge, Rat.not_lt, Rat.not_le]; grind)
   refine J.ret (KR.next (KR.ret (v := .int .i64 1) (()) [none] [] [] k_ v1_ (trivial) v1_))
  ·replace c9 := of_decide_eq_true ((Bool.not_eq_false' _).mp c9)
   refine RD.bq [(4, some 0)] [3, 6, 18, 19] [b5, b5, b5] [(3, .int .i64 bits), (6, pt b5), (18, .bool false), (19, ratV u b)] k_ k_ ?_
   refine RD.call (i := 5) (m19_positive u b y_m19_Check) [2] k_ k_ k_ k_ k_ rfl (fun y10 _ => ?_)
   refine RD.bq (nl [6, 7, 8]) [3, 6, 23] [] [(3, .int .i64 bits), (6, pt b5), (23, .bool (!(decide (0 < (qv b)))))] k_ k_ ?_
   refine RD.split (t := 23) (!(decide (0 < (qv b)))) k_ (fun c11 => ?_) (fun c11 => ?_)
   ·replace c11 := of_decide_eq_false ((Bool.not_eq_true' _).mp c11)
    refine RD.bq (nl [9, 10, 11, 12, 13, 14, 15, 16, 17, 18, 19, 20, 21]) [36] [] [(36, .bool true)] k_ k_ ?_
    refine RD.done k_ ?_
    refine KN.next ?_
    refine J.condT k_ ?_
    refine J.sreg ?_
    refine RN.bq (no 1) [8] [] 1 [(8, .int .i64 1)] k_ ?_
    refine RN.fin k_ ?_
    have e_1 : (checkE ps.length (qv c) (qv b) bits : Int) = (1 : Int) := by first | exact checkE_size h0 | (unfold checkE; rw [if_neg (by omega)]; simp_all [cmpQ_ge, Rat.not_lt, Rat.not_le]; done) | (unfold checkE; rw [if_neg (by omega)]; simp_all [cmpQ_ge, Rat.not_lt, Rat.not_le]; grind)
    refine J.ret (KR.next (KR.ret (v := .int .i64 1) (()) [none] [] [] k_ v1_ (trivial) v1_))
   ·replace c11 := of_decide_eq_true ((Bool.not_eq_false' _).mp c11)
    refine RD.bq [(9, some 0)] [3, 23, 24] [b5, b5, b5] [(3, .int .i64 bits), (23, .bool false), (24, ratV u b)] k_ k_ ?_
    refine RD.call (i := 10) (m19_one) [] k_ k_ k_ k_ k_ rfl (fun y12 _ => ?_)
    refine RD.call (i := 11) (rational_Compare_c2 u b y12 (1 : Rat) y_m19_Check y_m19_Check) [3, 0] k_ k_ k_ k_ k_ rfl (fun y13 _ => ?_)
    refine RD.bq (nl [12, 13, 14]) [3, 29] [] [(3, .int .i64 bits), (29, .bool (decide ((cmpQ (qv b) (1 : Rat)) ≥ 0)))] k_ k_ ?_
    refine RD.split (t := 29) (decide ((cmpQ (qv b) (1 : Rat)) ≥ 0)) k_ (fun c14 => ?_) (fun c14 => ?_)
    ·replace c14 := of_decide_eq_true c14
     refine RD.bq (nl [15, 16, 17, 18, 19, 20, 21]) [36] [] [(36, .bool true)] k_ k_ ?_
     refine RD.done k_ ?_
     refine KN.next ?_
     refine J.condT k_ ?_
     refine J.sreg ?_
     refine RN.bq (no 1) [8] [] 1 [(8, .int .i64 1)] k_ ?_
     refine RN.fin k_ ?_
     have e_1 : (checkE ps.length (qv c) (qv b) bits : Int) = (1 : Int) := by first | exact checkE_size h0 | (unfold checkE; rw [if_neg (by omega)]; simp_all [cmpQ_ge, Rat.not_lt, Rat.not_le]; done) | (unfold checkE; rw [if_neg (by omega)]; simp_all [cmpQ_ge, Rat.not_lt, Rat.not_le]; grind)
     refine J.ret (KR.next (KR.ret (v := .int .i64 1) (()) [none] [] [] k_ v1_ (trivial) v1_))
    ·replace c14 := of_decide_eq_false c14
     refine RD.bq (nl [15, 16, 17, 18]) [3, 33] [] [(3, .int .i64 bits), (33, .bool (decide (bits < 0)))] k_ k_ ?_
     refine RD.split (t := 33) (decide (bits < 0)) k_ (fun c15 => ?_) (fun c15 => ?_)
     ·replace c15 := of_decide_eq_true c15
      refine RD.bq (nl [19, 20, 21]) [36] [] [(36, .bool true)] k_ k_ ?_
      refine RD.done k_ ?_
      refine KN.next ?_
      refine J.condT k_ ?_
      refine J.sreg ?_
      refine RN.bq (no 1) [8] [] 1 [(8, .int .i64 1)] k_ ?_
      refine RN.fin k_ ?_
      have e_1 : (checkE ps.length (qv c) (qv b) bits : Int) = (1 : Int) := by first | exact checkE_size h0 | (unfold checkE; rw [if_neg (by omega)]; simp_all [cmpQ_ge, Rat.not_lt, Rat.not_le]; done) | (unfold checkE; rw [if_neg (by omega)]; simp_all [cmpQ_ge, Rat.not_lt, Rat.not_le]; grind)
      refine J.ret (KR.next (KR.ret (v := .int .i64 1) (()) [none] [] [] k_ v1_ (trivial) v1_))
     ·replace c15 := of_decide_eq_false c15
      refine RD.bq (nl [19, 20, 21]) [36] [] [(36, .bool (decide (bits > 128)))] k_ k_ ?_
      refine RD.done k_ ?_
      refine KN.next ?_
      refine J.cond (decide (bits > 128)) k_ (fun c16 => ?_) (fun c16 => ?_)
      ·replace c16 := of_decide_eq_true c16
       refine J.sreg ?_
       refine RN.bq (no 1) [8] [] 1 [(8, .int .i64 1)] k_ ?_
       refine RN.fin k_ ?_
       have e_1 : (checkE ps.length (qv c) (qv b) bits : Int) = (1 : Int) := by first | exact checkE_size h0 | (unfold checkE; rw [if_neg (by omega)]; simp_all [cmpQ_ge, Rat.not_lt, Rat.not_le]; done) | (unfold checkE; rw [if_neg (by omega)]; simp_all [cmpQ_ge, Rat.not_lt, Rat.not_le]; grind)
       refine J.ret (KR.next (KR.ret (v := .int .i64 1) (()) [none] [] [] k_ v1_ (trivial) v1_))
      ·replace c16 := of_decide_eq_false c16
       refine J.skip ?_
       refine KN.next ?_
       refine J.sreg ?_
       refine RN.bq (no 1) [8] [] 1 [(8, .int .i64 0)] k_ ?_
       refine RN.fin k_ ?_
       have e_1 : (checkE ps.length (qv c) (qv b) bits : Int) = (0 : Int) := by first | exact checkE_size h0 | (unfold checkE; rw [if_neg (by omega)]; simp_all [cmpQ_ge, Rat.not_lt, Rat.not_le]; done) | (unfold checkE; rw [if_neg (by omega)]; simp_all [cmpQ_ge, Rat.not_lt, Rat.not_le]; grind)
       refine J.ret (KR.ret (v := .int .i64 0) (()) [none] [] [] k_ v1_ (trivial) v1_)
theorem cnt_b (p : Nat → Bool) (n : Nat) (h : n ≤ 1024) : -9223372036854775808 ≤ ((cntN p n : Nat) : Int) ∧ ((cntN p n : Nat) : Int) < 9223372036854775808 := by have := cntN_le p n; omega
def nzP (ps : List PR) (i : Nat) : Bool := decide (vals ps i ≠ 0)
theorem share_eq (ps : List PR) (n : Nat) : shareN (vals ps) n = ((cntN (nzP ps) n : Int) : Rat) / ((n : Int) : Rat) := rfl
theorem cnt_y {ps : List PR} {i : Nat} (h : Int.sign (qv (ps.getD i pr0).2).num ≠ 0) : cntN (nzP ps) i + 1 = cntN (nzP ps) (i + 1) := by
  rw [cntN, if_pos]
  rw [nzP, decide_eq_true_eq]
  intro h0
  exact h (by unfold vals at h0; rw [h0]; rfl)
theorem cnt_n {ps : List PR} {i : Nat} (h : Int.sign (qv (ps.getD i pr0).2).num = 0) : cntN (nzP ps) i = cntN (nzP ps) (i + 1) := by
  have hn : ¬ nzP ps i = true := by
    rw [nzP, decide_eq_true_eq]
    intro h0
    exact h0 (Rat.num_eq_zero.1 (Int.sign_eq_zero_iff_zero.1 h))
  rw [cntN, if_neg hn]; rfl
theorem y_m19_share {p : Prop} (h : p := by first | assumption | exact Lb_toL _ | omega | (simp; done) | first | exact Q.le hQ1 (by decide) | exact Q.le hQ2 (by decide) | (simp; omega)) : p := h
theorem m19_share (s : SA) (ps : List PR) (hps : ∀ i, i < ps.length → RQ 64 (ps.getD i pr0).2) (hn : ps.length ≤ 1024) : Spec Tryz.prog 55 #[sl s ps.length] [fRats s ps] (ι := RA) (fun y => ratV y (encQ (shareN (vals ps) ps.length))) (fun y => True) (fun y => [fRat y (encQ (shareN (vals ps) ps.length))]) := by
 refine Spec.of_body _ (fn := Tryz.f55) k_ rfl k_ (fun X w0 => ?_)
 refine J.fact (φ := ps.length ≤ 140737488355328) (fun w h => by have := (h _ (.head _)).1; omega) (fun hl1 => ?_)
 refine J.sreg ?_
 refine RN.new (fun b => pt b) (.cells (ratC (⟨saNil, saNil⟩ : RA) (⟨false, ([] : List Nat), ([] : List Nat)⟩ : Raw)) 27 (0, 0)) k_ k_ (fun w => by kernel_rfl) (fun b2 => ?_)
 refine RN.fs k_ ?_
 refine RN.bq (no 1) [0, 2, 3] [] 1 [(0, sl s ps.length), (2, pt b2), (3, .int .i64 0)] k_ ?_
 refine RN.fin k_ ?_
 refine J.seq ?_
 refine J.sreg ?_
 refine RN.bq (no 3) [0, 2, 3, 6, 7, 8] [] 3 [(0, sl s ps.length), (2, pt b2), (3, .int .i64 0), (6, sl s ps.length), (7, .int .i64 ((ps.length : Nat) : Int)), (8, .int .i64 0)] k_ ?_
 refine RN.fin k_ ?_
 refine J.block ?_
 refine J.loop (ι := (Nat) × (Nat)) (fun x => x.1 ≤ ps.length ∧ x.2 = cntN (nzP ps) x.1) (fun x => ps.length - x.1) (fun x => [(0, sl s ps.length), (2, pt b2), (3, .int .i64 ((x.2 : Nat) : Int)), (6, sl s ps.length), (7, .int .i64 ((ps.length : Nat) : Int)), (8, .int .i64 ((x.1 : Nat) : Int))]) (fun x => [(b2, .cells (ratC (⟨saNil, saNil⟩ : RA) (⟨false, ([] : List Nat), ([] : List Nat)⟩ : Raw)) 27 (0, 0))]) (fun x => [fRats s ps]) (0, 0) [0, 2, 3, 6, 7, 8] [0] (⟨Nat.zero_le _, rfl⟩) k_ (by first | rfl | (simp only [encQ_zero]; done) | (simp only [encQ_zero]; rfl)) (by rfl) (fun x3 hI => ?_)
 obtain ⟨i, k⟩ := x3
 replace hI : i ≤ ps.length ∧ k = cntN (nzP ps) i := hI
 obtain ⟨hI1, hI2⟩ := hI
 have hkb := cnt_b (nzP ps) i (by omega)
 have hkle := cntN_le (nzP ps) i
 refine J.sreg ?_
 refine RN.bq (no 1) [0, 2, 3, 6, 7, 8, 9] [] 1 [(0, sl s ps.length), (2, pt b2), (3, .int .i64 ((k : Nat) : Int)), (6, sl s ps.length), (7, .int .i64 ((ps.length : Nat) : Int)), (8, .int .i64 ((i : Nat) : Int)), (9, .bool (decide (((i : Nat) : Int) < ((ps.length : Nat) : Int))))] k_ ?_
 refine RN.fin k_ ?_
 refine J.seq ?_
 refine J.cond (decide (((i : Nat) : Int) < ((ps.length : Nat) : Int))) k_ (fun c4 => ?_) (fun c4 => ?_)
 ·replace c4 := of_decide_eq_true c4
  have hxr := hps i (by omega)
  have hxb := hxr.le (by decide : 64 ≤ 268435456)
  refine J.skip ?_
  refine KN.next ?_
  refine J.seq ?_
  refine J.block ?_
  refine J.sreg ?_
  refine RN.val _ k_ k_ (q_ridx (t := 22) (x := (.tmp 6)) (ix := (.tmp 8)) (K := .i64) (i0 := ((i : Nat) : Int)) (m := i) (e := 27) 0 rfl k_ k_ k_ k_ k_ (by omega) x_) ?_
  refine RN.val _ k_ k_ (q_rload (T := 27) (x := (.tmp 10)) (m := i) (s := s) (ps := ps) 0 rfl k_ k_ k_ k_ x_) ?_
  refine RN.also (fRat ((ps.getD i pr0).1) ((ps.getD i pr0).2)) (fun w h => rat_of (h _ (.head _)) x_) ?_
  refine RN.new (fun b => pt b) (.cells (ratC (⟨saNil, saNil⟩ : RA) (⟨false, ([] : List Nat), ([] : List Nat)⟩ : Raw)) 27 (0, 0)) k_ k_ (fun w => by kernel_rfl) (fun b5 => ?_)
  refine RN.bs [some 0] [0, 2, 3, 5, 6, 7, 8] [b5, b5, b5] 4 [(0, sl s ps.length), (2, pt b2), (3, .int .i64 ((k : Nat) : Int)), (5, pt b5), (6, sl s ps.length), (7, .int .i64 ((ps.length : Nat) : Int)), (8, .int .i64 ((i : Nat) : Int))] ([(b5, .cells (ratC ((ps.getD i pr0).1) ((ps.getD i pr0).2)) 27 (0, 0)), (b2, .cells (ratC (⟨saNil, saNil⟩ : RA) (⟨false, ([] : List Nat), ([] : List Nat)⟩ : Raw)) 27 (0, 0))]) k_ ?_
  refine RN.fs k_ ?_
  refine RN.bq [some 0] [0, 2, 3, 6, 7, 8, 12] [b5, b5, b5] 1 [(0, sl s ps.length), (2, pt b2), (3, .int .i64 ((k : Nat) : Int)), (6, sl s ps.length), (7, .int .i64 ((ps.length : Nat) : Int)), (8, .int .i64 ((i : Nat) : Int)), (12, ratV ((ps.getD i pr0).1) ((ps.getD i pr0).2))] k_ ?_
  refine RN.call (rational_Sign ((ps.getD i pr0).1) ((ps.getD i pr0).2) y_m19_share) [0] k_ k_ k_ rfl (fun y6 _ => ?_)
  refine RN.bq (no 1) [0, 2, 3, 6, 7, 8, 14] [] 3 [(0, sl s ps.length), (2, pt b2), (3, .int .i64 ((k : Nat) : Int)), (6, sl s ps.length), (7, .int .i64 ((ps.length : Nat) : Int)), (8, .int .i64 ((i : Nat) : Int)), (14, .bool (((Int.sign ((qv ((ps.getD i pr0).2)).num)) : Int) != 0))] k_ ?_
  refine RN.fin k_ ?_
  refine J.cond (((Int.sign ((qv ((ps.getD i pr0).2)).num)) : Int) != 0) k_ (fun c7 => ?_) (fun c7 => ?_)
  ·replace c7 := bne_iff_ne.1 c7
   refine J.regN ?_
   refine RN.bq (no 2) [0, 2, 6, 7, 8, 16] [] 2 [(0, sl s ps.length), (2, pt b2), (6, sl s ps.length), (7, .int .i64 ((ps.length : Nat) : Int)), (8, .int .i64 ((i : Nat) : Int)), (16, .int .i64 (IntKind.i64.wrap (((k : Nat) : Int) + 1)))] k_ ?_
   rw [show IntKind.i64.wrap (((k : Nat) : Int) + 1) = ((k + 1 : Nat) : Int) from by rw [IntKind.wrap_i64]; omega]
   refine RN.bq (no 1) [0, 2, 3, 6, 7, 8] [] 3 [(0, sl s ps.length), (2, pt b2), (3, .int .i64 ((k + 1 : Nat) : Int)), (6, sl s ps.length), (7, .int .i64 ((ps.length : Nat) : Int)), (8, .int .i64 ((i : Nat) : Int))] k_ ?_
   refine RN.done k_ ?_
   refine KN.blk ?_
   refine KN.next ?_
   refine J.regN ?_
   refine RN.bq (no 1) [0, 2, 3, 6, 7, 17] [] 1 [(0, sl s ps.length), (2, pt b2), (3, .int .i64 ((k + 1 : Nat) : Int)), (6, sl s ps.length), (7, .int .i64 ((ps.length : Nat) : Int)), (17, .int .i64 (IntKind.i64.wrap (((i : Nat) : Int) + 1)))] k_ ?_
   rw [show IntKind.i64.wrap (((i : Nat) : Int) + 1) = ((i + 1 : Nat) : Int) from by rw [IntKind.wrap_i64]; omega]
   refine RN.bq (no 1) [0, 2, 3, 6, 7, 8] [] 2 [(0, sl s ps.length), (2, pt b2), (3, .int .i64 ((k + 1 : Nat) : Int)), (6, sl s ps.length), (7, .int .i64 ((ps.length : Nat) : Int)), (8, .int .i64 ((i + 1 : Nat) : Int))] k_ ?_
   refine RN.done k_ ?_
   refine KN.dropF 1 ?_
   refine KN.roundE (i + 1, k + 1) [0, 2, 3, 6, 7, 8] [1] (l2 := [(0, sl s ps.length), (2, pt b2), (3, .int .i64 ((k + 1 : Nat) : Int)), (6, sl s ps.length), (7, .int .i64 ((ps.length : Nat) : Int)), (8, .int .i64 ((i + 1 : Nat) : Int))]) (by (try dsimp only); omega) (by (try dsimp only); exact ⟨by omega, by rw [hI2]; exact cnt_y ‹_›⟩) k_ (by rfl) (by rfl) (by rfl)
  ·replace c7 := bne_eq_false_iff_eq.1 c7
   refine J.skip ?_
   refine KN.blk ?_
   refine KN.next ?_
   refine J.regN ?_
   refine RN.bq (no 1) [0, 2, 3, 6, 7, 17] [] 1 [(0, sl s ps.length), (2, pt b2), (3, .int .i64 ((k : Nat) : Int)), (6, sl s ps.length), (7, .int .i64 ((ps.length : Nat) : Int)), (17, .int .i64 (IntKind.i64.wrap (((i : Nat) : Int) + 1)))] k_ ?_
   rw [show IntKind.i64.wrap (((i : Nat) : Int) + 1) = ((i + 1 : Nat) : Int) from by rw [IntKind.wrap_i64]; omega]
   refine RN.bq (no 1) [0, 2, 3, 6, 7, 8] [] 2 [(0, sl s ps.length), (2, pt b2), (3, .int .i64 ((k : Nat) : Int)), (6, sl s ps.length), (7, .int .i64 ((ps.length : Nat) : Int)), (8, .int .i64 ((i + 1 : Nat) : Int))] k_ ?_
   refine RN.done k_ ?_
   refine KN.dropF 1 ?_
   refine KN.roundE (i + 1, k) [0, 2, 3, 6, 7, 8] [1] (l2 := [(0, sl s ps.length), (2, pt b2), (3, .int .i64 ((k : Nat) : Int)), (6, sl s ps.length), (7, .int .i64 ((ps.length : Nat) : Int)), (8, .int .i64 ((i + 1 : Nat) : Int))]) (by (try dsimp only); omega) (by (try dsimp only); exact ⟨by omega, by rw [hI2]; exact cnt_n ‹_›⟩) k_ (by rfl) (by rfl) (by rfl)
 ·replace c4 := of_decide_eq_false c4
  have hi : i = ps.length := by omega
  subst hi
  have hQ1 := Q_int (v := ((k : Nat) : Int)) (by omega)
  have hQ2 := Q_int (v := ((ps.length : Nat) : Int)) (by omega)
  refine J.exit (KX.next (KX.next (KX.hit ?_)))
  refine KN.next ?_
  refine J.sreg ?_
  refine RN.bq (no 1) [0, 2, 18] [] 1 [(0, sl s ps.length), (2, pt b2), (18, .int .i64 ((k : Nat) : Int))] k_ ?_
  refine RN.call (rational_FromInt ((k : Nat) : Int) y_m19_share y_m19_share) [] k_ k_ k_ rfl (fun y8 _ => ?_)
  refine RN.bq (no 2) [2, 19, 21] [] 4 [(2, pt b2), (19, ratV y8 (encQ ((((k : Nat) : Int) : Int) : Rat))), (21, .int .i64 ((ps.length : Nat) : Int))] k_ ?_
  refine RN.call (rational_FromInt ((ps.length : Nat) : Int) y_m19_share y_m19_share) [] k_ k_ k_ rfl (fun y9 _ => ?_)
  refine RN.call (m19_quotient_c y8 ((((k : Nat) : Int) : Int) : Rat) y9 ((((ps.length : Nat) : Int) : Int) : Rat) y_m19_share y_m19_share) [1, 0] k_ k_ k_ rfl (fun y10 _ => ?_)
  refine RN.bs [some 0] [2] [b2, b2, b2] 7 [(2, pt b2)] ([(b2, .cells (ratC y10 (encQ (((((k : Nat) : Int) : Int) : Rat) / ((((ps.length : Nat) : Int) : Int) : Rat)))) 27 (0, 0))]) k_ ?_
  refine RN.fin k_ ?_
  have e_1 : (encQ (shareN (vals ps) ps.length)) = (encQ (((((k : Nat) : Int) : Int) : Rat) / ((((ps.length : Nat) : Int) : Int) : Rat))) := by rw [share_eq, ← hI2]
  refine J.ret (KR.ret (v := ratV y10 (encQ (((((k : Nat) : Int) : Int) : Rat) / ((((ps.length : Nat) : Int) : Int) : Rat)))) (y10) [some 0] [0] [b2, b2, b2] k_ v1_ (trivial) v1_)
def lenL (xs : List Nat) : Nat := if xs.length = 0 then 0 else 32 * xs.length - (32 - bl (xs.getD (xs.length - 1) 0))
theorem lenL_le (xs : List Nat) : lenL xs ≤ 32 * xs.length := by unfold lenL; split <;> omega
theorem y_m19_length {p : Prop} (h : p := by first | assumption | exact Lb_toL _ | omega | (simp; done) | exact hx.getD _) : p := h
theorem m19_length (s : SA) (xs : List Nat) (hx : Lb xs) (hl : xs.length ≤ 1073741824) : Spec Tryz.prog 90 #[sl s xs.length] [fU s xs] (ι := Unit) (fun y => .int .i64 ((lenL xs : Nat) : Int)) (fun y => True) (fun y => []) := by
 refine Spec.of_body _ (fn := Tryz.f90) k_ rfl k_ (fun X w0 => ?_)
 refine J.fact (φ := xs.length ≤ 140737488355328) (fun w h => by have := (h _ (.head _)).1; omega) (fun hl1 => ?_)
 refine J.sreg ?_
 refine RN.bq (no 1) [0] [] 1 [(0, sl s xs.length)] k_ ?_
 refine RN.fin k_ ?_
 refine J.seq ?_
 refine J.sreg ?_
 refine RN.bq (no 3) [0, 5] [] 3 [(0, sl s xs.length), (5, .bool ((((xs.length : Nat) : Int) : Int) == 0))] k_ ?_
 refine RN.fin k_ ?_
 refine J.cond ((((xs.length : Nat) : Int) : Int) == 0) k_ (fun c2 => ?_) (fun c2 => ?_)
 ·replace c2 := eq_of_beq c2
  refine J.sreg ?_
  refine RN.bq (no 1) [2] [] 1 [(2, .int .i64 0)] k_ ?_
  refine RN.fin k_ ?_
  have e_1 : (((lenL xs : Nat) : Int) : Int) = (0 : Int) := by unfold lenL; first | (rw [if_pos (show xs.length = 0 by omega)]; done) | (rw [if_pos (show xs.length = 0 by omega)]; rfl) | (rw [if_neg (show ¬ xs.length = 0 by omega)]; done) | (rw [if_neg (show ¬ xs.length = 0 by omega)]; rfl)
  refine J.ret (KR.next (KR.ret (v := .int .i64 0) (()) [none] [] [] k_ v1_ (trivial) v1_))
 ·replace c2 := ne_of_beq_false c2
  have hbl := bl_le32 (hx.getD (xs.length - 1))
  refine J.skip ?_
  refine KN.next ?_
  refine J.sreg ?_
  refine RN.bq (no 3) [0, 8] [] 3 [(0, sl s xs.length), (8, .int .i64 (IntKind.i64.wrap (32 * ((xs.length : Nat) : Int))))] k_ ?_
  rw [show IntKind.i64.wrap (32 * ((xs.length : Nat) : Int)) = ((32 * xs.length : Nat) : Int) from by rw [IntKind.wrap_i64]; omega]
  refine RN.bq (no 4) [8, 9, 12] [] 7 [(8, .int .i64 ((32 * xs.length : Nat) : Int)), (9, sl s xs.length), (12, .int .i64 (IntKind.i64.wrap (((xs.length : Nat) : Int) - 1)))] k_ ?_
  rw [show IntKind.i64.wrap (((xs.length : Nat) : Int) - 1) = ((xs.length - 1 : Nat) : Int) from by rw [IntKind.wrap_i64]; omega]
  refine RN.val _ k_ k_ (q_uidx (t := 23) (x := (.tmp 9)) (ix := (.tmp 12)) (K := .i64) (i0 := ((xs.length - 1 : Nat) : Int)) (m := xs.length - 1) (e := 82) 0 rfl k_ k_ k_ k_ k_ (by omega) x_) ?_
  refine RN.val _ k_ k_ (q_uload (T := 82) (x := (.tmp 13)) (m := xs.length - 1) (s := s) (xs := xs) 0 rfl k_ k_ k_ x_) ?_
  refine RN.call (bits_LeadingZeros32 (xs.getD (xs.length - 1) 0) y_m19_length) [] k_ k_ k_ rfl (fun y3 _ => ?_)
  refine RN.bq (no 1) [16] [] 11 [(16, .int .i64 (IntKind.i64.wrap (((32 * xs.length : Nat) : Int) - ((32 - bl (xs.getD (xs.length - 1) 0) : Nat) : Int))))] k_ ?_
  rw [show IntKind.i64.wrap (((32 * xs.length : Nat) : Int) - ((32 - bl (xs.getD (xs.length - 1) 0) : Nat) : Int)) = (((32 * xs.length) - (32 - bl (xs.getD (xs.length - 1) 0)) : Nat) : Int) from by rw [IntKind.wrap_i64]; omega]
  refine RN.bq (no 1) [2] [] 12 [(2, .int .i64 (((32 * xs.length) - (32 - bl (xs.getD (xs.length - 1) 0)) : Nat) : Int))] k_ ?_
  refine RN.fin k_ ?_
  have e_1 : (((lenL xs : Nat) : Int) : Int) = ((((32 * xs.length) - (32 - bl (xs.getD (xs.length - 1) 0)) : Nat) : Int) : Int) := by unfold lenL; first | (rw [if_pos (show xs.length = 0 by omega)]; done) | (rw [if_pos (show xs.length = 0 by omega)]; rfl) | (rw [if_neg (show ¬ xs.length = 0 by omega)]; done) | (rw [if_neg (show ¬ xs.length = 0 by omega)]; rfl)
  refine J.ret (KR.ret (v := .int .i64 (((32 * xs.length) - (32 - bl (xs.getD (xs.length - 1) 0)) : Nat) : Int)) (()) [none] [] [] k_ v1_ (trivial) v1_)
theorem m19_length_c (s : SA) (xs' : Nat) (hl : (toL xs').length ≤ 1073741824) : Spec Tryz.prog 90 #[sl s (toL xs').length] [fU s (toL xs')] (ι := Unit) (fun y => .int .i64 ((lenL (toL xs') : Nat) : Int)) (fun y => True) (fun y => []) := by
  have H := m19_length s (toL xs') (Lb_toL _) (by first | exact hl | simpa only [nv_toL] using hl)
  first | exact H | (simp only [nv_toL, lv_toL, validU_toL] at H; exact H)
def powL (n : Nat) : List Nat := (List.replicate (n / 32 + 1) 0).set (n / 32) (2 ^ (n % 32))
theorem shl1 {m : Nat} (h : m < 32) : 2 ^ m < 4294967296 := Nat.lt_of_lt_of_eq (Nat.pow_lt_pow_right (by decide) h) (by decide)
theorem rep_succ_set (k v : Nat) : (List.replicate (k + 1) 0).set k v = List.replicate k 0 ++ [v] := by
  induction k with
  | zero => rfl
  | succ k ih => rw [List.replicate_succ, List.set_cons_succ, ih]; rfl
theorem toL_shift (k v : Nat) (hv : 0 < v) (hb : v < 4294967296) : toL (W ^ k * v) = List.replicate k 0 ++ [v] := by
  induction k with
  | zero =>
    rw [Nat.pow_zero, Nat.one_mul, toL_pos (Nat.pos_iff_ne_zero.1 hv), show v / W = 0 from Nat.div_eq_of_lt hb, toL_zero, show v % W = v from Nat.mod_eq_of_lt hb]; rfl
  | succ k ih =>
    have e : W ^ (k + 1) * v = W * (W ^ k * v) := by rw [Nat.pow_succ, Nat.mul_comm (W ^ k) W, Nat.mul_assoc]
    have hp : 0 < W ^ k * v := Nat.mul_pos (Wpos k) hv
    rw [e, toL_pos (Nat.pos_iff_ne_zero.1 (Nat.mul_pos (by decide) hp)), Nat.mul_mod_right, Nat.mul_div_cancel_left _ (by decide), ih, List.replicate_succ]; rfl
theorem powL_eq (n : Nat) : powL n = toL (2 ^ n) := by
  have e : 2 ^ n = W ^ (n / 32) * 2 ^ (n % 32) := by
    rw [show W = 2 ^ 32 from by rw [W_eq], ← Nat.pow_mul, ← Nat.pow_add, Nat.div_add_mod]
  rw [powL, rep_succ_set, e, toL_shift _ _ (Nat.pow_pos (by decide)) (shl1 (Nat.mod_lt _ (by decide)))]
theorem powL_enc (n : Nat) : (⟨false, powL n, []⟩ : Raw) = encQ (two n) := by
  rw [powL_eq, two, encQ_int]
  congr 1
theorem P2_neg {k : Int} (h : k < 0) : P2 k = 1 / two k.natAbs := by unfold P2; rw [if_pos h, show (-k).toNat = k.natAbs from by omega]
theorem P2_nn {k : Int} (h : ¬ k < 0) : P2 k = two k.natAbs := by unfold P2; rw [if_neg h, show k.toNat = k.natAbs from by omega]
theorem powQ {k : Int} (h1 : -1000000 ≤ k) (h2 : k ≤ 1000000) : Q 31251 (two k.natAbs) := Q_two (by omega)
theorem y_m19_power {p : Prop} (h : p := by first | assumption | exact Lb_toL _ | omega | (simp; done) | first | exact RQ_enc Q1 | exact Q.le Q1 (by decide) | (show RQ 268435456 ⟨false, powL k.natAbs, []⟩; rw [hpe]; exact RQ_enc (hpq.le (by decide)))) : p := h
theorem m19_power (k : Int) (h1 : -1000000 ≤ k) (h2 : k ≤ 1000000) : Spec Tryz.prog 57 #[.int .i64 k] [] (ι := RA) (fun y => ratV y (encQ (P2 k))) (fun y => True) (fun y => [fRat y (encQ (P2 k))]) := by
 refine Spec.of_body _ (fn := Tryz.f57) k_ rfl k_ (fun X w0 => ?_)
 have hn : k.natAbs ≤ 1000000 := by omega
 have hm := Nat.mod_lt k.natAbs (by decide : 0 < 32)
 have hpw := shl1 hm
 have hpq := powQ h1 h2
 have hpe := powL_enc k.natAbs
 refine J.sreg ?_
 refine RN.new (fun b => pt b) (.cells (ratC (⟨saNil, saNil⟩ : RA) (⟨false, ([] : List Nat), ([] : List Nat)⟩ : Raw)) 27 (0, 0)) k_ k_ (fun w => by kernel_rfl) (fun b1 => ?_)
 refine RN.fs k_ ?_
 refine RN.bq (no 3) [0, 2, 6, 8] [] 3 [(0, .int .i64 k), (2, pt b1), (6, .int .i64 k), (8, .int .i64 (IntKind.i64.wrap (0 - k)))] k_ ?_
 rw [show IntKind.i64.wrap (0 - k) = (-k) from by rw [IntKind.wrap_i64]; omega]
 refine RN.bq (no 1) [0, 2, 9] [] 4 [(0, .int .i64 k), (2, pt b1), (9, .int .i64 (if (-k) > k then (-k) else k))] k_ ?_
 rw [show (if (-k) > k then (-k) else k) = ((k.natAbs : Nat) : Int) from by split <;> omega]
 refine RN.bq (no 1) [0, 2, 3] [] 5 [(0, .int .i64 k), (2, pt b1), (3, .int .i64 ((k.natAbs : Nat) : Int))] k_ ?_
 refine RN.fs k_ ?_
 refine RN.bq (no 2) [0, 2, 3, 11] [] 2 [(0, .int .i64 k), (2, pt b1), (3, .int .i64 ((k.natAbs : Nat) : Int)), (11, .int .i64 (IntKind.i64.wrap (Int.tdiv ((k.natAbs : Nat) : Int) 32)))] k_ ?_
 rw [show IntKind.i64.wrap (Int.tdiv ((k.natAbs : Nat) : Int) 32) = (((k.natAbs) / 32 : Nat) : Int) from by rw [show (32 : Int) = ((32 : Nat) : Int) from rfl, tdivn, IntKind.wrap_i64]; omega]
 refine RN.bq (no 1) [0, 2, 3, 12] [] 3 [(0, .int .i64 k), (2, pt b1), (3, .int .i64 ((k.natAbs : Nat) : Int)), (12, .int .i64 (IntKind.i64.wrap ((((k.natAbs) / 32 : Nat) : Int) + 1)))] k_ ?_
 rw [show IntKind.i64.wrap ((((k.natAbs) / 32 : Nat) : Int) + 1) = ((((k.natAbs) / 32) + 1 : Nat) : Int) from by rw [IntKind.wrap_i64]; omega]
 refine RN.make (e := 0) (m := (((k.natAbs) / 32) + 1)) (.cells (encU (List.replicate (((k.natAbs) / 32) + 1) 0)) 82 (0, 0)) k_ k_ (fun w => (q_make1 (t := 23) (m := (((k.natAbs) / 32) + 1)) (by_ := 4) (K := .i64) (K' := .i64) (n1 := ((((k.natAbs) / 32) + 1 : Nat) : Int)) (n2 := ((((k.natAbs) / 32) + 1 : Nat) : Int)) (x := (.tmp 12)) (y := (.tmp 12)) (e := 82) k_ k_ k_ (by omega) (by omega) k_ k_ rfl (by omega) (by omega) w).trans (by rw [encU_rep])) (fun b2 => ?_)
 refine RN.bq (no 1) [0, 2, 3, 4] [] 5 [(0, .int .i64 k), (2, pt b1), (3, .int .i64 ((k.natAbs : Nat) : Int)), (4, .slice (some ⟨b2, 0, none⟩) (((k.natAbs) / 32) + 1) (((k.natAbs) / 32) + 1))] k_ ?_
 refine RN.fs k_ ?_
 refine RN.bq (no 3) [0, 2, 3, 4, 14, 16] [] 3 [(0, .int .i64 k), (2, pt b1), (3, .int .i64 ((k.natAbs : Nat) : Int)), (4, .slice (some ⟨b2, 0, none⟩) (((k.natAbs) / 32) + 1) (((k.natAbs) / 32) + 1)), (14, .slice (some ⟨b2, 0, none⟩) (((k.natAbs) / 32) + 1) (((k.natAbs) / 32) + 1)), (16, .int .i64 (IntKind.i64.wrap (Int.tdiv ((k.natAbs : Nat) : Int) 32)))] k_ ?_
 rw [show IntKind.i64.wrap (Int.tdiv ((k.natAbs : Nat) : Int) 32) = (((k.natAbs) / 32 : Nat) : Int) from by rw [show (32 : Int) = ((32 : Nat) : Int) from rfl, tdivn, IntKind.wrap_i64]; omega]
 refine RN.bq (no 2) [0, 2, 4, 14, 16, 18] [] 5 [(0, .int .i64 k), (2, pt b1), (4, .slice (some ⟨b2, 0, none⟩) (((k.natAbs) / 32) + 1) (((k.natAbs) / 32) + 1)), (14, .slice (some ⟨b2, 0, none⟩) (((k.natAbs) / 32) + 1) (((k.natAbs) / 32) + 1)), (16, .int .i64 (((k.natAbs) / 32 : Nat) : Int)), (18, .int .i64 (Int.tmod ((k.natAbs : Nat) : Int) 32))] k_ ?_
 rw [show Int.tmod ((k.natAbs : Nat) : Int) 32 = (((k.natAbs) % 32 : Nat) : Int) from by rw [show (32 : Int) = ((32 : Nat) : Int) from rfl, tmodn]]
 refine RN.val _ k_ k_ (q_shl (T := 82) (T' := 3) (x := (.const (.int .u32 1))) (y := (.tmp 18)) (k := .u32) (k' := .i64) (a := 1) (b := (((k.natAbs) % 32 : Nat) : Int)) (m := ((k.natAbs) % 32)) k_ k_ k_ (by omega) (by simp only [IntKind.bits]; omega)) ?_
 rw [show (IntKind.u32.wrap (1 * 2 ^ ((k.natAbs) % 32))) = ((2 ^ (k.natAbs % 32) : Nat) : Int) from by exact uw32b _ (by simp) hpw]
 refine RN.val _ k_ k_ (q_oidx (t := 23) (x := (.tmp 14)) (ix := (.tmp 16)) (b := b2) (n := (((k.natAbs) / 32) + 1)) (c := (((k.natAbs) / 32) + 1)) (K := .i64) (i0 := (((k.natAbs) / 32 : Nat) : Int)) (m := (k.natAbs) / 32) (e := 82) (sz := 1) k_ k_ k_ k_ k_ (by omega) (by omega)) ?_
 refine RN.ot k_ k_ (ot_ustore (mi := 0) (T := 82) (x := (.tmp 20)) (y := (.tmp 19)) (b := b2) (m := (k.natAbs) / 32) (xs := List.replicate (((k.natAbs) / 32) + 1) 0) (v := ((2 ^ (k.natAbs % 32) : Nat) : Int)) (v0 := 2 ^ (k.natAbs % 32)) rfl k_ k_ k_ k_ k_ (by omega) (by (simp; try omega))) (fun _ _ => ?_)
 refine RN.fs k_ ?_
 refine RN.bq (no 1) [0, 2, 21] [] 1 [(0, .int .i64 k), (2, pt b1), (21, .slice (some ⟨b2, 0, none⟩) (((k.natAbs) / 32) + 1) (((k.natAbs) / 32) + 1))] k_ ?_
 refine RN.share 0 rfl rfl ?_
 refine RN.also (fU (⟨some ⟨b2, 0, none⟩, ((k.natAbs) / 32) + 1⟩ : SA) ((List.replicate (((k.natAbs) / 32) + 1) 0).set ((k.natAbs) / 32) (2 ^ (k.natAbs % 32)))) (fun w h => fU_own (h _ (.head _)) (by (simp; try omega)) (by (simp; try omega))) ?_
 refine RN.turn 21 (v := .slice (some ⟨b2, 0, none⟩) (((k.natAbs) / 32) + 1) (((k.natAbs) / 32) + 1)) (v' := sl (⟨some ⟨b2, 0, none⟩, ((k.natAbs) / 32) + 1⟩ : SA) ((List.replicate (((k.natAbs) / 32) + 1) 0).set ((k.natAbs) / 32) (2 ^ (k.natAbs % 32))).length) k_ (sl_eq (by (simp; try omega))) ?_
 refine RN.bq (no 2) [0, 2, 23] [] 3 [(0, .int .i64 k), (2, pt b1), (23, ratV (⟨(⟨some ⟨b2, 0, none⟩, ((k.natAbs) / 32) + 1⟩ : SA), saNil⟩ : RA) (⟨false, (List.replicate (((k.natAbs) / 32) + 1) 0).set ((k.natAbs) / 32) (2 ^ (k.natAbs % 32)), ([] : List Nat)⟩ : Raw))] k_ ?_
 refine RN.new (fun b => pt b) (.cells (ratC (⟨saNil, saNil⟩ : RA) (⟨false, ([] : List Nat), ([] : List Nat)⟩ : Raw)) 27 (0, 0)) k_ k_ (fun w => by kernel_rfl) (fun b3 => ?_)
 refine RN.bs [some 0] [0, 2, 5] [b3, b3, b3] 5 [(0, .int .i64 k), (2, pt b1), (5, pt b3)] ([(b3, .cells (ratC (⟨(⟨some ⟨b2, 0, none⟩, ((k.natAbs) / 32) + 1⟩ : SA), saNil⟩ : RA) (⟨false, (List.replicate (((k.natAbs) / 32) + 1) 0).set ((k.natAbs) / 32) (2 ^ (k.natAbs % 32)), ([] : List Nat)⟩ : Raw)) 27 (0, 0)), (b1, .cells (ratC (⟨saNil, saNil⟩ : RA) (⟨false, ([] : List Nat), ([] : List Nat)⟩ : Raw)) 27 (0, 0))]) k_ ?_
 refine RN.fin k_ ?_
 refine J.seq ?_
 refine J.sreg ?_
 refine RN.bq (no 2) [2, 5, 25] [] 2 [(2, pt b1), (5, pt b3), (25, .bool (decide (k < 0)))] k_ ?_
 refine RN.fin k_ ?_
 refine J.cond (decide (k < 0)) k_ (fun c4 => ?_) (fun c4 => ?_)
 ·replace c4 := of_decide_eq_true c4
  refine J.seq ?_
  refine J.regD k_ [3] ?_
  refine RD.bq [(1, some 0)] [2, 27] [b3, b3, b3] [(2, pt b1), (27, ratV (⟨(⟨some ⟨b2, 0, none⟩, ((k.natAbs) / 32) + 1⟩ : SA), saNil⟩ : RA) (⟨false, (List.replicate (((k.natAbs) / 32) + 1) 0).set ((k.natAbs) / 32) (2 ^ (k.natAbs % 32)), ([] : List Nat)⟩ : Raw))] k_ k_ ?_
  refine RD.call (i := 0) (m19_one) [] k_ k_ k_ k_ k_ rfl (fun y5 _ => ?_)
  refine RD.also (fRat (⟨(⟨some ⟨b2, 0, none⟩, ((k.natAbs) / 32) + 1⟩ : SA), saNil⟩ : RA) (⟨false, (List.replicate (((k.natAbs) / 32) + 1) 0).set ((k.natAbs) / 32) (2 ^ (k.natAbs % 32)), ([] : List Nat)⟩ : Raw)) (fun w h => ⟨(h _ (.tail _ ((.head _)))), fU_nil w⟩) k_ ?_
  refine RD.call (i := 2) (m19_quotient_c1 y5 (1 : Rat) ⟨(⟨some ⟨b2, 0, none⟩, ((k.natAbs) / 32) + 1⟩ : SA), saNil⟩ ⟨false, (List.replicate (((k.natAbs) / 32) + 1) 0).set ((k.natAbs) / 32) (2 ^ (k.natAbs % 32)), ([] : List Nat)⟩ y_m19_power y_m19_power) [1, 0] k_ k_ k_ k_ k_ rfl (fun y6 _ => ?_)
  refine RD.last (i := 3) (some 1) [2] [b1, b1, b1] k_ k_ k_ (l' := [(2, pt b1)]) (M' := [(b3, .cells (ratC (⟨(⟨some ⟨b2, 0, none⟩, ((k.natAbs) / 32) + 1⟩ : SA), saNil⟩ : RA) (⟨false, (List.replicate (((k.natAbs) / 32) + 1) 0).set ((k.natAbs) / 32) (2 ^ (k.natAbs % 32)), ([] : List Nat)⟩ : Raw)) 27 (0, 0)), (b1, .cells (ratC y6 (encQ ((1 : Rat) / (qv (⟨false, (List.replicate (((k.natAbs) / 32) + 1) 0).set ((k.natAbs) / 32) (2 ^ (k.natAbs % 32)), ([] : List Nat)⟩ : Raw))))) 27 (0, 0))]) k_ ?_
  refine RD.done k_ ?_
  refine KN.next ?_
  have e_1 : (encQ (P2 k)) = (encQ ((1 : Rat) / (qv (⟨false, (List.replicate (((k.natAbs) / 32) + 1) 0).set ((k.natAbs) / 32) (2 ^ (k.natAbs % 32)), ([] : List Nat)⟩ : Raw)))) := by show encQ (P2 k) = encQ (1 / qv ⟨false, powL k.natAbs, []⟩); rw [hpe, qv_encQ, P2_neg ‹_›]
  refine J.ret (KR.next (KR.ret (v := ratV y6 (encQ ((1 : Rat) / (qv (⟨false, (List.replicate (((k.natAbs) / 32) + 1) 0).set ((k.natAbs) / 32) (2 ^ (k.natAbs % 32)), ([] : List Nat)⟩ : Raw))))) (y6) [some 1] [0] [b1, b1, b1] k_ v1_ (trivial) v1_))
 ·replace c4 := of_decide_eq_false c4
  refine J.skip ?_
  refine KN.next ?_
  refine J.sreg ?_
  refine RN.bs [some 0, some 1] [2] [b1, b1, b1, b3, b3, b3] 2 [(2, pt b1)] ([(b3, .cells (ratC (⟨(⟨some ⟨b2, 0, none⟩, ((k.natAbs) / 32) + 1⟩ : SA), saNil⟩ : RA) (⟨false, (List.replicate (((k.natAbs) / 32) + 1) 0).set ((k.natAbs) / 32) (2 ^ (k.natAbs % 32)), ([] : List Nat)⟩ : Raw)) 27 (0, 0)), (b1, .cells (ratC (⟨(⟨some ⟨b2, 0, none⟩, ((k.natAbs) / 32) + 1⟩ : SA), saNil⟩ : RA) (⟨false, (List.replicate (((k.natAbs) / 32) + 1) 0).set ((k.natAbs) / 32) (2 ^ (k.natAbs % 32)), ([] : List Nat)⟩ : Raw)) 27 (0, 0))]) k_ ?_
  refine RN.fin k_ ?_
  have e_1 : (encQ (P2 k)) = (⟨false, (List.replicate (((k.natAbs) / 32) + 1) 0).set ((k.natAbs) / 32) (2 ^ (k.natAbs % 32)), ([] : List Nat)⟩ : Raw) := by first | exact (congrArg encQ (P2_nn ‹_›)).trans hpe.symm
  have e_2 : (toL (((P2 k).num).natAbs)) = ((List.replicate (((k.natAbs) / 32) + 1) 0).set ((k.natAbs) / 32) (2 ^ (k.natAbs % 32))) := congrArg Raw.mag e_1
  have e_3 : (toD ((P2 k).den)) = ([] : List Nat) := congrArg Raw.den e_1
  refine J.also (fRat (⟨(⟨some ⟨b2, 0, none⟩, ((k.natAbs) / 32) + 1⟩ : SA), saNil⟩ : RA) (⟨false, (List.replicate (((k.natAbs) / 32) + 1) 0).set ((k.natAbs) / 32) (2 ^ (k.natAbs % 32)), ([] : List Nat)⟩ : Raw)) (fun w h => ⟨(h _ (.head _)), fU_nil w⟩) ?_
  refine J.ret (KR.ret (v := ratV (⟨(⟨some ⟨b2, 0, none⟩, ((k.natAbs) / 32) + 1⟩ : SA), saNil⟩ : RA) (⟨false, (List.replicate (((k.natAbs) / 32) + 1) 0).set ((k.natAbs) / 32) (2 ^ (k.natAbs % 32)), ([] : List Nat)⟩ : Raw)) (⟨(⟨some ⟨b2, 0, none⟩, ((k.natAbs) / 32) + 1⟩ : SA), saNil⟩) [some 1] [0] [b1, b1, b1] k_ (by first | rfl | (rw [e_1]; done) | (simp only [e_1]; done) | (rw [e_2, e_3]; done) | (rw [e_1, e_2, e_3]; rfl) | (simp only [e_1, e_2, e_3]; done) | (simp only [e_1, e_2, e_3]; rfl)) (trivial) (by first | rfl | (rw [e_1]; done) | (simp only [e_1]; done) | (rw [e_2, e_3]; done) | (rw [e_1, e_2, e_3]; rfl) | (simp only [e_1, e_2, e_3]; done) | (simp only [e_1, e_2, e_3]; rfl)))
end Go.Proofs.YtegnonhgildhoaaGreat.E
namespace Go.Proofs.YtegnonhgildhoaaGreat.E
open Go Go.RowKit
set_option linter.unusedVariables false
set_option linter.unusedSimpArgs false
theorem about_b {a b : Nat} {z : Int} (ha : a ≤ 6176) (hb : b ≤ 6176) (hz : z = if (b : Int) > 1 then (b : Int) else 1) : -6400 ≤ (a : Int) - z ∧ (a : Int) - z ≤ 6400 := by
  subst hz; split <;> omega
theorem Q.num_len {k : Nat} {q : Rat} (h : Q k q) : (toL q.num.natAbs).length ≤ k := h.1
theorem Q.den_len {k : Nat} {q : Rat} (h : Q k q) : (toD q.den).length ≤ k := Nat.le_trans (toD_le _) h.2
theorem y_m19_about {p : Prop} (h : p := by first | assumption | exact Lb_toL _ | omega | (simp; done) | first | exact Q.le hc (by decide) | exact Q.le hI3 (by decide) | exact Q.le hxx (by decide) | exact Lb_toD _ | omega) : p := h
theorem m19_about (s : SA) (ps : List PR) (p : RA) (c : Raw) (hps : ∀ i, i < ps.length → RQ 64 (ps.getD i pr0).2) (hcR : RQ 268435456 c) (hc : Q 64 (qv c)) : Spec Tryz.prog 58 #[sl s ps.length, ratV p c] [fRats s ps, fRat p c] (ι := Int) (fun y => .int .i64 y) (fun y => -6400 ≤ y ∧ y ≤ 6400) (fun y => []) := by
 refine Spec.of_body _ (fn := Tryz.f58) k_ rfl k_ (fun X w0 => ?_)
 refine J.fact (φ := ps.length ≤ 140737488355328) (fun w h => by have := (h _ (.head _)).1; omega) (fun hl1 => ?_)
 refine J.fact (φ := c.mag.length ≤ 140737488355328 ∧ c.den.length ≤ 140737488355328) (fun w h => by have h1 := (h _ (.tail _ ((.head _)))).1.1; have h2 := (h _ (.tail _ ((.head _)))).2.1; omega) (fun hl2 => ?_)
 refine J.sreg ?_
 refine RN.new (fun b => pt b) (.cells (ratC p c) 27 (0, 0)) k_ k_ (fun w => by kernel_rfl) (fun b3 => ?_)
 refine RN.bq (no 1) [0, 3] [] 2 [(0, sl s ps.length), (3, pt b3)] k_ ?_
 refine RN.fs k_ ?_
 refine RN.new (fun b => pt b) (.cells (ratC (⟨saNil, saNil⟩ : RA) (⟨false, ([] : List Nat), ([] : List Nat)⟩ : Raw)) 27 (0, 0)) k_ k_ (fun w => by kernel_rfl) (fun b4 => ?_)
 refine RN.fin k_ ?_
 refine J.seq ?_
 refine J.sreg ?_
 refine RN.bq (no 3) [3, 5, 10, 11, 12] [] 3 [(3, pt b3), (5, pt b4), (10, sl s ps.length), (11, .int .i64 ((ps.length : Nat) : Int)), (12, .int .i64 0)] k_ ?_
 refine RN.fin k_ ?_
 refine J.block ?_
 refine J.also (fRat (⟨saNil, saNil⟩ : RA) (encQ 0)) (fun w h => fRat_zero w) ?_
 refine J.loop (ι := (Nat) × (RA) × (Rat)) (fun x => x.1 ≤ ps.length ∧ Q 128 x.2.2) (fun x => ps.length - x.1) (fun x => [(3, pt b3), (5, pt b4), (10, sl s ps.length), (11, .int .i64 ((ps.length : Nat) : Int)), (12, .int .i64 ((x.1 : Nat) : Int))]) (fun x => [(b4, .cells (ratC x.2.1 (encQ x.2.2)) 27 (0, 0)), (b3, .cells (ratC p c) 27 (0, 0))]) (fun x => [fRat x.2.1 (encQ x.2.2), fRats s ps, fRat p c]) (0, (⟨saNil, saNil⟩ : RA), 0) [3, 5, 10, 11, 12] [0, 1, 2] (⟨Nat.zero_le _, Q0.le (by decide)⟩) k_ (by first | rfl | (simp only [encQ_zero]; done) | (simp only [encQ_zero]; rfl)) (by rfl) (fun x5 hI => ?_)
 obtain ⟨i, so, S⟩ := x5
 replace hI : i ≤ ps.length ∧ Q 128 S := hI
 obtain ⟨hI1, hI3⟩ := hI
 refine J.sreg ?_
 refine RN.bq (no 1) [3, 5, 10, 11, 12, 13] [] 1 [(3, pt b3), (5, pt b4), (10, sl s ps.length), (11, .int .i64 ((ps.length : Nat) : Int)), (12, .int .i64 ((i : Nat) : Int)), (13, .bool (decide (((i : Nat) : Int) < ((ps.length : Nat) : Int))))] k_ ?_
 refine RN.fin k_ ?_
 refine J.seq ?_
 refine J.cond (decide (((i : Nat) : Int) < ((ps.length : Nat) : Int))) k_ (fun c6 => ?_) (fun c6 => ?_)
 ·replace c6 := of_decide_eq_true c6
  have hxr := hps i (by omega)
  have hxq := hxr.2.2.2.2
  have hxb := hxr.le (by decide : 64 ≤ 268435456)
  have hxx : Q 128 _ := hxq.mul hxq
  refine J.skip ?_
  refine KN.next ?_
  refine J.seq ?_
  refine J.block ?_
  refine J.sreg ?_
  refine RN.val _ k_ k_ (q_ridx (t := 22) (x := (.tmp 10)) (ix := (.tmp 12)) (K := .i64) (i0 := ((i : Nat) : Int)) (m := i) (e := 27) 1 rfl k_ k_ k_ k_ k_ (by omega) x_) ?_
  refine RN.val _ k_ k_ (q_rload (T := 27) (x := (.tmp 14)) (m := i) (s := s) (ps := ps) 1 rfl k_ k_ k_ k_ x_) ?_
  refine RN.also (fRat ((ps.getD i pr0).1) ((ps.getD i pr0).2)) (fun w h => rat_of (h _ (.tail _ ((.head _)))) x_) ?_
  refine RN.new (fun b => pt b) (.cells (ratC (⟨saNil, saNil⟩ : RA) (⟨false, ([] : List Nat), ([] : List Nat)⟩ : Raw)) 27 (0, 0)) k_ k_ (fun w => by kernel_rfl) (fun b7 => ?_)
  refine RN.bs [some 0] [3, 5, 7, 10, 11, 12] [b7, b7, b7] 4 [(3, pt b3), (5, pt b4), (7, pt b7), (10, sl s ps.length), (11, .int .i64 ((ps.length : Nat) : Int)), (12, .int .i64 ((i : Nat) : Int))] ([(b7, .cells (ratC ((ps.getD i pr0).1) ((ps.getD i pr0).2)) 27 (0, 0)), (b4, .cells (ratC so (encQ S)) 27 (0, 0)), (b3, .cells (ratC p c) 27 (0, 0))]) k_ ?_
  refine RN.fs k_ ?_
  refine RN.bq [some 0, some 0] [3, 5, 10, 11, 12, 16, 17] [b7, b7, b7, b7, b7, b7] 2 [(3, pt b3), (5, pt b4), (10, sl s ps.length), (11, .int .i64 ((ps.length : Nat) : Int)), (12, .int .i64 ((i : Nat) : Int)), (16, ratV ((ps.getD i pr0).1) ((ps.getD i pr0).2)), (17, ratV ((ps.getD i pr0).1) ((ps.getD i pr0).2))] k_ ?_
  refine RN.call (rational_Mul ((ps.getD i pr0).1) ((ps.getD i pr0).2) ((ps.getD i pr0).1) ((ps.getD i pr0).2) y_m19_about y_m19_about) [0, 0] k_ k_ k_ rfl (fun y8 _ => ?_)
  refine RN.new (fun b => pt b) (.cells (ratC (⟨saNil, saNil⟩ : RA) (⟨false, ([] : List Nat), ([] : List Nat)⟩ : Raw)) 27 (0, 0)) k_ k_ (fun w => by kernel_rfl) (fun b9 => ?_)
  refine RN.bs [some 0] [3, 5, 8, 10, 11, 12] [b9, b9, b9] 5 [(3, pt b3), (5, pt b4), (8, pt b9), (10, sl s ps.length), (11, .int .i64 ((ps.length : Nat) : Int)), (12, .int .i64 ((i : Nat) : Int))] ([(b9, .cells (ratC y8 (encQ ((qv ((ps.getD i pr0).2)) * (qv ((ps.getD i pr0).2))))) 27 (0, 0)), (b7, .cells (ratC ((ps.getD i pr0).1) ((ps.getD i pr0).2)) 27 (0, 0)), (b4, .cells (ratC so (encQ S)) 27 (0, 0)), (b3, .cells (ratC p c) 27 (0, 0))]) k_ ?_
  refine RN.fs k_ ?_
  refine RN.bq [some 0, some 2] [3, 5, 8, 10, 11, 12, 19, 20] [b4, b4, b4, b9, b9, b9] 2 [(3, pt b3), (5, pt b4), (8, pt b9), (10, sl s ps.length), (11, .int .i64 ((ps.length : Nat) : Int)), (12, .int .i64 ((i : Nat) : Int)), (19, ratV y8 (encQ ((qv ((ps.getD i pr0).2)) * (qv ((ps.getD i pr0).2))))), (20, ratV so (encQ S))] k_ ?_
  refine RN.call (rational_Compare_c y8 ((qv ((ps.getD i pr0).2)) * (qv ((ps.getD i pr0).2))) so S y_m19_about y_m19_about) [0, 2] k_ k_ k_ rfl (fun y10 _ => ?_)
  refine RN.bq (no 1) [3, 5, 8, 10, 11, 12, 22] [] 4 [(3, pt b3), (5, pt b4), (8, pt b9), (10, sl s ps.length), (11, .int .i64 ((ps.length : Nat) : Int)), (12, .int .i64 ((i : Nat) : Int)), (22, .bool (decide ((cmpQ ((qv ((ps.getD i pr0).2)) * (qv ((ps.getD i pr0).2))) S) > 0)))] k_ ?_
  refine RN.fin k_ ?_
  refine J.cond (decide ((cmpQ ((qv ((ps.getD i pr0).2)) * (qv ((ps.getD i pr0).2))) S) > 0)) k_ (fun c11 => ?_) (fun c11 => ?_)
  ·replace c11 := of_decide_eq_true c11
   refine J.regN ?_
   refine RN.bs [some 0, some 2] [3, 5, 10, 11, 12] [b4, b4, b4, b9, b9, b9] 2 [(3, pt b3), (5, pt b4), (10, sl s ps.length), (11, .int .i64 ((ps.length : Nat) : Int)), (12, .int .i64 ((i : Nat) : Int))] ([(b9, .cells (ratC y8 (encQ ((qv ((ps.getD i pr0).2)) * (qv ((ps.getD i pr0).2))))) 27 (0, 0)), (b7, .cells (ratC ((ps.getD i pr0).1) ((ps.getD i pr0).2)) 27 (0, 0)), (b4, .cells (ratC y8 (encQ ((qv ((ps.getD i pr0).2)) * (qv ((ps.getD i pr0).2))))) 27 (0, 0)), (b3, .cells (ratC p c) 27 (0, 0))]) k_ ?_
   refine RN.done k_ ?_
   refine KN.blk ?_
   refine KN.next ?_
   refine J.regN ?_
   refine RN.bq (no 1) [3, 5, 10, 11, 24] [] 1 [(3, pt b3), (5, pt b4), (10, sl s ps.length), (11, .int .i64 ((ps.length : Nat) : Int)), (24, .int .i64 (IntKind.i64.wrap (((i : Nat) : Int) + 1)))] k_ ?_
   rw [show IntKind.i64.wrap (((i : Nat) : Int) + 1) = ((i + 1 : Nat) : Int) from by rw [IntKind.wrap_i64]; omega]
   refine RN.bq (no 1) [3, 5, 10, 11, 12] [] 2 [(3, pt b3), (5, pt b4), (10, sl s ps.length), (11, .int .i64 ((ps.length : Nat) : Int)), (12, .int .i64 ((i + 1 : Nat) : Int))] k_ ?_
   refine RN.done k_ ?_
   refine KN.dropF 2 ?_
   refine KN.roundE (i + 1, y8, (qv ((ps.getD i pr0).2)) * (qv ((ps.getD i pr0).2))) [3, 5, 10, 11, 12] [0, 3, 4] (l2 := [(3, pt b3), (5, pt b4), (10, sl s ps.length), (11, .int .i64 ((ps.length : Nat) : Int)), (12, .int .i64 ((i + 1 : Nat) : Int))]) (by (try dsimp only); omega) (by (try dsimp only); exact ⟨by omega, hxx⟩) k_ (by rfl) (by rfl) (by rfl)
  ·replace c11 := of_decide_eq_false c11
   refine J.skip ?_
   refine KN.blk ?_
   refine KN.next ?_
   refine J.regN ?_
   refine RN.bq (no 1) [3, 5, 10, 11, 24] [] 1 [(3, pt b3), (5, pt b4), (10, sl s ps.length), (11, .int .i64 ((ps.length : Nat) : Int)), (24, .int .i64 (IntKind.i64.wrap (((i : Nat) : Int) + 1)))] k_ ?_
   rw [show IntKind.i64.wrap (((i : Nat) : Int) + 1) = ((i + 1 : Nat) : Int) from by rw [IntKind.wrap_i64]; omega]
   refine RN.bq (no 1) [3, 5, 10, 11, 12] [] 2 [(3, pt b3), (5, pt b4), (10, sl s ps.length), (11, .int .i64 ((ps.length : Nat) : Int)), (12, .int .i64 ((i + 1 : Nat) : Int))] k_ ?_
   refine RN.done k_ ?_
   refine KN.dropF 2 ?_
   refine KN.roundE (i + 1, so, S) [3, 5, 10, 11, 12] [2, 3, 4] (l2 := [(3, pt b3), (5, pt b4), (10, sl s ps.length), (11, .int .i64 ((ps.length : Nat) : Int)), (12, .int .i64 ((i + 1 : Nat) : Int))]) (by (try dsimp only); omega) (by (try dsimp only); exact ⟨by omega, hI3⟩) k_ (by rfl) (by rfl) (by rfl)
 ·replace c6 := of_decide_eq_false c6
  have hq := hI3.div hc
  have hq1 := hq.num_len
  have hq2 := hq.den_len
  refine J.exit (KX.next (KX.next (KX.hit ?_)))
  refine KN.next ?_
  refine J.sreg ?_
  refine RN.bq [some 0, some 1] [25, 26] [b3, b3, b3, b4, b4, b4] 2 [(25, ratV so (encQ S)), (26, ratV p c)] k_ ?_
  refine RN.call (m19_quotient_c1 so S p c y_m19_about y_m19_about) [0, 2] k_ k_ k_ rfl (fun y12 _ => ?_)
  refine RN.new (fun b => pt b) (.cells (ratC (⟨saNil, saNil⟩ : RA) (⟨false, ([] : List Nat), ([] : List Nat)⟩ : Raw)) 27 (0, 0)) k_ k_ (fun w => by kernel_rfl) (fun b13 => ?_)
  refine RN.bs [some 0] [9] [b13, b13, b13] 5 [(9, pt b13)] ([(b13, .cells (ratC y12 (encQ (S / (qv c)))) 27 (0, 0)), (b4, .cells (ratC so (encQ S)) 27 (0, 0)), (b3, .cells (ratC p c) 27 (0, 0))]) k_ ?_
  refine RN.fin k_ ?_
  refine J.seq ?_
  refine J.regD k_ [] ?_
  refine RD.bq [(0, none), (1, none), (2, some 0), (4, none), (5, some 0)] [30, 33] [b13, b13] [(30, sl y12.mag (toL (((S / (qv c)).num).natAbs)).length), (33, sl (y12.den) (toD ((S / (qv c)).den)).length)] k_ k_ ?_
  refine RD.also (fU y12.mag (toL (((S / (qv c)).num).natAbs))) (fun w h => (h _ (.head _)).1) k_ ?_
  refine RD.call (i := 3) (m19_length_c y12.mag (((S / (qv c)).num).natAbs) y_m19_about) [0] k_ k_ k_ k_ k_ rfl (fun y14 _ => ?_)
  have hA := lenL_le (toL ((S / (qv c)).num.natAbs))
  refine RD.also (fU (y12.den) (toD ((S / (qv c)).den))) (fun w h => (h _ (.tail _ ((.head _)))).2) k_ ?_
  refine RD.call (i := 6) (m19_length (y12.den) (toD ((S / (qv c)).den)) y_m19_about y_m19_about) [0] k_ k_ k_ k_ k_ rfl (fun y15 _ => ?_)
  have hB := lenL_le (toD ((S / (qv c)).den))
  refine RD.bq (nl [7, 8]) [36] [] [(36, .int .i64 (IntKind.i64.wrap (((lenL (toL (((S / (qv c)).num).natAbs)) : Nat) : Int) - (if ((lenL (toD ((S / (qv c)).den)) : Nat) : Int) > 1 then ((lenL (toD ((S / (qv c)).den)) : Nat) : Int) else 1))))] k_ k_ ?_
  rw [show IntKind.i64.wrap (((lenL (toL (((S / (qv c)).num).natAbs)) : Nat) : Int) - (if ((lenL (toD ((S / (qv c)).den)) : Nat) : Int) > 1 then ((lenL (toD ((S / (qv c)).den)) : Nat) : Int) else 1)) = (((lenL (toL (((S / (qv c)).num).natAbs)) : Nat) : Int) - (if ((lenL (toD ((S / (qv c)).den)) : Nat) : Int) > 1 then ((lenL (toD ((S / (qv c)).den)) : Nat) : Int) else 1)) from by rw [IntKind.wrap_i64]; split <;> omega]
  refine RD.bq (nl [9]) [4] [] [(4, .int .i64 (((lenL (toL (((S / (qv c)).num).natAbs)) : Nat) : Int) - (if ((lenL (toD ((S / (qv c)).den)) : Nat) : Int) > 1 then ((lenL (toD ((S / (qv c)).den)) : Nat) : Int) else 1)))] k_ k_ ?_
  refine RD.done k_ ?_
  refine KN.next ?_
  refine J.ret (KR.ret (v := .int .i64 (((lenL (toL (((S / (qv c)).num).natAbs)) : Nat) : Int) - (if ((lenL (toD ((S / (qv c)).den)) : Nat) : Int) > 1 then ((lenL (toD ((S / (qv c)).den)) : Nat) : Int) else 1))) (((lenL (toL (((S / (qv c)).num).natAbs)) : Nat) : Int) - (if ((lenL (toD ((S / (qv c)).den)) : Nat) : Int) > 1 then ((lenL (toD ((S / (qv c)).den)) : Nat) : Int) else 1)) [none] [] [] k_ rfl (about_b (by omega) (by omega) rfl) rfl)
theorem m19_double (p : RA) (r : Raw) (hr : RQ 268435456 r) : Spec Tryz.prog 59 #[ratV p r] [fRat p r] (ι := RA) (fun y => ratV y (encQ (qv r + qv r))) (fun y => True) (fun y => [fRat y (encQ (qv r + qv r))]) := by
 refine Spec.of_body _ (fn := Tryz.f59) k_ rfl k_ (fun X w0 => ?_)
 refine J.fact (φ := r.mag.length ≤ 140737488355328 ∧ r.den.length ≤ 140737488355328) (fun w h => by have h1 := (h _ (.head _)).1.1; have h2 := (h _ (.head _)).2.1; omega) (fun hl1 => ?_)
 refine J.sreg ?_
 refine RN.new (fun b => pt b) (.cells (ratC p r) 27 (0, 0)) k_ k_ (fun w => by kernel_rfl) (fun b2 => ?_)
 refine RN.new (fun b => pt b) (.cells (ratC (⟨saNil, saNil⟩ : RA) (⟨false, ([] : List Nat), ([] : List Nat)⟩ : Raw)) 27 (0, 0)) k_ k_ (fun w => by kernel_rfl) (fun b3 => ?_)
 refine RN.fs k_ ?_
 refine RN.bq [some 1, some 1] [2, 3, 4] [b2, b2, b2, b2, b2, b2] 2 [(2, pt b3), (3, ratV p r), (4, ratV p r)] k_ ?_
 refine RN.call (rational_Add p r p r y_ y_) [0, 0] k_ k_ k_ rfl (fun y4 _ => ?_)
 refine RN.bs [some 0] [2] [b3, b3, b3] 4 [(2, pt b3)] ([(b3, .cells (ratC y4 (encQ ((qv r) + (qv r)))) 27 (0, 0)), (b2, .cells (ratC p r) 27 (0, 0))]) k_ ?_
 refine RN.fin k_ ?_
 have e_1 : (encQ (qv r + qv r)) = (encQ ((qv r) + (qv r))) := by first | rfl | simp [*]
 refine J.ret (KR.ret (v := ratV y4 (encQ ((qv r) + (qv r)))) (y4) [some 0] [0] [b3, b3, b3] k_ v1_ (trivial) v1_)
theorem m19_double_c (p : RA) (r' : Rat) (hr : Q 268435456 r') : Spec Tryz.prog 59 #[ratV p (encQ r')] [fRat p (encQ r')] (ι := RA) (fun y => ratV y (encQ (r' + r'))) (fun y => True) (fun y => [fRat y (encQ (r' + r'))]) := by
  have H := m19_double p (encQ r') (RQ_enc hr)
  first | exact H | (simp only [qv_encQ, validQ_encQ] at H; exact H)
theorem y_m19_halve {p : Prop} (h : p := by first | assumption | exact Lb_toL _ | omega | (simp; done) | exact Q.le (Q_int (by decide)) (by decide)) : p := h
theorem m19_halve (p : RA) (r : Raw) (hr : RQ 268435456 r) : Spec Tryz.prog 60 #[ratV p r] [fRat p r] (ι := RA) (fun y => ratV y (encQ (qv r / 2))) (fun y => True) (fun y => [fRat y (encQ (qv r / 2))]) := by
 refine Spec.of_body _ (fn := Tryz.f60) k_ rfl k_ (fun X w0 => ?_)
 refine J.fact (φ := r.mag.length ≤ 140737488355328 ∧ r.den.length ≤ 140737488355328) (fun w h => by have h1 := (h _ (.head _)).1.1; have h2 := (h _ (.head _)).2.1; omega) (fun hl1 => ?_)
 refine J.sreg ?_
 refine RN.new (fun b => pt b) (.cells (ratC p r) 27 (0, 0)) k_ k_ (fun w => by kernel_rfl) (fun b2 => ?_)
 refine RN.new (fun b => pt b) (.cells (ratC (⟨saNil, saNil⟩ : RA) (⟨false, ([] : List Nat), ([] : List Nat)⟩ : Raw)) 27 (0, 0)) k_ k_ (fun w => by kernel_rfl) (fun b3 => ?_)
 refine RN.fin k_ ?_
 refine J.seq ?_
 refine J.regD k_ [3] ?_
 refine RD.bq [(0, some 1)] [2, 3] [b2, b2, b2] [(2, pt b3), (3, ratV p r)] k_ k_ ?_
 refine RD.call (i := 1) (rational_FromInt 2 y_m19_halve y_m19_halve) [] k_ k_ k_ k_ k_ rfl (fun y4 _ => ?_)
 refine RD.call (i := 2) (m19_quotient_c2 p r y4 ((2 : Int) : Rat) y_m19_halve y_m19_halve) [1, 0] k_ k_ k_ k_ k_ rfl (fun y5 _ => ?_)
 refine RD.last (i := 3) (some 0) [2] [b3, b3, b3] k_ k_ k_ (l' := [(2, pt b3)]) (M' := [(b3, .cells (ratC y5 (encQ ((qv r) / ((2 : Int) : Rat)))) 27 (0, 0)), (b2, .cells (ratC p r) 27 (0, 0))]) k_ ?_
 refine RD.done k_ ?_
 refine KN.next ?_
 have e_1 : (encQ (qv r / 2)) = (encQ ((qv r) / ((2 : Int) : Rat))) := by rfl
 refine J.ret (KR.ret (v := ratV y5 (encQ ((qv r) / ((2 : Int) : Rat)))) (y5) [some 0] [0] [b3, b3, b3] k_ v1_ (trivial) v1_)
theorem m19_halve_c (p : RA) (r' : Rat) (hr : Q 268435456 r') : Spec Tryz.prog 60 #[ratV p (encQ r')] [fRat p (encQ r')] (ι := RA) (fun y => ratV y (encQ (r' / 2))) (fun y => True) (fun y => [fRat y (encQ (r' / 2))]) := by
  have H := m19_halve p (encQ r') (RQ_enc hr)
  first | exact H | (simp only [qv_encQ, validQ_encQ] at H; exact H)
end Go.Proofs.YtegnonhgildhoaaGreat.E
namespace Go.Proofs.YtegnonhgildhoaaGreat.E
open Go Go.RowKit
set_option linter.unusedVariables false
set_option linter.unusedSimpArgs false
theorem Q_sumTo {c s : Rat} (ps : List PR) (hps : ∀ i, i < ps.length → RQ 64 (ps.getD i pr0).2) (hc : Q 64 c) (hs : Q 65536 s) : ∀ k, k ≤ ps.length → Q (197198 * k + 1) (sumTo (meanT c s) ps k)
  | 0, _ => Q0
  | k + 1, h => ((Q_sumTo ps hps hc hs k (by omega)).add (Q_term hc hs (hps k (by omega)).2.2.2.2).2.2.2).le (by omega)
theorem Q_mean {c s : Rat} (ps : List PR) (hps : ∀ i, i < ps.length → RQ 64 (ps.getD i pr0).2) (hc : Q 64 c) (hs : Q 65536 s) (hn : ps.length ≤ 1024) : Q 201930760 (sumTo (meanT c s) ps ps.length / ((((ps.length : Nat) : Int)) : Rat)) :=
  ((Q_sumTo ps hps hc hs ps.length (Nat.le_refl _)).div (Q_int (by omega))).le (by omega)
theorem y_m19_above {p : Prop} (h : p := by first | assumption | exact Lb_toL _ | omega | (simp; done) | first | exact ht.le (by decide) | exact hQm) : p := h
theorem m19_above (p' : RA) (t : Rat) (b1 : Nat) (b2 : Nat) (b3 : Nat) (s : SA) (ps : List PR) (p : RA) (c : Raw) (u : RA) (b : Raw) (hps : ∀ i, i < ps.length → RQ 64 (ps.getD i pr0).2) (hcR : RQ 268435456 c) (hbR : RQ 268435456 b) (hc : Q 64 (qv c)) (hb : Q 64 (qv b)) (ht : Q 65536 t) (hn : ps.length ≤ 1024) : SpecM Tryz.prog 56 #[ratV p' (encQ t), pt b1, pt b2, pt b3] [(b3, .cells (ratC u b) 27 (0, 0)), (b2, .cells (ratC p c) 27 (0, 0)), (b1, .cells #[sl s ps.length] 22 (0, 0))] [fRat p' (encQ t), fRats s ps, fRat p c, fRat u b] (ι := Unit) (fun y => .bool (decide ((qv b) < meanN (vals ps) ps.length (qv c) t))) (fun y => True) (fun y => [(b3, .cells (ratC u b) 27 (0, 0)), (b2, .cells (ratC p c) 27 (0, 0)), (b1, .cells #[sl s ps.length] 22 (0, 0))]) (fun y => []) := by
 refine SpecM.of_body _ (fn := Tryz.f56) k_ rfl k_ (fun X w0 => ?_)
 refine J.fact (φ := (encQ t).mag.length ≤ 140737488355328 ∧ (encQ t).den.length ≤ 140737488355328) (fun w h => by have h1 := (h _ (.head _)).1.1; have h2 := (h _ (.head _)).2.1; omega) (fun hl1 => ?_)
 refine J.fact (φ := ps.length ≤ 140737488355328) (fun w h => by have := (h _ (.tail _ ((.head _)))).1; omega) (fun hl2 => ?_)
 refine J.fact (φ := c.mag.length ≤ 140737488355328 ∧ c.den.length ≤ 140737488355328) (fun w h => by have h1 := (h _ (.tail _ ((.tail _ ((.head _)))))).1.1; have h2 := (h _ (.tail _ ((.tail _ ((.head _)))))).2.1; omega) (fun hl3 => ?_)
 refine J.fact (φ := b.mag.length ≤ 140737488355328 ∧ b.den.length ≤ 140737488355328) (fun w h => by have h1 := (h _ (.tail _ ((.tail _ ((.tail _ ((.head _)))))))).1.1; have h2 := (h _ (.tail _ ((.tail _ ((.tail _ ((.head _)))))))).2.1; omega) (fun hl4 => ?_)
 have hQm := (Q_mean ps hps hc ht hn).le (by decide : 201930760 ≤ 268435456)
 refine J.sreg ?_
 refine RN.new (fun b => pt b) (.cells (ratC p' (encQ t)) 27 (0, 0)) k_ k_ (fun w => by kernel_rfl) (fun b5 => ?_)
 refine RN.bq (no 1) [1, 2, 3, 4] [] 2 [(1, pt b1), (2, pt b2), (3, pt b3), (4, pt b5)] k_ ?_
 refine RN.fin k_ ?_
 refine J.seq ?_
 refine J.regD k_ [] ?_
 refine RD.bq [(0, some 3), (1, some 2), (2, some 0), (4, some 1)] [6, 7, 8, 10] [b3, b3, b3, b5, b5, b5, b2, b2, b2, b1] [(6, sl s ps.length), (7, ratV p c), (8, ratV p' (encQ t)), (10, ratV u b)] k_ k_ ?_
 refine RD.call (i := 3) (m19_mean_c2 s ps p c p' t y_m19_above y_m19_above y_m19_above y_m19_above y_m19_above y_m19_above) [1, 2, 0] k_ k_ k_ k_ k_ rfl (fun y6 _ => ?_)
 refine RD.call (i := 5) (rational_Compare_c1 y6 (sumTo (meanT (qv c) t) ps ps.length / ((((ps.length : Nat) : Int)) : Rat)) u b y_m19_above y_m19_above) [0, 4] k_ k_ k_ k_ k_ rfl (fun y7 _ => ?_)
 refine RD.bq (nl [6, 7]) [5] [] [(5, .bool (decide ((cmpQ (sumTo (meanT (qv c) t) ps ps.length / ((((ps.length : Nat) : Int)) : Rat)) (qv b)) > 0)))] k_ k_ ?_
 refine RD.done k_ ?_
 refine KN.next ?_
 refine J.dropF 1 ?_
 have e_1 : (decide ((qv b) < meanN (vals ps) ps.length (qv c) t)) = (decide ((cmpQ (sumTo (meanT (qv c) t) ps ps.length / ((((ps.length : Nat) : Int)) : Rat)) (qv b)) > 0)) := by rw [decide_eq_decide]; exact cmpQ_gt.symm
 refine J.ret (KR.retM (v := .bool (decide ((cmpQ (sumTo (meanT (qv c) t) ps ps.length / ((((ps.length : Nat) : Int)) : Rat)) (qv b)) > 0))) (()) [none] [] [] k_ v1_ (trivial) v1_ v1_)
end Go.Proofs.YtegnonhgildhoaaGreat.E
/- Plain law of Scale's loops, step by step. -/
namespace Go.Proofs.YtegnonhgildhoaaGreat.E
set_option linter.unusedVariables false
set_option linter.unusedSimpArgs false
structure SIn (x : Nat → Rat) (n : Nat) (c b : Rat) (bits : Int) : Prop where
  n0 : 0 < n
  n1 : n ≤ 1024
  hx : ∀ i, i < n → Q 64 (x i)
  hc : Q 64 c
  c0 : 0 < c
  hb : Q 64 b
  b0 : 0 < b
  hs : b < shareN x n
  t0 : 0 ≤ bits
  t1 : bits ≤ 128
structure L1 (ab : Int) (i : Nat) (H : Rat) : Prop where
  e : H = dy (P2 ab) (2 ^ i) 0
  le : i ≤ 14624
  a1 : -6400 ≤ ab
  a2 : ab ≤ 6400
theorem L1.start {ab : Int} (h : -6400 ≤ ab ∧ ab ≤ 6400) : L1 ab 0 (P2 ab) := ⟨by rw [Nat.pow_zero, dy_one], Nat.zero_le _, h.1, h.2⟩
theorem L1.Q {ab : Int} {i : Nat} {H : Rat} (h : L1 ab i H) : Q 664 H := by
  rw [h.e]
  have hp := P2_Q (e := ab) (l := 201) (by have := h.a1; omega) (by have := h.a2; omega) (by decide)
  obtain ⟨l, hl⟩ : ∃ l, l = 458 := ⟨_, rfl⟩
  exact (Q_dy hp (a := 2 ^ i) (l := l) (k := 0) (m := 1) (pow2_lt (by have := h.le; omega)) (by omega) (by decide)).le (by omega)
theorem L1.step {x : Nat → Rat} {n : Nat} {c b : Rat} {bits : Int} {ab : Int} {i : Nat} {H : Rat} (s : SIn x n c b bits) (h : L1 ab i H) (ha : b < meanN x n c H) : i < 14624 ∧ L1 ab (i + 1) (H + H) := by
  have hp := P2_le (e := ab) (l := 200) (by have := h.a1; omega) (by have := h.a2; omega)
  have hlt := loop1_stop s.n0 s.hx s.hc s.c0 s.hb s.b0 hp.2 (i := i) (by rw [← h.e]; exact ha)
  refine ⟨hlt, ?_, hlt, h.a1, h.a2⟩
  rw [h.e, dy_double, Nat.pow_succ, Nat.mul_comm]
theorem L1.done {ab : Int} {i : Nat} {H : Rat} (h : L1 ab i H) : 0 < H ∧ H ≤ KW 657 := by
  have hp := P2_le (e := ab) (l := 200) (by have := h.a1; omega) (by have := h.a2; omega)
  rw [h.e]
  exact ⟨dy_pos (P2_pos ab) (Nat.pow_pos (by decide)) 0, dy_le_KW (P2_pos ab) hp.1 h.le⟩
structure L2 (x : Nat → Rat) (n : Nat) (c b H : Rat) (j : Nat) (U L : Rat) : Prop where
  eu : U = dy H 1 j
  el : L = dy H 1 (j + 1)
  le : j ≤ 27168
  u : ¬ b < meanN x n c U
theorem L2.start {x : Nat → Rat} {n : Nat} {c b H : Rat} (h : ¬ b < meanN x n c H) : L2 x n c b H 0 H (H / 2) :=
  ⟨(dy_one H).symm, by rw [← dy_halve, dy_one], Nat.zero_le _, h⟩
theorem L2.step {x : Nat → Rat} {n : Nat} {c b H : Rat} {bits : Int} {j : Nat} {U L : Rat} (s : SIn x n c b bits) (hH : 0 < H ∧ H ≤ KW 657) (h : L2 x n c b H j U L) (ha : ¬ b < meanN x n c L) : j < 27168 ∧ L2 x n c b H (j + 1) L (L / 2) := by
  have := loop2_stop s.hx s.hc s.c0 s.hs hH.1 hH.2 (j := j + 1) (by rw [← h.el]; exact ha)
  exact ⟨by omega, h.el, by rw [h.el, dy_halve], by omega, ha⟩
theorem L2.Q {x : Nat → Rat} {n : Nat} {c b H : Rat} {j : Nat} {U L : Rat} (h : L2 x n c b H j U L) (hq : E.Q 664 H) : E.Q 1516 U ∧ E.Q 1516 L := by
  rw [h.eu, h.el]
  have hj := h.le
  exact ⟨(Q_dy hq (a := 1) (l := 1) (m := 850) (by decide +kernel) (by decide) (by omega)).le (by decide), (Q_dy hq (a := 1) (l := 1) (m := 850) (by decide +kernel) (by decide) (by omega)).le (by decide)⟩
structure L3 (x : Nat → Rat) (n : Nat) (c b l : Rat) (bits : Int) (a k : Nat) (U L : Rat) : Prop where
  el : L = dy l a k
  eu : U = dy l (a + 1) k
  a1 : 2 ^ k ≤ a
  a2 : a < 2 ^ (k + 1)
  le : k ≤ bits.toNat
  lo : b < meanN x n c L
  hi : ¬ b < meanN x n c U
  l0 : 0 < l
  hl : Q 1516 l
theorem L3.start {x : Nat → Rat} {n : Nat} {c b H : Rat} {j : Nat} {U L : Rat} {bits : Int} (hH : 0 < H) (hq : E.Q 664 H) (h : L2 x n c b H j U L) (ha : b < meanN x n c L) : L3 x n c b L bits 1 0 U L := by
  have e : U = dy L 2 0 := by
    have : dy H 1 j = dy H 1 (j + 1) + dy H 1 (j + 1) := by rw [← dy_halve]; grind
    rw [h.eu, this, ← h.el]
    have h2 := dy_double L 1 0
    rw [dy_one] at h2
    exact h2
  exact ⟨(dy_one L).symm, e, by decide, by decide, Nat.zero_le _, ha, h.u, by rw [h.el]; exact dy_pos hH (by decide) _, (h.Q hq).2⟩
theorem L3.Q {x : Nat → Rat} {n : Nat} {c b l : Rat} {bits : Int} {a k : Nat} {U L : Rat} (h : L3 x n c b l bits a k U L) (t0 : 0 ≤ bits) (t1 : bits ≤ 128) : E.Q 1530 U ∧ E.Q 1530 L ∧ E.Q 3064 ((L + U) / 2) ∧ E.Q 8 (P2 (-bits)) := by
  have hk : k ≤ 128 := by have := h.le; omega
  have ha : a + 1 < W ^ 5 := by
    have h1 : 2 ^ (k + 1) ≤ 2 ^ 129 := Nat.pow_le_pow_right (by decide) (by omega)
    have h2 : 2 ^ 129 + 1 < W ^ 5 := by decide +kernel
    have := h.a2
    omega
  have q1 : E.Q 1530 U := by rw [h.eu]; exact (Q_dy h.hl (l := 5) (m := 5) ha (by decide) (by omega)).le (by decide)
  have q2 : E.Q 1530 L := by rw [h.el]; exact (Q_dy h.hl (l := 5) (m := 5) (Nat.lt_of_succ_lt ha) (by decide) (by omega)).le (by decide)
  refine ⟨q1, q2, ?_, ?_⟩
  · have hh : E.Q 1 (2 : Rat) := ⟨by decide +kernel, by decide +kernel⟩
    have e : (L + U) / 2 = (L + U) * ((1 : Nat) : Int) / two 1 := by
      rw [show two 1 = (2 : Rat) from rfl, show ((((1 : Nat) : Int)) : Rat) = 1 from rfl]; grind
    rw [e]
    exact (Q_dy (q2.add q1) (a := 1) (l := 1) (k := 1) (m := 1) (by decide +kernel) (by decide) (by decide)).le (by decide)
  · exact (P2_Q (l := 5) (by omega) (by omega) (by decide)).le (by decide)
theorem L3.less {x : Nat → Rat} {n : Nat} {c b l : Rat} {bits : Int} {a k : Nat} {U L : Rat} (h : L3 x n c b l bits a k U L) (t0 : 0 ≤ bits) (ht : P2 (-bits) * U < U - L) : k < bits.toNat := by
  have e : -bits = -((bits.toNat : Nat) : Int) := by omega
  rw [e, h.eu, h.el] at ht
  exact loop3_stop h.l0 h.a1 ht
theorem L3.mid {x : Nat → Rat} {n : Nat} {c b l : Rat} {bits : Int} {a k : Nat} {U L : Rat} (h : L3 x n c b l bits a k U L) : (L + U) / 2 = dy l (2 * a + 1) (k + 1) := by
  rw [h.el, h.eu, dy_mid]
theorem L3.up {x : Nat → Rat} {n : Nat} {c b l : Rat} {bits : Int} {a k : Nat} {U L : Rat} (h : L3 x n c b l bits a k U L) (hk : k < bits.toNat) (ha : b < meanN x n c ((L + U) / 2)) : L3 x n c b l bits (2 * a + 1) (k + 1) U ((L + U) / 2) := by
  have p1 := h.a1
  have p2 := h.a2
  exact ⟨h.mid, by rw [h.eu, dy_up]; rfl, by rw [Nat.pow_succ]; omega, by rw [Nat.pow_succ]; omega, hk, ha, h.hi, h.l0, h.hl⟩
theorem L3.down {x : Nat → Rat} {n : Nat} {c b l : Rat} {bits : Int} {a k : Nat} {U L : Rat} (h : L3 x n c b l bits a k U L) (hk : k < bits.toNat) (ha : ¬ b < meanN x n c ((L + U) / 2)) : L3 x n c b l bits (2 * a) (k + 1) ((L + U) / 2) L := by
  have p1 := h.a1
  have p2 := h.a2
  exact ⟨by rw [h.el, dy_up], h.mid, by rw [Nat.pow_succ]; omega, by rw [Nat.pow_succ]; omega, hk, h.lo, ha, h.l0, h.hl⟩
theorem L3.done {x : Nat → Rat} {n : Nat} {c b l : Rat} {bits : Int} {a k : Nat} {U L : Rat} (h : L3 x n c b l bits a k U L) (t0 : 0 ≤ bits) (t1 : bits ≤ 128) (ht : ¬ P2 (-bits) * U < U - L) : ScaleOk x n c b bits L U := by
  obtain ⟨q1, q2, _, _⟩ := h.Q t0 t1
  refine ⟨by rw [h.el]; exact dy_pos h.l0 (Nat.lt_of_lt_of_le (Nat.pow_pos (by decide)) h.a1) k, ?_, h.lo, Rat.not_lt.1 h.hi, Rat.not_lt.1 ht, q2.le (by decide), q1.le (by decide)⟩
  rw [h.el, h.eu, dy_succ]
  have : 0 < l / two k := by rw [Rat.div_def]; exact Rat.mul_pos h.l0 (Rat.inv_pos.2 (two_pos k))
  grind
end Go.Proofs.YtegnonhgildhoaaGreat.E
namespace Go.Proofs.YtegnonhgildhoaaGreat.E
open Go Go.RowKit
set_option linter.unusedVariables false
set_option linter.unusedSimpArgs false
def ScaleR (x : Nat → Rat) (n : Nat) (c b : Rat) (bits : Int) (lo hi : Rat) : Prop := if checkE n c b bits ≠ 0 ∨ shareN x n ≤ b then lo = 0 ∧ hi = 0 else ScaleOk x n c b bits lo hi
theorem ScaleR_0 {x : Nat → Rat} {n : Nat} {c b : Rat} {bits : Int} (h : checkE n c b bits ≠ 0 ∨ shareN x n ≤ b) : ScaleR x n c b bits 0 0 := by unfold ScaleR; rw [if_pos h]; exact ⟨rfl, rfl⟩
theorem ScaleR_ok {x : Nat → Rat} {n : Nat} {c b : Rat} {bits : Int} {lo hi : Rat} (h1 : checkE n c b bits = 0) (h2 : ¬ shareN x n ≤ b) (h : ScaleOk x n c b bits lo hi) : ScaleR x n c b bits lo hi := by unfold ScaleR; rw [if_neg (by simp [h1, h2])]; exact h
theorem checkE_0 {n : Nat} {c b : Rat} {bits : Int} (h : checkE n c b bits = 0) : 0 < n ∧ n ≤ 1024 ∧ 0 < c ∧ 0 < b ∧ b < 1 ∧ 0 ≤ bits ∧ bits ≤ 128 := by
  unfold checkE at h
  split at h
  · contradiction
  · rename_i h0
    have h1 := sizeE_0 (Decidable.not_not.1 h0)
    split at h
    · rename_i h2; exact ⟨h1.1, h1.2, h2⟩
    · exact absurd h (by decide)
theorem Q_share (x : Nat → Rat) {n : Nat} (h : n ≤ 1024) : Q 5 (shareN x n) := by
  have := cntN_le (fun i => decide (x i ≠ 0)) n
  exact ((Q_int (v := ((cntN (fun i => decide (x i ≠ 0)) n : Nat) : Int)) (by omega)).div (Q_int (v := ((n : Nat) : Int)) (by omega)))
theorem y_m19_Scale {p : Prop} (h : p := by first | assumption | exact Lb_toL _ | omega | (simp; done) | first | exact Q.le hsq (by decide) | exact Q.le hc (by decide) | exact Q.le hb (by decide) | exact Q.le hHQ (by decide) | exact Q.le hUQ.1 (by decide) | exact Q.le hUQ.2 (by decide) | exact Q.le hQ1 (by decide) | exact Q.le hQ2 (by decide) | exact Q.le hQ3 (by decide) | exact Q.le hQ4 (by decide) | exact Q.le hQ5 (by decide) | exact Q.le hQ6 (by decide) | exact Q.le hQ7 (by decide) | omega) : p := h
theorem m19_Scale (s : SA) (ps : List PR) (p : RA) (c : Raw) (u : RA) (b : Raw) (bits : Int) (hps : ∀ i, i < ps.length → RQ 64 (ps.getD i pr0).2) (hcR : RQ 268435456 c) (hbR : RQ 268435456 b) (hc : Q 64 (qv c)) (hb : Q 64 (qv b)) : Spec Tryz.prog 18 #[sl s ps.length, ratV p c, ratV u b, .int .i64 bits] [fRats s ps, fRat p c, fRat u b] (ι := RA × RA × Rat × Rat) (fun y => .tuple #[.agg (ivC y.1 (encQ y.2.2.1) y.2.1 (encQ y.2.2.2)), .int .i64 (checkE ps.length (qv c) (qv b) bits)]) (fun y => ScaleR (vals ps) ps.length (qv c) (qv b) bits y.2.2.1 y.2.2.2) (fun y => [fRat y.1 (encQ y.2.2.1), fRat y.2.1 (encQ y.2.2.2)]) := by
 refine Spec.of_body _ (fn := Tryz.f18) k_ rfl k_ (fun X w0 => ?_)
 refine J.fact (φ := ps.length ≤ 140737488355328) (fun w h => by have := (h _ (.head _)).1; omega) (fun hl1 => ?_)
 refine J.fact (φ := c.mag.length ≤ 140737488355328 ∧ c.den.length ≤ 140737488355328) (fun w h => by have h1 := (h _ (.tail _ ((.head _)))).1.1; have h2 := (h _ (.tail _ ((.head _)))).2.1; omega) (fun hl2 => ?_)
 refine J.fact (φ := b.mag.length ≤ 140737488355328 ∧ b.den.length ≤ 140737488355328) (fun w h => by have h1 := (h _ (.tail _ ((.tail _ ((.head _)))))).1.1; have h2 := (h _ (.tail _ ((.tail _ ((.head _)))))).2.1; omega) (fun hl3 => ?_)
 refine J.sreg ?_
 refine RN.new (fun b => pt b) (.cells #[sl s ps.length] 22 (0, 0)) k_ k_ (fun w => by kernel_rfl) (fun b4 => ?_)
 refine RN.new (fun b => pt b) (.cells (ratC p c) 27 (0, 0)) k_ k_ (fun w => by kernel_rfl) (fun b5 => ?_)
 refine RN.new (fun b => pt b) (.cells (ratC u b) 27 (0, 0)) k_ k_ (fun w => by kernel_rfl) (fun b6 => ?_)
 refine RN.new (fun b => pt b) (.cells (ivC (⟨saNil, saNil⟩ : RA) (⟨false, ([] : List Nat), ([] : List Nat)⟩ : Raw) (⟨saNil, saNil⟩ : RA) (⟨false, ([] : List Nat), ([] : List Nat)⟩ : Raw)) 38 (0, 0)) k_ k_ (fun w => by kernel_rfl) (fun b7 => ?_)
 refine RN.bq (no 1) [3, 4, 5, 6, 8] [] 5 [(3, .int .i64 bits), (4, pt b4), (5, pt b5), (6, pt b6), (8, pt b7)] k_ ?_
 refine RN.fin k_ ?_
 refine J.seq ?_
 refine J.sreg ?_
 refine RN.bq [some 3, some 2, some 1, none] [3, 4, 5, 6, 8, 16, 17, 18, 19] [b6, b6, b6, b5, b5, b5, b4] 4 [(3, .int .i64 bits), (4, pt b4), (5, pt b5), (6, pt b6), (8, pt b7), (16, sl s ps.length), (17, ratV p c), (18, ratV u b), (19, .int .i64 bits)] k_ ?_
 refine RN.call (m19_Check s ps p c u b bits y_m19_Scale y_m19_Scale) [0, 1, 2] k_ k_ k_ rfl (fun y8 _ => ?_)
 refine RN.bq (no 1) [3, 4, 5, 6, 8, 10] [] 6 [(3, .int .i64 bits), (4, pt b4), (5, pt b5), (6, pt b6), (8, pt b7), (10, .int .i64 (checkE ps.length (qv c) (qv b) bits))] k_ ?_
 refine RN.fs k_ ?_
 refine RN.bq (no 2) [3, 4, 5, 6, 8, 10, 22] [] 2 [(3, .int .i64 bits), (4, pt b4), (5, pt b5), (6, pt b6), (8, pt b7), (10, .int .i64 (checkE ps.length (qv c) (qv b) bits)), (22, .bool (((checkE ps.length (qv c) (qv b) bits) : Int) != 0))] k_ ?_
 refine RN.fin k_ ?_
 refine J.cond (((checkE ps.length (qv c) (qv b) bits) : Int) != 0) k_ (fun c9 => ?_) (fun c9 => ?_)
 ·replace c9 := bne_iff_ne.1 c9
  have he := c9
  refine J.sreg ?_
  refine RN.bs [none, none, some 0, none] [8, 9] [b7, b7, b7, b7, b7, b7] 4 [(8, pt b7), (9, .int .i64 (checkE ps.length (qv c) (qv b) bits))] ([(b7, .cells (ivC (⟨saNil, saNil⟩ : RA) (⟨false, ([] : List Nat), ([] : List Nat)⟩ : Raw) (⟨saNil, saNil⟩ : RA) (⟨false, ([] : List Nat), ([] : List Nat)⟩ : Raw)) 38 (0, 0)), (b6, .cells (ratC u b) 27 (0, 0)), (b5, .cells (ratC p c) 27 (0, 0)), (b4, .cells #[sl s ps.length] 22 (0, 0))]) k_ ?_
  refine RN.fin k_ ?_
  have e_1 : encQ (0 : Rat) = (⟨false, ([] : List Nat), ([] : List Nat)⟩ : Raw) := encQ_zero
  have e_2 : encQ (0 : Rat) = (⟨false, ([] : List Nat), ([] : List Nat)⟩ : Raw) := encQ_zero
  refine J.also (fRat (⟨saNil, saNil⟩ : RA) (⟨false, ([] : List Nat), ([] : List Nat)⟩ : Raw)) (fun w h => ⟨fU_nil w, fU_nil w⟩) ?_
  refine J.ret (KR.next (KR.ret (v := .tuple #[.agg (ivC (⟨saNil, saNil⟩ : RA) (⟨false, ([] : List Nat), ([] : List Nat)⟩ : Raw) (⟨saNil, saNil⟩ : RA) (⟨false, ([] : List Nat), ([] : List Nat)⟩ : Raw)), .int .i64 (checkE ps.length (qv c) (qv b) bits)]) (⟨⟨saNil, saNil⟩, ⟨⟨saNil, saNil⟩, ⟨(0 : Rat), (0 : Rat)⟩⟩⟩) [some 0, none] [0, 0] [b7, b7, b7, b7, b7, b7] k_ v2_ (ScaleR_0 (.inl he)) v2_))
 ·replace c9 := bne_eq_false_iff_eq.1 c9
  have he : checkE ps.length (qv c) (qv b) bits = 0 := by simpa using c9
  obtain ⟨hn0, hn1, hc0, hb0, hb1, ht0, ht1⟩ := checkE_0 he
  have hsq := Q_share (vals ps) hn1
  refine J.skip ?_
  refine KN.next ?_
  refine J.seq ?_
  refine J.seq ?_
  refine J.regD k_ [] ?_
  refine RD.bq [(0, some 3), (2, some 1)] [3, 4, 5, 6, 8, 25, 27] [b6, b6, b6, b4] [(3, .int .i64 bits), (4, pt b4), (5, pt b5), (6, pt b6), (8, pt b7), (25, sl s ps.length), (27, ratV u b)] k_ k_ ?_
  refine RD.call (i := 1) (m19_share s ps y_m19_Scale y_m19_Scale) [0] k_ k_ k_ k_ k_ rfl (fun y10 _ => ?_)
  refine RD.call (i := 3) (rational_Compare_c1 y10 (shareN (vals ps) ps.length) u b y_m19_Scale y_m19_Scale) [0, 3] k_ k_ k_ k_ k_ rfl (fun y11 _ => ?_)
  refine RD.bq (nl [4]) [3, 4, 5, 6, 8, 29] [] [(3, .int .i64 bits), (4, pt b4), (5, pt b5), (6, pt b6), (8, pt b7), (29, .bool (decide ((cmpQ (shareN (vals ps) ps.length) (qv b)) ≤ 0)))] k_ k_ ?_
  refine RD.done k_ ?_
  refine KN.next ?_
  refine J.cond (decide ((cmpQ (shareN (vals ps) ps.length) (qv b)) ≤ 0)) k_ (fun c12 => ?_) (fun c12 => ?_)
  ·replace c12 := of_decide_eq_true c12
   have hle : shareN (vals ps) ps.length ≤ qv b := Rat.not_lt.1 (cmpQ_le.1 c12)
   refine J.sreg ?_
   refine RN.bs [none, some 0, none] [8, 9] [b7, b7, b7, b7, b7, b7] 3 [(8, pt b7), (9, .int .i64 0)] ([(b7, .cells (ivC (⟨saNil, saNil⟩ : RA) (⟨false, ([] : List Nat), ([] : List Nat)⟩ : Raw) (⟨saNil, saNil⟩ : RA) (⟨false, ([] : List Nat), ([] : List Nat)⟩ : Raw)) 38 (0, 0)), (b6, .cells (ratC u b) 27 (0, 0)), (b5, .cells (ratC p c) 27 (0, 0)), (b4, .cells #[sl s ps.length] 22 (0, 0))]) k_ ?_
   refine RN.fin k_ ?_
   have e_1 : encQ (0 : Rat) = (⟨false, ([] : List Nat), ([] : List Nat)⟩ : Raw) := encQ_zero
   have e_2 : encQ (0 : Rat) = (⟨false, ([] : List Nat), ([] : List Nat)⟩ : Raw) := encQ_zero
   have e_3 : (checkE ps.length (qv c) (qv b) bits : Int) = (0 : Int) := by exact he
   refine J.also (fRat (⟨saNil, saNil⟩ : RA) (⟨false, ([] : List Nat), ([] : List Nat)⟩ : Raw)) (fun w h => ⟨fU_nil w, fU_nil w⟩) ?_
   refine J.ret (KR.next (KR.ret (v := .tuple #[.agg (ivC (⟨saNil, saNil⟩ : RA) (⟨false, ([] : List Nat), ([] : List Nat)⟩ : Raw) (⟨saNil, saNil⟩ : RA) (⟨false, ([] : List Nat), ([] : List Nat)⟩ : Raw)), .int .i64 0]) (⟨⟨saNil, saNil⟩, ⟨⟨saNil, saNil⟩, ⟨(0 : Rat), (0 : Rat)⟩⟩⟩) [some 0, none] [0, 0] [b7, b7, b7, b7, b7, b7] k_ v3_ (ScaleR_0 (.inr hle)) v3_))
  ·replace c12 := of_decide_eq_false c12
   have hnle : ¬ shareN (vals ps) ps.length ≤ qv b := fun h => c12 (cmpQ_le.2 (Rat.not_lt.2 h))
   have hin : SIn (vals ps) ps.length (qv c) (qv b) bits := ⟨hn0, hn1, fun i hi => (hps i hi).2.2.2.2, hc, hc0, hb, hb0, Rat.not_le.1 hnle, ht0, ht1⟩
   refine J.skip ?_
   refine KN.next ?_
   refine J.sreg ?_
   refine RN.bq (no 2) [3, 4, 5, 8, 11] [] 2 [(3, .int .i64 bits), (4, pt b4), (5, pt b5), (8, pt b7), (11, .func (.func 56) #[] #[pt b4, pt b5, pt b6])] k_ ?_
   refine RN.fs k_ ?_
   refine RN.bq [some 3, some 2] [3, 8, 11, 32, 33] [b5, b5, b5, b4] 2 [(3, .int .i64 bits), (8, pt b7), (11, .func (.func 56) #[] #[pt b4, pt b5, pt b6]), (32, sl s ps.length), (33, ratV p c)] k_ ?_
   refine RN.call (m19_about s ps p c y_m19_Scale y_m19_Scale y_m19_Scale) [1, 2] k_ k_ k_ rfl (fun ab h13 => ?_)
   have hab := h13
   have hpq := (L1.start hab).Q
   refine RN.call (m19_power ab y_m19_Scale y_m19_Scale) [] k_ k_ k_ rfl (fun y14 _ => ?_)
   refine RN.new (fun b => pt b) (.cells (ratC (⟨saNil, saNil⟩ : RA) (⟨false, ([] : List Nat), ([] : List Nat)⟩ : Raw)) 27 (0, 0)) k_ k_ (fun w => by kernel_rfl) (fun b15 => ?_)
   refine RN.bs [some 0] [3, 8, 11, 12] [b15, b15, b15] 6 [(3, .int .i64 bits), (8, pt b7), (11, .func (.func 56) #[] #[pt b4, pt b5, pt b6]), (12, pt b15)] ([(b15, .cells (ratC y14 (encQ (P2 ab))) 27 (0, 0)), (b7, .cells (ivC (⟨saNil, saNil⟩ : RA) (⟨false, ([] : List Nat), ([] : List Nat)⟩ : Raw) (⟨saNil, saNil⟩ : RA) (⟨false, ([] : List Nat), ([] : List Nat)⟩ : Raw)) 38 (0, 0)), (b6, .cells (ratC u b) 27 (0, 0)), (b5, .cells (ratC p c) 27 (0, 0)), (b4, .cells #[sl s ps.length] 22 (0, 0))]) k_ ?_
   refine RN.fin k_ ?_
   refine J.seq ?_
   refine J.block ?_
   refine J.loop (ι := (Nat) × (RA) × (Rat)) (fun x => L1 ab x.1 x.2.2) (fun x => 14624 - x.1) (fun x => [(3, .int .i64 bits), (8, pt b7), (11, .func (.func 56) #[] #[pt b4, pt b5, pt b6]), (12, pt b15)]) (fun x => [(b15, .cells (ratC x.2.1 (encQ x.2.2)) 27 (0, 0)), (b7, .cells (ivC (⟨saNil, saNil⟩ : RA) (⟨false, ([] : List Nat), ([] : List Nat)⟩ : Raw) (⟨saNil, saNil⟩ : RA) (⟨false, ([] : List Nat), ([] : List Nat)⟩ : Raw)) 38 (0, 0)), (b6, .cells (ratC u b) 27 (0, 0)), (b5, .cells (ratC p c) 27 (0, 0)), (b4, .cells #[sl s ps.length] 22 (0, 0))]) (fun x => [fRat x.2.1 (encQ x.2.2), fRat y14 (encQ (P2 ab)), fRat y10 (encQ (shareN (vals ps) ps.length)), fRats s ps, fRat p c, fRat u b]) (0, y14, P2 ab) [3, 8, 11, 12] [0, 0, 1, 2, 3, 4] (L1.start hab) k_ (by first | rfl | (simp only [encQ_zero]; done) | (simp only [encQ_zero]; rfl)) (by rfl) (fun x16 hI => ?_)
   obtain ⟨i, ho, H⟩ := x16
   replace hI : L1 ab i H := hI
   have hHQ := L1.Q hI
   refine J.seq ?_
   refine J.sreg ?_
   refine RN.bq [none, some 0] [3, 8, 11, 12, 36, 37] [b15, b15, b15] 2 [(3, .int .i64 bits), (8, pt b7), (11, .func (.func 56) #[] #[pt b4, pt b5, pt b6]), (12, pt b15), (36, .func (.func 56) #[] #[pt b4, pt b5, pt b6]), (37, ratV ho (encQ H))] k_ ?_
   refine RN.callM (m19_above ho H b4 b5 b6 s ps p c u b y_m19_Scale y_m19_Scale y_m19_Scale y_m19_Scale y_m19_Scale y_m19_Scale y_m19_Scale) [(b15, .cells (ratC ho (encQ H)) 27 (0, 0)), (b7, .cells (ivC (⟨saNil, saNil⟩ : RA) (⟨false, ([] : List Nat), ([] : List Nat)⟩ : Raw) (⟨saNil, saNil⟩ : RA) (⟨false, ([] : List Nat), ([] : List Nat)⟩ : Raw)) 38 (0, 0))] ([]) [0, 3, 4, 5] k_ k_ k_ rfl rfl (fun y17 _ => ?_)
   refine RN.fin k_ ?_
   refine J.cond (decide ((qv b) < meanN (vals ps) ps.length (qv c) H)) k_ (fun c18 => ?_) (fun c18 => ?_)
   ·replace c18 := of_decide_eq_true c18
    have hst := L1.step hin hI c18
    refine J.skip ?_
    refine KN.next ?_
    refine J.block ?_
    refine J.regN ?_
    refine RN.bq [some 0] [3, 8, 11, 12, 39] [b15, b15, b15] 1 [(3, .int .i64 bits), (8, pt b7), (11, .func (.func 56) #[] #[pt b4, pt b5, pt b6]), (12, pt b15), (39, ratV ho (encQ H))] k_ ?_
    refine RN.call (m19_double_c ho H y_m19_Scale) [0] k_ k_ k_ rfl (fun y19 _ => ?_)
    refine RN.bs [some 0] [3, 8, 11, 12] [b15, b15, b15] 3 [(3, .int .i64 bits), (8, pt b7), (11, .func (.func 56) #[] #[pt b4, pt b5, pt b6]), (12, pt b15)] ([(b15, .cells (ratC y19 (encQ (H + H))) 27 (0, 0)), (b7, .cells (ivC (⟨saNil, saNil⟩ : RA) (⟨false, ([] : List Nat), ([] : List Nat)⟩ : Raw) (⟨saNil, saNil⟩ : RA) (⟨false, ([] : List Nat), ([] : List Nat)⟩ : Raw)) 38 (0, 0)), (b6, .cells (ratC u b) 27 (0, 0)), (b5, .cells (ratC p c) 27 (0, 0)), (b4, .cells #[sl s ps.length] 22 (0, 0))]) k_ ?_
    refine RN.done k_ ?_
    refine KN.blk ?_
    refine KN.roundE (i + 1, y19, H + H) [3, 8, 11, 12] [0, 2, 3, 4, 5, 6] (l2 := [(3, .int .i64 bits), (8, pt b7), (11, .func (.func 56) #[] #[pt b4, pt b5, pt b6]), (12, pt b15)]) (by (try dsimp only); omega) (by (try dsimp only); exact hst.2) k_ (by rfl) (by rfl) (by rfl)
   ·replace c18 := of_decide_eq_false c18
    have hna := c18
    have hH := L1.done hI
    refine J.exit (KX.next (KX.next (KX.hit ?_)))
    refine KN.next ?_
    refine J.sreg ?_
    refine RN.bq [some 0] [3, 8, 11, 12, 41] [b15, b15, b15] 1 [(3, .int .i64 bits), (8, pt b7), (11, .func (.func 56) #[] #[pt b4, pt b5, pt b6]), (12, pt b15), (41, ratV ho (encQ H))] k_ ?_
    refine RN.call (m19_halve_c ho H y_m19_Scale) [0] k_ k_ k_ rfl (fun y20 _ => ?_)
    refine RN.new (fun b => pt b) (.cells (ratC (⟨saNil, saNil⟩ : RA) (⟨false, ([] : List Nat), ([] : List Nat)⟩ : Raw)) 27 (0, 0)) k_ k_ (fun w => by kernel_rfl) (fun b21 => ?_)
    refine RN.bs [some 0] [3, 8, 11, 12, 13] [b21, b21, b21] 4 [(3, .int .i64 bits), (8, pt b7), (11, .func (.func 56) #[] #[pt b4, pt b5, pt b6]), (12, pt b15), (13, pt b21)] ([(b21, .cells (ratC y20 (encQ (H / 2))) 27 (0, 0)), (b15, .cells (ratC ho (encQ H)) 27 (0, 0)), (b7, .cells (ivC (⟨saNil, saNil⟩ : RA) (⟨false, ([] : List Nat), ([] : List Nat)⟩ : Raw) (⟨saNil, saNil⟩ : RA) (⟨false, ([] : List Nat), ([] : List Nat)⟩ : Raw)) 38 (0, 0)), (b6, .cells (ratC u b) 27 (0, 0)), (b5, .cells (ratC p c) 27 (0, 0)), (b4, .cells #[sl s ps.length] 22 (0, 0))]) k_ ?_
    refine RN.fin k_ ?_
    refine J.seq ?_
    refine J.block ?_
    refine J.loop (ι := (Nat) × (RA) × (Rat) × (RA) × (Rat)) (fun x => L2 (vals ps) ps.length (qv c) (qv b) H x.1 x.2.2.1 x.2.2.2.2) (fun x => 27168 - x.1) (fun x => [(3, .int .i64 bits), (8, pt b7), (11, .func (.func 56) #[] #[pt b4, pt b5, pt b6]), (12, pt b15), (13, pt b21)]) (fun x => [(b21, .cells (ratC x.2.2.2.1 (encQ x.2.2.2.2)) 27 (0, 0)), (b15, .cells (ratC x.2.1 (encQ x.2.2.1)) 27 (0, 0)), (b7, .cells (ivC (⟨saNil, saNil⟩ : RA) (⟨false, ([] : List Nat), ([] : List Nat)⟩ : Raw) (⟨saNil, saNil⟩ : RA) (⟨false, ([] : List Nat), ([] : List Nat)⟩ : Raw)) 38 (0, 0)), (b6, .cells (ratC u b) 27 (0, 0)), (b5, .cells (ratC p c) 27 (0, 0)), (b4, .cells #[sl s ps.length] 22 (0, 0))]) (fun x => [fRat x.2.1 (encQ x.2.2.1), fRat x.2.2.2.1 (encQ x.2.2.2.2), fRat y20 (encQ (H / 2)), fRat ho (encQ H), fRat y14 (encQ (P2 ab)), fRat y10 (encQ (shareN (vals ps) ps.length)), fRats s ps, fRat p c, fRat u b]) (0, ho, H, y20, H / 2) [3, 8, 11, 12, 13] [1, 0, 0, 1, 2, 3, 4, 5, 6] (L2.start hna) k_ (by first | rfl | (simp only [encQ_zero]; done) | (simp only [encQ_zero]; rfl)) (by rfl) (fun x22 hJ => ?_)
    obtain ⟨j, ho2, U, lo, Lo⟩ := x22
    replace hJ : L2 (vals ps) ps.length (qv c) (qv b) H j U Lo := hJ
    have hUQ := L2.Q hJ hHQ
    refine J.seq ?_
    refine J.sreg ?_
    refine RN.bq [none, some 0] [3, 8, 11, 12, 13, 43, 44] [b21, b21, b21] 2 [(3, .int .i64 bits), (8, pt b7), (11, .func (.func 56) #[] #[pt b4, pt b5, pt b6]), (12, pt b15), (13, pt b21), (43, .func (.func 56) #[] #[pt b4, pt b5, pt b6]), (44, ratV lo (encQ Lo))] k_ ?_
    refine RN.callM (m19_above lo Lo b4 b5 b6 s ps p c u b y_m19_Scale y_m19_Scale y_m19_Scale y_m19_Scale y_m19_Scale y_m19_Scale y_m19_Scale) [(b21, .cells (ratC lo (encQ Lo)) 27 (0, 0)), (b15, .cells (ratC ho2 (encQ U)) 27 (0, 0)), (b7, .cells (ivC (⟨saNil, saNil⟩ : RA) (⟨false, ([] : List Nat), ([] : List Nat)⟩ : Raw) (⟨saNil, saNil⟩ : RA) (⟨false, ([] : List Nat), ([] : List Nat)⟩ : Raw)) 38 (0, 0))] ([]) [1, 6, 7, 8] k_ k_ k_ rfl rfl (fun y23 _ => ?_)
    refine RN.bq (no 1) [3, 8, 11, 12, 13, 46] [] 4 [(3, .int .i64 bits), (8, pt b7), (11, .func (.func 56) #[] #[pt b4, pt b5, pt b6]), (12, pt b15), (13, pt b21), (46, .bool (!(decide ((qv b) < meanN (vals ps) ps.length (qv c) Lo))))] k_ ?_
    refine RN.fin k_ ?_
    refine J.cond (!(decide ((qv b) < meanN (vals ps) ps.length (qv c) Lo))) k_ (fun c24 => ?_) (fun c24 => ?_)
    ·replace c24 := of_decide_eq_false ((Bool.not_eq_true' _).mp c24)
     have hst := L2.step hin hH hJ c24
     refine J.skip ?_
     refine KN.next ?_
     refine J.block ?_
     refine J.regD k_ [3, 4] ?_
     refine RD.bq [(0, some 0), (1, some 0)] [3, 8, 11, 12, 13, 47, 48] [b21, b21, b21, b21, b21, b21] [(3, .int .i64 bits), (8, pt b7), (11, .func (.func 56) #[] #[pt b4, pt b5, pt b6]), (12, pt b15), (13, pt b21), (47, ratV lo (encQ Lo)), (48, ratV lo (encQ Lo))] k_ k_ ?_
     refine RD.call (i := 2) (m19_halve_c lo Lo y_m19_Scale) [1] k_ k_ k_ k_ k_ rfl (fun y25 _ => ?_)
     refine RD.last (i := 3) (some 1) [3, 8, 11, 12, 13, 49] [b15, b15, b15] k_ k_ k_ (l' := [(3, .int .i64 bits), (8, pt b7), (11, .func (.func 56) #[] #[pt b4, pt b5, pt b6]), (12, pt b15), (13, pt b21), (49, ratV y25 (encQ (Lo / 2)))]) (M' := [(b21, .cells (ratC lo (encQ Lo)) 27 (0, 0)), (b15, .cells (ratC lo (encQ Lo)) 27 (0, 0)), (b7, .cells (ivC (⟨saNil, saNil⟩ : RA) (⟨false, ([] : List Nat), ([] : List Nat)⟩ : Raw) (⟨saNil, saNil⟩ : RA) (⟨false, ([] : List Nat), ([] : List Nat)⟩ : Raw)) 38 (0, 0)), (b6, .cells (ratC u b) 27 (0, 0)), (b5, .cells (ratC p c) 27 (0, 0)), (b4, .cells #[sl s ps.length] 22 (0, 0))]) k_ ?_
     refine RD.last (i := 4) (some 0) [3, 8, 11, 12, 13] [b21, b21, b21] k_ k_ k_ (l' := [(3, .int .i64 bits), (8, pt b7), (11, .func (.func 56) #[] #[pt b4, pt b5, pt b6]), (12, pt b15), (13, pt b21)]) (M' := [(b21, .cells (ratC y25 (encQ (Lo / 2))) 27 (0, 0)), (b15, .cells (ratC lo (encQ Lo)) 27 (0, 0)), (b7, .cells (ivC (⟨saNil, saNil⟩ : RA) (⟨false, ([] : List Nat), ([] : List Nat)⟩ : Raw) (⟨saNil, saNil⟩ : RA) (⟨false, ([] : List Nat), ([] : List Nat)⟩ : Raw)) 38 (0, 0)), (b6, .cells (ratC u b) 27 (0, 0)), (b5, .cells (ratC p c) 27 (0, 0)), (b4, .cells #[sl s ps.length] 22 (0, 0))]) k_ ?_
     refine RD.done k_ ?_
     refine KN.blk ?_
     refine KN.roundE (j + 1, lo, Lo, y25, Lo / 2) [3, 8, 11, 12, 13] [2, 0, 3, 4, 5, 6, 7, 8, 9] (l2 := [(3, .int .i64 bits), (8, pt b7), (11, .func (.func 56) #[] #[pt b4, pt b5, pt b6]), (12, pt b15), (13, pt b21)]) (by (try dsimp only); omega) (by (try dsimp only); exact hst.2) k_ (by rfl) (by rfl) (by rfl)
    ·replace c24 := of_decide_eq_true ((Bool.not_eq_false' _).mp c24)
     have hyes := c24
     refine J.exit (KX.next (KX.next (KX.hit ?_)))
     refine KN.next ?_
     refine J.sreg ?_
     refine RN.bq (no 2) [8, 11, 12, 13, 51] [] 2 [(8, pt b7), (11, .func (.func 56) #[] #[pt b4, pt b5, pt b6]), (12, pt b15), (13, pt b21), (51, .int .i64 (IntKind.i64.wrap (0 - bits)))] k_ ?_
     rw [show IntKind.i64.wrap (0 - bits) = (-bits) from by rw [IntKind.wrap_i64]; omega]
     refine RN.call (m19_power (-bits) y_m19_Scale y_m19_Scale) [] k_ k_ k_ rfl (fun y26 _ => ?_)
     refine RN.new (fun b => pt b) (.cells (ratC (⟨saNil, saNil⟩ : RA) (⟨false, ([] : List Nat), ([] : List Nat)⟩ : Raw)) 27 (0, 0)) k_ k_ (fun w => by kernel_rfl) (fun b27 => ?_)
     refine RN.bs [some 0] [8, 11, 12, 13, 14] [b27, b27, b27] 5 [(8, pt b7), (11, .func (.func 56) #[] #[pt b4, pt b5, pt b6]), (12, pt b15), (13, pt b21), (14, pt b27)] ([(b27, .cells (ratC y26 (encQ (P2 (-bits)))) 27 (0, 0)), (b21, .cells (ratC lo (encQ Lo)) 27 (0, 0)), (b15, .cells (ratC ho2 (encQ U)) 27 (0, 0)), (b7, .cells (ivC (⟨saNil, saNil⟩ : RA) (⟨false, ([] : List Nat), ([] : List Nat)⟩ : Raw) (⟨saNil, saNil⟩ : RA) (⟨false, ([] : List Nat), ([] : List Nat)⟩ : Raw)) 38 (0, 0)), (b6, .cells (ratC u b) 27 (0, 0)), (b5, .cells (ratC p c) 27 (0, 0)), (b4, .cells #[sl s ps.length] 22 (0, 0))]) k_ ?_
     refine RN.fin k_ ?_
     refine J.seq ?_
     refine J.block ?_
     refine J.loop (ι := (Nat) × (Nat) × (RA) × (Rat) × (RA) × (Rat)) (fun x => L3 (vals ps) ps.length (qv c) (qv b) Lo bits x.1 x.2.1 x.2.2.2.1 x.2.2.2.2.2) (fun x => bits.toNat - x.2.1) (fun x => [(8, pt b7), (11, .func (.func 56) #[] #[pt b4, pt b5, pt b6]), (12, pt b15), (13, pt b21), (14, pt b27)]) (fun x => [(b27, .cells (ratC y26 (encQ (P2 (-bits)))) 27 (0, 0)), (b21, .cells (ratC x.2.2.2.2.1 (encQ x.2.2.2.2.2)) 27 (0, 0)), (b15, .cells (ratC x.2.2.1 (encQ x.2.2.2.1)) 27 (0, 0)), (b7, .cells (ivC (⟨saNil, saNil⟩ : RA) (⟨false, ([] : List Nat), ([] : List Nat)⟩ : Raw) (⟨saNil, saNil⟩ : RA) (⟨false, ([] : List Nat), ([] : List Nat)⟩ : Raw)) 38 (0, 0)), (b6, .cells (ratC u b) 27 (0, 0)), (b5, .cells (ratC p c) 27 (0, 0)), (b4, .cells #[sl s ps.length] 22 (0, 0))]) (fun x => [fRat x.2.2.1 (encQ x.2.2.2.1), fRat x.2.2.2.2.1 (encQ x.2.2.2.2.2), fRat y26 (encQ (P2 (-bits))), fRat ho2 (encQ U), fRat lo (encQ Lo), fRat y20 (encQ (H / 2)), fRat ho (encQ H), fRat y14 (encQ (P2 ab)), fRat y10 (encQ (shareN (vals ps) ps.length)), fRats s ps, fRat p c, fRat u b]) (1, 0, ho2, U, lo, Lo) [8, 11, 12, 13, 14] [1, 2, 0, 1, 2, 3, 4, 5, 6, 7, 8, 9] (L3.start hH.1 hHQ hJ hyes) k_ (by first | rfl | (simp only [encQ_zero]; done) | (simp only [encQ_zero]; rfl)) (by rfl) (fun x28 hK => ?_)
     obtain ⟨a, k, ho3, U3, lo3, L3v⟩ := x28
     replace hK : L3 (vals ps) ps.length (qv c) (qv b) Lo bits a k U3 L3v := hK
     obtain ⟨hQ1, hQ2, hQ3, hQ4⟩ := L3.Q hK hin.t0 hin.t1
     have hQ5 := hQ1.sub hQ2
     have hQ6 := hQ4.mul hQ1
     have hQ7 := hQ2.add hQ1
     refine J.seq ?_
     refine J.seq ?_
     refine J.regD k_ [] ?_
     refine RD.bq [(0, some 2), (1, some 1), (3, some 0), (4, some 2)] [8, 11, 12, 13, 14, 53, 54, 56, 57] [b15, b15, b15, b27, b27, b27, b21, b21, b21, b15, b15, b15] [(8, pt b7), (11, .func (.func 56) #[] #[pt b4, pt b5, pt b6]), (12, pt b15), (13, pt b21), (14, pt b27), (53, ratV ho3 (encQ U3)), (54, ratV lo3 (encQ L3v)), (56, ratV y26 (encQ (P2 (-bits)))), (57, ratV ho3 (encQ U3))] k_ k_ ?_
     refine RD.call (i := 2) (rational_Sub_c ho3 U3 lo3 L3v y_m19_Scale y_m19_Scale) [0, 1] k_ k_ k_ k_ k_ rfl (fun y29 _ => ?_)
     refine RD.call (i := 5) (rational_Mul_c y26 (P2 (-bits)) ho3 U3 y_m19_Scale y_m19_Scale) [3, 1] k_ k_ k_ k_ k_ rfl (fun y30 _ => ?_)
     refine RD.call (i := 6) (rational_Compare_c y29 (U3 - L3v) y30 ((P2 (-bits)) * U3) y_m19_Scale y_m19_Scale) [1, 0] k_ k_ k_ k_ k_ rfl (fun y31 _ => ?_)
     refine RD.bq (nl [7]) [8, 11, 12, 13, 14, 60] [] [(8, pt b7), (11, .func (.func 56) #[] #[pt b4, pt b5, pt b6]), (12, pt b15), (13, pt b21), (14, pt b27), (60, .bool (decide ((cmpQ (U3 - L3v) ((P2 (-bits)) * U3)) > 0)))] k_ k_ ?_
     refine RD.done k_ ?_
     refine KN.next ?_
     refine J.cond (decide ((cmpQ (U3 - L3v) ((P2 (-bits)) * U3)) > 0)) k_ (fun c32 => ?_) (fun c32 => ?_)
     ·replace c32 := of_decide_eq_true c32
      have hkb := L3.less hK hin.t0 (cmpQ_gt.1 c32)
      refine J.skip ?_
      refine KN.next ?_
      refine J.block ?_
      refine J.sreg ?_
      refine RN.bq [some 1, some 2] [8, 11, 12, 13, 14, 61, 62] [b15, b15, b15, b21, b21, b21] 2 [(8, pt b7), (11, .func (.func 56) #[] #[pt b4, pt b5, pt b6]), (12, pt b15), (13, pt b21), (14, pt b27), (61, ratV lo3 (encQ L3v)), (62, ratV ho3 (encQ U3))] k_ ?_
      refine RN.call (rational_Add_c lo3 L3v ho3 U3 y_m19_Scale y_m19_Scale) [3, 2] k_ k_ k_ rfl (fun y33 _ => ?_)
      refine RN.call (m19_halve_c y33 (L3v + U3) y_m19_Scale) [0] k_ k_ k_ rfl (fun y34 _ => ?_)
      refine RN.new (fun b => pt b) (.cells (ratC (⟨saNil, saNil⟩ : RA) (⟨false, ([] : List Nat), ([] : List Nat)⟩ : Raw)) 27 (0, 0)) k_ k_ (fun w => by kernel_rfl) (fun b35 => ?_)
      refine RN.bs [some 0] [8, 11, 12, 13, 14, 15] [b35, b35, b35] 6 [(8, pt b7), (11, .func (.func 56) #[] #[pt b4, pt b5, pt b6]), (12, pt b15), (13, pt b21), (14, pt b27), (15, pt b35)] ([(b35, .cells (ratC y34 (encQ ((L3v + U3) / 2))) 27 (0, 0)), (b27, .cells (ratC y26 (encQ (P2 (-bits)))) 27 (0, 0)), (b21, .cells (ratC lo3 (encQ L3v)) 27 (0, 0)), (b15, .cells (ratC ho3 (encQ U3)) 27 (0, 0)), (b7, .cells (ivC (⟨saNil, saNil⟩ : RA) (⟨false, ([] : List Nat), ([] : List Nat)⟩ : Raw) (⟨saNil, saNil⟩ : RA) (⟨false, ([] : List Nat), ([] : List Nat)⟩ : Raw)) 38 (0, 0)), (b6, .cells (ratC u b) 27 (0, 0)), (b5, .cells (ratC p c) 27 (0, 0)), (b4, .cells #[sl s ps.length] 22 (0, 0))]) k_ ?_
      refine RN.fs k_ ?_
      refine RN.bq [none, some 0] [8, 11, 12, 13, 14, 15, 65, 66] [b35, b35, b35] 2 [(8, pt b7), (11, .func (.func 56) #[] #[pt b4, pt b5, pt b6]), (12, pt b15), (13, pt b21), (14, pt b27), (15, pt b35), (65, .func (.func 56) #[] #[pt b4, pt b5, pt b6]), (66, ratV y34 (encQ ((L3v + U3) / 2)))] k_ ?_
      refine RN.callM (m19_above y34 ((L3v + U3) / 2) b4 b5 b6 s ps p c u b y_m19_Scale y_m19_Scale y_m19_Scale y_m19_Scale y_m19_Scale y_m19_Scale y_m19_Scale) [(b35, .cells (ratC y34 (encQ ((L3v + U3) / 2))) 27 (0, 0)), (b27, .cells (ratC y26 (encQ (P2 (-bits)))) 27 (0, 0)), (b21, .cells (ratC lo3 (encQ L3v)) 27 (0, 0)), (b15, .cells (ratC ho3 (encQ U3)) 27 (0, 0)), (b7, .cells (ivC (⟨saNil, saNil⟩ : RA) (⟨false, ([] : List Nat), ([] : List Nat)⟩ : Raw) (⟨saNil, saNil⟩ : RA) (⟨false, ([] : List Nat), ([] : List Nat)⟩ : Raw)) 38 (0, 0))] ([]) [0, 13, 14, 15] k_ k_ k_ rfl rfl (fun y36 _ => ?_)
      refine RN.fin k_ ?_
      refine J.cond (decide ((qv b) < meanN (vals ps) ps.length (qv c) ((L3v + U3) / 2))) k_ (fun c37 => ?_) (fun c37 => ?_)
      ·replace c37 := of_decide_eq_true c37
       have hup := L3.up hK hkb c37
       refine J.regN ?_
       refine RN.bs [some 0, some 2] [8, 11, 12, 13, 14] [b21, b21, b21, b35, b35, b35] 2 [(8, pt b7), (11, .func (.func 56) #[] #[pt b4, pt b5, pt b6]), (12, pt b15), (13, pt b21), (14, pt b27)] ([(b35, .cells (ratC y34 (encQ ((L3v + U3) / 2))) 27 (0, 0)), (b27, .cells (ratC y26 (encQ (P2 (-bits)))) 27 (0, 0)), (b21, .cells (ratC y34 (encQ ((L3v + U3) / 2))) 27 (0, 0)), (b15, .cells (ratC ho3 (encQ U3)) 27 (0, 0)), (b7, .cells (ivC (⟨saNil, saNil⟩ : RA) (⟨false, ([] : List Nat), ([] : List Nat)⟩ : Raw) (⟨saNil, saNil⟩ : RA) (⟨false, ([] : List Nat), ([] : List Nat)⟩ : Raw)) 38 (0, 0)), (b6, .cells (ratC u b) 27 (0, 0)), (b5, .cells (ratC p c) 27 (0, 0)), (b4, .cells #[sl s ps.length] 22 (0, 0))]) k_ ?_
       refine RN.done k_ ?_
       refine KN.blk ?_
       refine KN.dropF 1 ?_
       refine KN.roundE (2 * a + 1, k + 1, ho3, U3, y34, (L3v + U3) / 2) [8, 11, 12, 13, 14] [4, 0, 6, 7, 8, 9, 10, 11, 12, 13, 14, 15] (l2 := [(8, pt b7), (11, .func (.func 56) #[] #[pt b4, pt b5, pt b6]), (12, pt b15), (13, pt b21), (14, pt b27)]) (by (try dsimp only); omega) (by (try dsimp only); exact hup) k_ (by rfl) (by rfl) (by rfl)
      ·replace c37 := of_decide_eq_false c37
       have hdn := L3.down hK hkb c37
       refine J.regN ?_
       refine RN.bs [some 0, some 3] [8, 11, 12, 13, 14] [b15, b15, b15, b35, b35, b35] 2 [(8, pt b7), (11, .func (.func 56) #[] #[pt b4, pt b5, pt b6]), (12, pt b15), (13, pt b21), (14, pt b27)] ([(b35, .cells (ratC y34 (encQ ((L3v + U3) / 2))) 27 (0, 0)), (b27, .cells (ratC y26 (encQ (P2 (-bits)))) 27 (0, 0)), (b21, .cells (ratC lo3 (encQ L3v)) 27 (0, 0)), (b15, .cells (ratC y34 (encQ ((L3v + U3) / 2))) 27 (0, 0)), (b7, .cells (ivC (⟨saNil, saNil⟩ : RA) (⟨false, ([] : List Nat), ([] : List Nat)⟩ : Raw) (⟨saNil, saNil⟩ : RA) (⟨false, ([] : List Nat), ([] : List Nat)⟩ : Raw)) 38 (0, 0)), (b6, .cells (ratC u b) 27 (0, 0)), (b5, .cells (ratC p c) 27 (0, 0)), (b4, .cells #[sl s ps.length] 22 (0, 0))]) k_ ?_
       refine RN.done k_ ?_
       refine KN.blk ?_
       refine KN.dropF 1 ?_
       refine KN.roundE (2 * a, k + 1, y34, (L3v + U3) / 2, lo3, L3v) [8, 11, 12, 13, 14] [0, 5, 6, 7, 8, 9, 10, 11, 12, 13, 14, 15] (l2 := [(8, pt b7), (11, .func (.func 56) #[] #[pt b4, pt b5, pt b6]), (12, pt b15), (13, pt b21), (14, pt b27)]) (by (try dsimp only); omega) (by (try dsimp only); exact hdn) k_ (by rfl) (by rfl) (by rfl)
     ·replace c32 := of_decide_eq_false c32
      have hdone := L3.done hK hin.t0 hin.t1 (mt cmpQ_gt.2 c32)
      refine J.exit (KX.next (KX.next (KX.hit ?_)))
      refine KN.next ?_
      refine J.sreg ?_
      refine RN.bs [some 1, some 2, none, some 3, none] [8, 9] [b7, b7, b7, b7, b7, b7, b15, b15, b15, b21, b21, b21] 5 [(8, pt b7), (9, .int .i64 0)] ([(b27, .cells (ratC y26 (encQ (P2 (-bits)))) 27 (0, 0)), (b21, .cells (ratC lo3 (encQ L3v)) 27 (0, 0)), (b15, .cells (ratC ho3 (encQ U3)) 27 (0, 0)), (b7, .cells (ivC lo3 (encQ L3v) ho3 (encQ U3)) 38 (0, 0)), (b6, .cells (ratC u b) 27 (0, 0)), (b5, .cells (ratC p c) 27 (0, 0)), (b4, .cells #[sl s ps.length] 22 (0, 0))]) k_ ?_
      refine RN.fin k_ ?_
      have e_1 : (checkE ps.length (qv c) (qv b) bits : Int) = (0 : Int) := by exact he
      refine J.ret (KR.ret (v := .tuple #[.agg (ivC lo3 (encQ L3v) ho3 (encQ U3)), .int .i64 0]) (⟨lo3, ⟨ho3, ⟨(L3v : Rat), (U3 : Rat)⟩⟩⟩) [some 3, none] [3, 2] [b7, b7, b7, b7, b7, b7] k_ v1_ (ScaleR_ok he hnle hdone) v1_)
theorem m19_Scale_c (s : SA) (ps : List PR) (p : RA) (c' : Rat) (u : RA) (b' : Rat) (bits : Int) (hps : ∀ i, i < ps.length → RQ 64 (ps.getD i pr0).2) (hcR : Q 268435456 c') (hbR : Q 268435456 b') (hc : Q 64 c') (hb : Q 64 b') : Spec Tryz.prog 18 #[sl s ps.length, ratV p (encQ c'), ratV u (encQ b'), .int .i64 bits] [fRats s ps, fRat p (encQ c'), fRat u (encQ b')] (ι := RA × RA × Rat × Rat) (fun y => .tuple #[.agg (ivC y.1 (encQ y.2.2.1) y.2.1 (encQ y.2.2.2)), .int .i64 (checkE ps.length c' b' bits)]) (fun y => ScaleR (vals ps) ps.length c' b' bits y.2.2.1 y.2.2.2) (fun y => [fRat y.1 (encQ y.2.2.1), fRat y.2.1 (encQ y.2.2.2)]) := by
  have H := m19_Scale s ps p (encQ c') u (encQ b') bits (by first | exact hps | simpa only [qv_encQ, qv_encQ] using hps) (RQ_enc hcR) (RQ_enc hbR) (by first | exact hc | simpa only [qv_encQ, qv_encQ] using hc) (by first | exact hb | simpa only [qv_encQ, qv_encQ] using hb)
  first | exact H | (simp only [qv_encQ, validQ_encQ] at H; exact H)
end Go.Proofs.YtegnonhgildhoaaGreat.E
/- Plain laws of the scale: order, growth, scaling. -/
namespace Go.Proofs.YtegnonhgildhoaaGreat.E
set_option linter.unusedVariables false
set_option linter.unusedSimpArgs false
/-- What is above lies below what is not. -/
theorem above_lt {x : Nat → Rat} {n : Nat} {c b s t : Rat} (hc : 0 < c) (ht : 0 < t) (h1 : b < meanN x n c s) (h2 : meanN x n c t ≤ b) : s < t := by
  apply Rat.not_le.1
  intro h
  have := mean_anti (x := x) (n := n) hc ht h
  grind
/-- s times the mean does not fall. -/
theorem srho_mono {k s t : Rat} (hk : 0 ≤ k) (hs : 0 < s) (h : s ≤ t) : s * rhoQ (k / s) ≤ t * rhoQ (k / t) := by
  have ht : 0 < t := by grind
  by_cases h0 : k ≤ s
  · -- both in [0, 1]
    have u1 : k / s ≤ 1 := rdiv_le hs (by grind)
    have v1 : k / t ≤ 1 := rdiv_le ht (by grind)
    have u0 : 0 ≤ k / s := rdiv_nn hk (Rat.le_of_lt hs)
    have v0 : 0 ≤ k / t := rdiv_nn hk (Rat.le_of_lt ht)
    have vu : k / t ≤ k / s := rdiv_anti hk hs h
    rw [rho_in u0 u1, rho_in v0 v1]
    have eu : s * (k / s) = k := by grind
    have ev : t * (k / t) = k := by grind
    generalize k / s = u at *
    generalize k / t = v at *
    -- s rho u = k (3 - 3 u + u u)
    have e1 : s * (1 - (1 - u) * ((1 - u) * (1 - u))) = s * u * (3 - 3 * u + u * u) := by grind
    have e2 : t * (1 - (1 - v) * ((1 - v) * (1 - v))) = t * v * (3 - 3 * v + v * v) := by grind
    rw [e1, e2, eu, ev]
    refine rmul_le ?_ hk
    have := Rat.mul_nonneg (a := u - v) (b := 3 - u - v) (by grind) (by grind)
    grind
  · have hk0 : 0 < k := by grind
    rw [rho_ge1 (rle_div hs (by grind))]
    by_cases h1 : k ≤ t
    · have v1 : k / t ≤ 1 := rdiv_le ht (by grind)
      have v0 : 0 ≤ k / t := rdiv_nn hk (Rat.le_of_lt ht)
      rw [rho_in v0 v1]
      have ev : t * (k / t) = k := by grind
      generalize k / t = v at *
      have e2 : t * (1 - (1 - v) * ((1 - v) * (1 - v))) = t * v * (3 - 3 * v + v * v) := by grind
      rw [e2, ev]
      have h3 : 1 ≤ 3 - 3 * v + v * v := by
        have := Rat.mul_nonneg (a := 1 - v) (b := 2 - v) (by grind) (by grind)
        grind
      have := rmul_le h3 hk
      grind
    · rw [rho_ge1 (rle_div ht (by grind))]; grind
theorem smean_mono {x : Nat → Rat} {n : Nat} {c s t : Rat} (hc : 0 < c) (hs : 0 < s) (h : s ≤ t) : s * meanN x n c s ≤ t * meanN x n c t := by
  have key : ∀ k, s * sumN (fun i => rhoQ (x i * x i / (c * s))) k ≤ t * sumN (fun i => rhoQ (x i * x i / (c * t))) k := by
    intro k
    induction k with
    | zero => simp only [sumN]; grind
    | succ k ih =>
      simp only [sumN]
      have e1 : x k * x k / (c * s) = (x k * x k / c) / s := by grind
      have e2 : x k * x k / (c * t) = (x k * x k / c) / t := by grind
      have := srho_mono (k := x k * x k / c) (rdiv_nn (rsq _) (Rat.le_of_lt hc)) hs h
      rw [← e1, ← e2] at this
      grind
  unfold meanN
  have := rdiv_le_div (key n) (rcast_nn n)
  have e1 : ∀ a b d : Rat, a * b / d = a * (b / d) := fun a b d => by rw [Rat.div_def, Rat.div_def]; grind
  rw [e1, e1] at this
  exact this
end Go.Proofs.YtegnonhgildhoaaGreat.E
namespace Go.Proofs.YtegnonhgildhoaaGreat.E
open Go Go.RowKit
set_option linter.unusedVariables false
set_option linter.unusedSimpArgs false
def tauE (n : Nat) (c b d : Rat) (bits : Int) : Int := if checkE n c b bits ≠ 0 then checkE n c b bits else if 0 < d then 0 else 1
/-- What Tau returns, out of some interval that Scale may return. -/
def TauR (x : Nat → Rat) (n : Nat) (c b d : Rat) (bits : Int) (lo hi : Rat) : Prop :=
  if tauE n c b d bits ≠ 0 then lo = 0 ∧ hi = 0 else ∃ l h, ScaleR x n c b bits l h ∧ if h = 0 then lo = l ∧ hi = h else lo = l * meanN x n d l ∧ hi = h * meanN x n d h
theorem tauE_1 {n : Nat} {c b d : Rat} {bits : Int} (h : checkE n c b bits ≠ 0) : tauE n c b d bits = checkE n c b bits := if_pos h
theorem tauE_2 {n : Nat} {c b d : Rat} {bits : Int} (h : checkE n c b bits = 0) (h2 : ¬ 0 < d) : tauE n c b d bits = 1 := by unfold tauE; rw [if_neg (by simp [h]), if_neg h2]
theorem tauE_3 {n : Nat} {c b d : Rat} {bits : Int} (h : checkE n c b bits = 0) (h2 : 0 < d) : tauE n c b d bits = 0 := by unfold tauE; rw [if_neg (by simp [h]), if_pos h2]
theorem TauR_0 {x : Nat → Rat} {n : Nat} {c b d : Rat} {bits : Int} (h : tauE n c b d bits ≠ 0) : TauR x n c b d bits 0 0 := by unfold TauR; rw [if_pos h]; exact ⟨rfl, rfl⟩
theorem TauR_1 {x : Nat → Rat} {n : Nat} {c b d : Rat} {bits : Int} {l h : Rat} (he : tauE n c b d bits = 0) (hs : ScaleR x n c b bits l h) (h0 : h = 0) : TauR x n c b d bits l h := by
  unfold TauR; rw [if_neg (by simp [he])]; exact ⟨l, h, hs, by rw [if_pos h0]; exact ⟨rfl, rfl⟩⟩
theorem TauR_2 {x : Nat → Rat} {n : Nat} {c b d : Rat} {bits : Int} {l h : Rat} (he : tauE n c b d bits = 0) (hs : ScaleR x n c b bits l h) (h0 : h ≠ 0) : TauR x n c b d bits (l * meanN x n d l) (h * meanN x n d h) := by
  unfold TauR; rw [if_neg (by simp [he])]; exact ⟨l, h, hs, by rw [if_neg h0]; exact ⟨rfl, rfl⟩⟩
theorem ScaleR.Q {x : Nat → Rat} {n : Nat} {c b : Rat} {bits : Int} {l h : Rat} (hs : ScaleR x n c b bits l h) : E.Q 2000 l ∧ E.Q 2000 h := by
  unfold ScaleR at hs
  split at hs
  · rw [hs.1, hs.2]; exact ⟨Q.le Q0 (by decide), Q.le Q0 (by decide)⟩
  · exact ⟨hs.qlo, hs.qhi⟩
theorem sign_eq0' {q : Rat} : Int.sign q.num = 0 ↔ q = 0 := by rw [Int.sign_eq_zero_iff_zero, Rat.num_eq_zero]
theorem y_m19_Tau {p : Prop} (h : p := by first | assumption | exact Lb_toL _ | omega | (simp; done) | first | exact Q.le hd (by decide) | exact Q.le hc (by decide) | exact Q.le hb (by decide) | exact Q.le hq.1 (by decide) | exact Q.le hq.2 (by decide) | exact Q.le hm1 (by decide) | exact Q.le hm2 (by decide)) : p := h
theorem m19_Tau (s : SA) (ps : List PR) (p : RA) (c : Raw) (u : RA) (b : Raw) (v : RA) (d : Raw) (bits : Int) (hps : ∀ i, i < ps.length → RQ 64 (ps.getD i pr0).2) (hcR : RQ 268435456 c) (hbR : RQ 268435456 b) (hdR : RQ 268435456 d) (hc : Q 64 (qv c)) (hb : Q 64 (qv b)) (hd : Q 64 (qv d)) : Spec Tryz.prog 39 #[sl s ps.length, ratV p c, ratV u b, ratV v d, .int .i64 bits] [fRats s ps, fRat p c, fRat u b, fRat v d] (ι := RA × RA × Rat × Rat) (fun y => .tuple #[.agg (ivC y.1 (encQ y.2.2.1) y.2.1 (encQ y.2.2.2)), .int .i64 (tauE ps.length (qv c) (qv b) (qv d) bits)]) (fun y => TauR (vals ps) ps.length (qv c) (qv b) (qv d) bits y.2.2.1 y.2.2.2) (fun y => [fRat y.1 (encQ y.2.2.1), fRat y.2.1 (encQ y.2.2.2)]) := by
 refine Spec.of_body _ (fn := Tryz.f39) k_ rfl k_ (fun X w0 => ?_)
 refine J.fact (φ := ps.length ≤ 140737488355328) (fun w h => by have := (h _ (.head _)).1; omega) (fun hl1 => ?_)
 refine J.fact (φ := c.mag.length ≤ 140737488355328 ∧ c.den.length ≤ 140737488355328) (fun w h => by have h1 := (h _ (.tail _ ((.head _)))).1.1; have h2 := (h _ (.tail _ ((.head _)))).2.1; omega) (fun hl2 => ?_)
 refine J.fact (φ := b.mag.length ≤ 140737488355328 ∧ b.den.length ≤ 140737488355328) (fun w h => by have h1 := (h _ (.tail _ ((.tail _ ((.head _)))))).1.1; have h2 := (h _ (.tail _ ((.tail _ ((.head _)))))).2.1; omega) (fun hl3 => ?_)
 refine J.fact (φ := d.mag.length ≤ 140737488355328 ∧ d.den.length ≤ 140737488355328) (fun w h => by have h1 := (h _ (.tail _ ((.tail _ ((.tail _ ((.head _)))))))).1.1; have h2 := (h _ (.tail _ ((.tail _ ((.tail _ ((.head _)))))))).2.1; omega) (fun hl4 => ?_)
 refine J.sreg ?_
 refine RN.new (fun b => pt b) (.cells (ratC p c) 27 (0, 0)) k_ k_ (fun w => by kernel_rfl) (fun b5 => ?_)
 refine RN.new (fun b => pt b) (.cells (ratC u b) 27 (0, 0)) k_ k_ (fun w => by kernel_rfl) (fun b6 => ?_)
 refine RN.new (fun b => pt b) (.cells (ratC v d) 27 (0, 0)) k_ k_ (fun w => by kernel_rfl) (fun b7 => ?_)
 refine RN.new (fun b => pt b) (.cells (ivC (⟨saNil, saNil⟩ : RA) (⟨false, ([] : List Nat), ([] : List Nat)⟩ : Raw) (⟨saNil, saNil⟩ : RA) (⟨false, ([] : List Nat), ([] : List Nat)⟩ : Raw)) 38 (0, 0)) k_ k_ (fun w => by kernel_rfl) (fun b8 => ?_)
 refine RN.bq (no 1) [0, 4, 6, 7, 8, 10] [] 5 [(0, sl s ps.length), (4, .int .i64 bits), (6, pt b5), (7, pt b6), (8, pt b7), (10, pt b8)] k_ ?_
 refine RN.fs k_ ?_
 refine RN.bq [none, some 3, some 2, none] [0, 8, 10, 15, 16, 17, 18] [b6, b6, b6, b5, b5, b5] 4 [(0, sl s ps.length), (8, pt b7), (10, pt b8), (15, sl s ps.length), (16, ratV p c), (17, ratV u b), (18, .int .i64 bits)] k_ ?_
 refine RN.call (m19_Scale s ps p c u b bits y_m19_Tau y_m19_Tau y_m19_Tau y_m19_Tau y_m19_Tau) [0, 1, 2] k_ k_ k_ rfl (fun y9 h10 => ?_)
 have hsc := h10
 have hq := hsc.Q
 refine RN.bq (no 3) [0, 8, 10, 20, 21] [] 8 [(0, sl s ps.length), (8, pt b7), (10, pt b8), (20, .agg (ivC y9.1 (encQ y9.2.2.1) y9.2.1 (encQ y9.2.2.2))), (21, .int .i64 (checkE ps.length (qv c) (qv b) bits))] k_ ?_
 refine RN.new (fun b => pt b) (.cells (ivC (⟨saNil, saNil⟩ : RA) (⟨false, ([] : List Nat), ([] : List Nat)⟩ : Raw) (⟨saNil, saNil⟩ : RA) (⟨false, ([] : List Nat), ([] : List Nat)⟩ : Raw)) 38 (0, 0)) k_ k_ (fun w => by kernel_rfl) (fun b11 => ?_)
 refine RN.bs [some 0, none] [0, 8, 10, 12, 13] [b11, b11, b11, b11, b11, b11] 11 [(0, sl s ps.length), (8, pt b7), (10, pt b8), (12, pt b11), (13, .int .i64 (checkE ps.length (qv c) (qv b) bits))] ([(b11, .cells (ivC y9.1 (encQ y9.2.2.1) y9.2.1 (encQ y9.2.2.2)) 38 (0, 0)), (b8, .cells (ivC (⟨saNil, saNil⟩ : RA) (⟨false, ([] : List Nat), ([] : List Nat)⟩ : Raw) (⟨saNil, saNil⟩ : RA) (⟨false, ([] : List Nat), ([] : List Nat)⟩ : Raw)) 38 (0, 0)), (b7, .cells (ratC v d) 27 (0, 0)), (b6, .cells (ratC u b) 27 (0, 0)), (b5, .cells (ratC p c) 27 (0, 0))]) k_ ?_
 refine RN.fin k_ ?_
 refine J.seq ?_
 refine J.block ?_
 refine J.sreg ?_
 refine RN.bq (no 3) [0, 8, 10, 12, 13, 22] [] 3 [(0, sl s ps.length), (8, pt b7), (10, pt b8), (12, pt b11), (13, .int .i64 (checkE ps.length (qv c) (qv b) bits)), (22, .bool (((checkE ps.length (qv c) (qv b) bits) : Int) != 0))] k_ ?_
 refine RN.fin k_ ?_
 refine J.cond (((checkE ps.length (qv c) (qv b) bits) : Int) != 0) k_ (fun c12 => ?_) (fun c12 => ?_)
 ·replace c12 := bne_iff_ne.1 c12
  have he := c12
  have ht := tauE_1 (d := qv d) he
  have ht0 : tauE ps.length (qv c) (qv b) (qv d) bits ≠ 0 := by rw [ht]; exact he
  refine J.sreg ?_
  refine RN.bs [none, none, some 1, none] [10, 11] [b8, b8, b8, b8, b8, b8] 4 [(10, pt b8), (11, .int .i64 (checkE ps.length (qv c) (qv b) bits))] ([(b11, .cells (ivC y9.1 (encQ y9.2.2.1) y9.2.1 (encQ y9.2.2.2)) 38 (0, 0)), (b8, .cells (ivC (⟨saNil, saNil⟩ : RA) (⟨false, ([] : List Nat), ([] : List Nat)⟩ : Raw) (⟨saNil, saNil⟩ : RA) (⟨false, ([] : List Nat), ([] : List Nat)⟩ : Raw)) 38 (0, 0)), (b7, .cells (ratC v d) 27 (0, 0)), (b6, .cells (ratC u b) 27 (0, 0)), (b5, .cells (ratC p c) 27 (0, 0))]) k_ ?_
  refine RN.fin k_ ?_
  have e_1 : encQ (0 : Rat) = (⟨false, ([] : List Nat), ([] : List Nat)⟩ : Raw) := encQ_zero
  have e_2 : encQ (0 : Rat) = (⟨false, ([] : List Nat), ([] : List Nat)⟩ : Raw) := encQ_zero
  have e_3 : (tauE ps.length (qv c) (qv b) (qv d) bits : Int) = (checkE ps.length (qv c) (qv b) bits : Int) := by first | exact ht | rfl
  refine J.also (fRat (⟨saNil, saNil⟩ : RA) (⟨false, ([] : List Nat), ([] : List Nat)⟩ : Raw)) (fun w h => ⟨fU_nil w, fU_nil w⟩) ?_
  refine J.ret (KR.blk (KR.next (KR.ret (v := .tuple #[.agg (ivC (⟨saNil, saNil⟩ : RA) (⟨false, ([] : List Nat), ([] : List Nat)⟩ : Raw) (⟨saNil, saNil⟩ : RA) (⟨false, ([] : List Nat), ([] : List Nat)⟩ : Raw)), .int .i64 (checkE ps.length (qv c) (qv b) bits)]) (⟨⟨saNil, saNil⟩, ⟨⟨saNil, saNil⟩, ⟨(0 : Rat), (0 : Rat)⟩⟩⟩) [some 1, none] [0, 0] [b8, b8, b8, b8, b8, b8] k_ v3_ (TauR_0 ht0) v3_)))
 ·replace c12 := bne_eq_false_iff_eq.1 c12
  have he : checkE ps.length (qv c) (qv b) bits = 0 := by simpa using c12
  have hn := (checkE_0 he).2.1
  have hm1 := (Q_mean ps hps hd (hq.1.le (by decide : 2000 ≤ 65536)) hn)
  have hm2 := (Q_mean ps hps hd (hq.2.le (by decide : 2000 ≤ 65536)) hn)
  refine J.sreg ?_
  refine RN.bq [some 2] [0, 8, 10, 12, 28] [b7, b7, b7] 1 [(0, sl s ps.length), (8, pt b7), (10, pt b8), (12, pt b11), (28, ratV v d)] k_ ?_
  refine RN.call (m19_positive v d y_m19_Tau) [5] k_ k_ k_ rfl (fun y13 _ => ?_)
  refine RN.bq (no 2) [0, 8, 10, 12, 27] [] 4 [(0, sl s ps.length), (8, pt b7), (10, pt b8), (12, pt b11), (27, .bool (!(decide (0 < (qv d)))))] k_ ?_
  refine RN.fin k_ ?_
  refine J.cond (!(decide (0 < (qv d)))) k_ (fun c14 => ?_) (fun c14 => ?_)
  ·replace c14 := of_decide_eq_false ((Bool.not_eq_true' _).mp c14)
   have ht := tauE_2 he (d := qv d) c14
   have ht0 : tauE ps.length (qv c) (qv b) (qv d) bits ≠ 0 := by rw [ht]; decide
   refine J.sreg ?_
   refine RN.bs [none, some 1, none] [10, 11] [b8, b8, b8, b8, b8, b8] 3 [(10, pt b8), (11, .int .i64 1)] ([(b11, .cells (ivC y9.1 (encQ y9.2.2.1) y9.2.1 (encQ y9.2.2.2)) 38 (0, 0)), (b8, .cells (ivC (⟨saNil, saNil⟩ : RA) (⟨false, ([] : List Nat), ([] : List Nat)⟩ : Raw) (⟨saNil, saNil⟩ : RA) (⟨false, ([] : List Nat), ([] : List Nat)⟩ : Raw)) 38 (0, 0)), (b7, .cells (ratC v d) 27 (0, 0)), (b6, .cells (ratC u b) 27 (0, 0)), (b5, .cells (ratC p c) 27 (0, 0))]) k_ ?_
   refine RN.fin k_ ?_
   have e_1 : encQ (0 : Rat) = (⟨false, ([] : List Nat), ([] : List Nat)⟩ : Raw) := encQ_zero
   have e_2 : encQ (0 : Rat) = (⟨false, ([] : List Nat), ([] : List Nat)⟩ : Raw) := encQ_zero
   have e_3 : (tauE ps.length (qv c) (qv b) (qv d) bits : Int) = (1 : Int) := by first | exact ht | rfl
   refine J.also (fRat (⟨saNil, saNil⟩ : RA) (⟨false, ([] : List Nat), ([] : List Nat)⟩ : Raw)) (fun w h => ⟨fU_nil w, fU_nil w⟩) ?_
   refine J.ret (KR.blk (KR.next (KR.ret (v := .tuple #[.agg (ivC (⟨saNil, saNil⟩ : RA) (⟨false, ([] : List Nat), ([] : List Nat)⟩ : Raw) (⟨saNil, saNil⟩ : RA) (⟨false, ([] : List Nat), ([] : List Nat)⟩ : Raw)), .int .i64 1]) (⟨⟨saNil, saNil⟩, ⟨⟨saNil, saNil⟩, ⟨(0 : Rat), (0 : Rat)⟩⟩⟩) [some 1, none] [0, 0] [b8, b8, b8, b8, b8, b8] k_ v3_ (TauR_0 ht0) v3_)))
  ·replace c14 := of_decide_eq_true ((Bool.not_eq_false' _).mp c14)
   have ht := tauE_3 he c14
   refine J.sreg ?_
   refine RN.bq [none, some 0] [0, 8, 10, 12, 34] [b11, b11, b11] 2 [(0, sl s ps.length), (8, pt b7), (10, pt b8), (12, pt b11), (34, ratV y9.2.1 (encQ y9.2.2.2))] k_ ?_
   refine RN.call (rational_Sign_c y9.2.1 y9.2.2.2 y_m19_Tau) [1] k_ k_ k_ rfl (fun y15 _ => ?_)
   refine RN.bq (no 2) [0, 8, 10, 12, 32] [] 5 [(0, sl s ps.length), (8, pt b7), (10, pt b8), (12, pt b11), (32, .bool (((Int.sign (y9.2.2.2.num)) : Int) == 0))] k_ ?_
   refine RN.fin k_ ?_
   refine J.cond (((Int.sign (y9.2.2.2.num)) : Int) == 0) k_ (fun c16 => ?_) (fun c16 => ?_)
   ·replace c16 := eq_of_beq c16
    have h0 := sign_eq0'.1 c16
    refine J.sreg ?_
    refine RN.bs [some 0, some 1, none] [10, 11] [b8, b8, b8, b8, b8, b8, b11, b11, b11, b11, b11, b11] 3 [(10, pt b8), (11, .int .i64 0)] ([(b11, .cells (ivC y9.1 (encQ y9.2.2.1) y9.2.1 (encQ y9.2.2.2)) 38 (0, 0)), (b8, .cells (ivC y9.1 (encQ y9.2.2.1) y9.2.1 (encQ y9.2.2.2)) 38 (0, 0)), (b7, .cells (ratC v d) 27 (0, 0)), (b6, .cells (ratC u b) 27 (0, 0)), (b5, .cells (ratC p c) 27 (0, 0))]) k_ ?_
    refine RN.fin k_ ?_
    have e_1 : (tauE ps.length (qv c) (qv b) (qv d) bits : Int) = (0 : Int) := by first | exact ht | rfl
    refine J.ret (KR.blk (KR.next (KR.ret (v := .tuple #[.agg (ivC y9.1 (encQ y9.2.2.1) y9.2.1 (encQ y9.2.2.2)), .int .i64 0]) (⟨y9.1, ⟨y9.2.1, ⟨(y9.2.2.1 : Rat), (y9.2.2.2 : Rat)⟩⟩⟩) [some 1, none] [0, 1] [b8, b8, b8, b8, b8, b8] k_ v1_ (TauR_1 ht hsc h0) v1_)))
   ·replace c16 := ne_of_beq_false c16
    have h0 := mt sign_eq0'.2 c16
    refine J.skip ?_
    refine KN.blk ?_
    refine KN.next ?_
    refine J.seq ?_
    refine J.regD k_ [17] ?_
    refine RD.bq [(0, none), (1, some 0), (2, none), (3, some 2), (4, none), (5, some 0), (8, none), (9, some 0), (10, none), (11, some 2), (12, none), (13, some 0)] [10, 39, 40, 41, 43, 47, 48, 49, 51] [b11, b11, b11, b7, b7, b7, b11, b11, b11, b11, b11, b11, b7, b7, b7, b11, b11, b11] [(10, pt b8), (39, ratV y9.1 (encQ y9.2.2.1)), (40, sl s ps.length), (41, ratV v d), (43, ratV y9.1 (encQ y9.2.2.1)), (47, ratV y9.2.1 (encQ y9.2.2.2)), (48, sl s ps.length), (49, ratV v d), (51, ratV y9.2.1 (encQ y9.2.2.2))] k_ k_ ?_
    refine RD.call (i := 6) (m19_mean_c2 s ps v d y9.1 y9.2.2.1 y_m19_Tau y_m19_Tau y_m19_Tau y_m19_Tau y_m19_Tau y_m19_Tau) [2, 5, 0] k_ k_ k_ k_ k_ rfl (fun y17 _ => ?_)
    refine RD.call (i := 7) (rational_Mul_c y9.1 y9.2.2.1 y17 (sumTo (meanT (qv d) y9.2.2.1) ps ps.length / ((((ps.length : Nat) : Int)) : Rat)) y_m19_Tau y_m19_Tau) [1, 0] k_ k_ k_ k_ k_ rfl (fun y18 _ => ?_)
    refine RD.call (i := 14) (m19_mean_c2 s ps v d y9.2.1 y9.2.2.2 y_m19_Tau y_m19_Tau y_m19_Tau y_m19_Tau y_m19_Tau y_m19_Tau) [4, 7, 3] k_ k_ k_ k_ k_ rfl (fun y19 _ => ?_)
    refine RD.call (i := 15) (rational_Mul_c y9.2.1 y9.2.2.2 y19 (sumTo (meanT (qv d) y9.2.2.2) ps ps.length / ((((ps.length : Nat) : Int)) : Rat)) y_m19_Tau y_m19_Tau) [4, 0] k_ k_ k_ k_ k_ rfl (fun y20 _ => ?_)
    refine RD.bq (nl [16]) [10, 54] [] [(10, pt b8), (54, .agg (ivC y18 (encQ (y9.2.2.1 * (sumTo (meanT (qv d) y9.2.2.1) ps ps.length / ((((ps.length : Nat) : Int)) : Rat)))) y20 (encQ (y9.2.2.2 * (sumTo (meanT (qv d) y9.2.2.2) ps ps.length / ((((ps.length : Nat) : Int)) : Rat))))))] k_ k_ ?_
    refine RD.last (i := 17) (some 1) [10] [b8, b8, b8, b8, b8, b8] k_ k_ k_ (l' := [(10, pt b8)]) (M' := [(b11, .cells (ivC y9.1 (encQ y9.2.2.1) y9.2.1 (encQ y9.2.2.2)) 38 (0, 0)), (b8, .cells (ivC y18 (encQ (y9.2.2.1 * (sumTo (meanT (qv d) y9.2.2.1) ps ps.length / ((((ps.length : Nat) : Int)) : Rat)))) y20 (encQ (y9.2.2.2 * (sumTo (meanT (qv d) y9.2.2.2) ps ps.length / ((((ps.length : Nat) : Int)) : Rat))))) 38 (0, 0)), (b7, .cells (ratC v d) 27 (0, 0)), (b6, .cells (ratC u b) 27 (0, 0)), (b5, .cells (ratC p c) 27 (0, 0))]) k_ ?_
    refine RD.bq (nl [18]) [10, 11] [] [(10, pt b8), (11, .int .i64 0)] k_ k_ ?_
    refine RD.done k_ ?_
    refine KN.next ?_
    have e_1 : (tauE ps.length (qv c) (qv b) (qv d) bits : Int) = (0 : Int) := by first | exact ht | rfl
    refine J.ret (KR.ret (v := .tuple #[.agg (ivC y18 (encQ (y9.2.2.1 * (sumTo (meanT (qv d) y9.2.2.1) ps ps.length / ((((ps.length : Nat) : Int)) : Rat)))) y20 (encQ (y9.2.2.2 * (sumTo (meanT (qv d) y9.2.2.2) ps ps.length / ((((ps.length : Nat) : Int)) : Rat))))), .int .i64 0]) (⟨y18, ⟨y20, ⟨(y9.2.2.1 * (sumTo (meanT (qv d) y9.2.2.1) ps ps.length / ((((ps.length : Nat) : Int)) : Rat)) : Rat), (y9.2.2.2 * (sumTo (meanT (qv d) y9.2.2.2) ps ps.length / ((((ps.length : Nat) : Int)) : Rat)) : Rat)⟩⟩⟩) [some 1, none] [2, 0] [b8, b8, b8, b8, b8, b8] k_ v1_ (TauR_2 ht hsc h0) v1_)
theorem m19_Tau_c (s : SA) (ps : List PR) (p : RA) (c' : Rat) (u : RA) (b' : Rat) (v : RA) (d' : Rat) (bits : Int) (hps : ∀ i, i < ps.length → RQ 64 (ps.getD i pr0).2) (hcR : Q 268435456 c') (hbR : Q 268435456 b') (hdR : Q 268435456 d') (hc : Q 64 c') (hb : Q 64 b') (hd : Q 64 d') : Spec Tryz.prog 39 #[sl s ps.length, ratV p (encQ c'), ratV u (encQ b'), ratV v (encQ d'), .int .i64 bits] [fRats s ps, fRat p (encQ c'), fRat u (encQ b'), fRat v (encQ d')] (ι := RA × RA × Rat × Rat) (fun y => .tuple #[.agg (ivC y.1 (encQ y.2.2.1) y.2.1 (encQ y.2.2.2)), .int .i64 (tauE ps.length c' b' d' bits)]) (fun y => TauR (vals ps) ps.length c' b' d' bits y.2.2.1 y.2.2.2) (fun y => [fRat y.1 (encQ y.2.2.1), fRat y.2.1 (encQ y.2.2.2)]) := by
  have H := m19_Tau s ps p (encQ c') u (encQ b') v (encQ d') bits (by first | exact hps | simpa only [qv_encQ, qv_encQ, qv_encQ] using hps) (RQ_enc hcR) (RQ_enc hbR) (RQ_enc hdR) (by first | exact hc | simpa only [qv_encQ, qv_encQ, qv_encQ] using hc) (by first | exact hb | simpa only [qv_encQ, qv_encQ, qv_encQ] using hb) (by first | exact hd | simpa only [qv_encQ, qv_encQ, qv_encQ] using hd)
  first | exact H | (simp only [qv_encQ, validQ_encQ] at H; exact H)
end Go.Proofs.YtegnonhgildhoaaGreat.E
namespace Go.Proofs.YtegnonhgildhoaaGreat.E
open Go Go.RowKit
set_option linter.unusedVariables false
set_option linter.unusedSimpArgs false
end Go.Proofs.YtegnonhgildhoaaGreat.E
namespace Go.Proofs.YtegnonhgildhoaaGreat.E
open Go Go.RowKit
set_option linter.unusedVariables false
set_option linter.unusedSimpArgs false
def nullB (x : Nat → Rat) (n : Nat) (b : Rat) : Bool := decide (shareN x n ≤ b)
def atLeastB (x : Nat → Rat) (n : Nat) (c b v : Rat) : Bool := if v ≤ 0 then true else !nullB x n b && !decide (meanN x n c v < b)
def atMostB (x : Nat → Rat) (n : Nat) (c b v : Rat) : Bool := if nullB x n b = true then decide (0 ≤ v) else decide (0 < v) && !decide (b < meanN x n c v)
def narrowB (bits : Int) (lo hi : Rat) : Bool := if hi < lo then false else if lo = 0 then decide (hi = 0) else decide (0 < lo) && !decide (hi < (hi - lo) * (((2 ^ bits.toNat : Nat) : Int) : Rat))
def holdsB (x : Nat → Rat) (n : Nat) (c b : Rat) (bits : Int) (lo hi : Rat) : Bool := narrowB bits lo hi && atLeastB x n c b lo && atMostB x n c b hi
end Go.Proofs.YtegnonhgildhoaaGreat.E
namespace Go.Proofs.YtegnonhgildhoaaGreat.E
open Go Go.RowKit
set_option linter.unusedVariables false
set_option linter.unusedSimpArgs false
theorem hps_nil {k : Nat} : ∀ i, i < ([] : List PR).length → RQ k (([] : List PR).getD i pr0).2 := fun i h => absurd h (Nat.not_lt_zero _)
theorem hps_cons {k : Nat} {p : PR} {ps : List PR} (h : RQ k p.2) (t : ∀ i, i < ps.length → RQ k (ps.getD i pr0).2) : ∀ i, i < (p :: ps).length → RQ k ((p :: ps).getD i pr0).2
  | 0, _ => h
  | i + 1, hi => t i (by simpa using hi)
theorem Q_dec {k : Nat} {q : Rat} (h : (decide (q.num.natAbs < W ^ k) && decide (q.den < W ^ k)) = true) : Q k q := by
  simp only [Bool.and_eq_true, decide_eq_true_eq] at h
  exact Q_iff.2 h
theorem aw_e : meanE 2 ((1 : Int) : Rat) ((2 : Int) : Rat) = 0 := by decide +kernel
theorem aw_m (p1 p2 : RA) : meanV [(p1, encQ ((1 : Int) : Rat)), (p2, encQ (((-1) : Int) : Rat))] ((1 : Int) : Rat) ((2 : Int) : Rat) = ((7 : Int) : Rat) / ((8 : Int) : Rat) := by
  unfold meanV
  rw [if_pos (show meanE [(p1, encQ ((1 : Int) : Rat)), (p2, encQ (((-1) : Int) : Rat))].length ((1 : Int) : Rat) ((2 : Int) : Rat) = 0 from aw_e)]
  show (0 + meanT ((1 : Int) : Rat) ((2 : Int) : Rat) (qv (encQ ((1 : Int) : Rat))) + meanT ((1 : Int) : Rat) ((2 : Int) : Rat) (qv (encQ (((-1) : Int) : Rat)))) / (((2 : Nat) : Int) : Rat) = _
  rw [qv_encQ, qv_encQ]
  decide +kernel
theorem aw_c : checkE 4 ((1 : Int) : Rat) (((1 : Int) : Rat) / ((4 : Int) : Rat)) 3 = 0 := by decide +kernel
theorem aw_s (p1 p2 p3 p4 : RA) (b : Rat) (hb : b = ((1 : Int) : Rat) / ((4 : Int) : Rat)) : shareN (vals [(p1, ⟨false, [], []⟩), (p2, ⟨false, [], []⟩), (p3, ⟨false, [], []⟩), (p4, encQ ((5 : Int) : Rat))]) 4 ≤ b := by
  subst hb
  have h : ∀ i, i < 4 → vals [(p1, ⟨false, [], []⟩), (p2, ⟨false, [], []⟩), (p3, ⟨false, [], []⟩), (p4, encQ ((5 : Int) : Rat))] i = (if i = 3 then ((5 : Int) : Rat) else 0) := by
    intro i hi
    have z : qv ⟨false, [], []⟩ = 0 := by rw [← encQ_zero, qv_encQ]
    match i, hi with
    | 0, _ => exact z
    | 1, _ => exact z
    | 2, _ => exact z
    | 3, _ => exact qv_encQ _
  unfold shareN
  rw [cntN_sum, sumN_congr (g := fun i => if i = 3 then 1 else 0)]
  · decide +kernel
  · intro i hi
    show (if decide (vals _ i ≠ 0) = true then (1 : Rat) else 0) = _
    rw [h i hi]
    match i, hi with
    | 0, _ => rfl
    | 1, _ => rfl
    | 2, _ => rfl
    | 3, _ => rfl
theorem aw_r : rhoQ (((1 : Int) : Rat) / ((2 : Int) : Rat)) = ((7 : Int) : Rat) / ((8 : Int) : Rat) := by decide +kernel
theorem aw_i {x : Nat → Rat} {n : Nat} {c b : Rat} {bits : Int} {lo hi : Rat} (h : ScaleR x n c b bits lo hi) (hs : shareN x n ≤ b) : encQ lo = ⟨false, [], []⟩ ∧ encQ hi = ⟨false, [], []⟩ := by
  unfold ScaleR at h
  rw [if_pos (.inr hs)] at h
  rw [h.1, h.2, encQ_zero]; exact ⟨rfl, rfl⟩
theorem y_l19_awake {p : Prop} (h : p := by first | assumption | exact Lb_toL _ | omega | (simp; done) | first | exact Q.le (Q_int (by decide)) (by decide) | exact RQ_enc (Q.le (Q_int (by decide)) (by decide)) | exact Q.le (Q_dec (k := 2) (by decide +kernel)) (by decide) | exact RQ_enc (Q.le (Q_dec (k := 2) (by decide +kernel)) (by decide)) | ((repeat' (first | exact hps_nil | refine hps_cons ?_ ?_ | exact RQ_enc (Q.le (Q_int (by decide)) (by decide)) | (rw [← encQ_zero]; exact RQ_enc (Q_0 (by decide))))); done)) : p := h
theorem l19_awake : Spec Tryz.prog 12 #[] [] (ι := Unit) (fun y => .bool true) (fun y => True) (fun y => []) := by
 refine Spec.of_body _ (fn := Tryz.f12) k_ rfl k_ (fun X w0 => ?_)
 refine J.sreg ?_
 refine RN.bq (no 1) [] [] 1 [] k_ ?_
 refine RN.fs k_ ?_
 refine RN.call (r03_FromInt 1 y_l19_awake y_l19_awake) [] k_ k_ k_ rfl (fun y1 _ => ?_)
 refine RN.new (fun b => pt b) (.cells (ratC (⟨saNil, saNil⟩ : RA) (⟨false, ([] : List Nat), ([] : List Nat)⟩ : Raw)) 27 (0, 0)) k_ k_ (fun w => by kernel_rfl) (fun b2 => ?_)
 refine RN.bs [some 0] [1] [b2, b2, b2] 3 [(1, pt b2)] ([(b2, .cells (ratC y1 (encQ ((1 : Int) : Rat))) 27 (0, 0))]) k_ ?_
 refine RN.fin k_ ?_
 refine J.seqC (ι := (RA) × (Nat) × (RA) × (RA) × (Nat)) (fun x => True) (fun x => [(1, pt b2), (2, .pointer (some ⟨x.2.2.2.2, 0, none⟩)), (3, .int .i64 (meanE ([(y1, (encQ ((1 : Int) : Rat))), (x.1, (encQ (((-1) : Int) : Rat)))] : List PR).length ((1 : Int) : Rat) ((2 : Int) : Rat)))]) (fun x => [(x.2.2.2.2, .cells (ratC x.2.2.2.1 (encQ (meanV ([(y1, (encQ ((1 : Int) : Rat))), (x.1, (encQ (((-1) : Int) : Rat)))] : List PR) ((1 : Int) : Rat) ((2 : Int) : Rat)))) 27 (0, 0)), (b2, .cells (ratC y1 (encQ ((1 : Int) : Rat))) 27 (0, 0))]) (fun x => [fRat x.2.2.2.1 (encQ (meanV ([(y1, (encQ ((1 : Int) : Rat))), (x.1, (encQ (((-1) : Int) : Rat)))] : List PR) ((1 : Int) : Rat) ((2 : Int) : Rat))), fRats (⟨some ⟨x.2.1, 0, none⟩, 2⟩ : SA) ([(y1, (encQ ((1 : Int) : Rat))), (x.1, (encQ (((-1) : Int) : Rat)))] : List PR), allRat ([(y1, (encQ ((1 : Int) : Rat))), (x.1, (encQ (((-1) : Int) : Rat)))] : List PR), fBlk x.2.1 (.cells (encR ([(y1, (encQ ((1 : Int) : Rat))), (x.1, (encQ (((-1) : Int) : Rat)))] : List PR)) 27 (0, 0)), fRat x.2.2.1 (encQ ((2 : Int) : Rat)), fRat x.1 (encQ (((-1) : Int) : Rat)), fRat y1 (encQ ((1 : Int) : Rat))]) ?_ ?_
 ·refine J.regD k_ [10] ?_
  refine RD.bq [(0, some 0), (3, some 0)] [1, 8, 11] [b2, b2, b2, b2, b2, b2] [(1, pt b2), (8, ratV y1 (encQ ((1 : Int) : Rat))), (11, ratV y1 (encQ ((1 : Int) : Rat)))] k_ k_ ?_
  refine RD.forkL (is := [1, 9]) k_ rfl k_ ⟨?_, ?_, trivial⟩
  ·refine RDi.call (i := 1) (r03_FromInt (-1) y_l19_awake y_l19_awake) [] k_ k_ k_ k_ rfl (fun y3 _ => ?_)
   refine RD.forkL (is := [2, 4, 9]) k_ rfl k_ ⟨?_, ?_, ?_, trivial⟩
   ·refine RDi.new (i := 2) (fun b => .slice (some ⟨b, 0, none⟩) 2 2) (.cells (encR ([(y1, (encQ ((1 : Int) : Rat))), (y3, (encQ (((-1) : Int) : Rat)))] : List PR)) 27 (0, 0)) k_ k_ k_ (fun w => by kernel_rfl) (fun b4 => ?_)
    refine RD.forkL (is := [4, 9]) k_ rfl k_ ⟨?_, ?_, trivial⟩
    ·refine RDi.call (i := 4) (r03_FromInt 2 y_l19_awake y_l19_awake) [] k_ k_ k_ k_ rfl (fun y5 _ => ?_)
     refine RD.share 0 rfl rfl k_ ?_
     refine RD.also (allRat ([(y1, (encQ ((1 : Int) : Rat))), (y3, (encQ (((-1) : Int) : Rat)))] : List PR)) (fun w h => allRat_cons (h _ (.tail _ ((.tail _ ((.tail _ ((.head _)))))))) (allRat_cons (h _ (.tail _ ((.tail _ ((.head _)))))) (allRat_nil _))) k_ ?_
     refine RD.also (fRats (⟨some ⟨b4, 0, none⟩, 2⟩ : SA) ([(y1, (encQ ((1 : Int) : Rat))), (y3, (encQ (((-1) : Int) : Rat)))] : List PR)) (fun w h => fRats_own (h _ (.tail _ ((.head _)))) (h _ (.head _)) x_ x_) k_ ?_
     refine RD.turn 10 (v := .slice (some ⟨b4, 0, none⟩) 2 2) (v' := sl (⟨some ⟨b4, 0, none⟩, 2⟩ : SA) ([(y1, (encQ ((1 : Int) : Rat))), (y3, (encQ (((-1) : Int) : Rat)))] : List PR).length) k_ (sl_eq x_) ?_
     refine RD.forkL (is := [5, 9]) k_ rfl k_ ⟨?_, ?_, trivial⟩
     ·refine RDi.call (i := 5) (m19_Mean_c (⟨some ⟨b4, 0, none⟩, 2⟩ : SA) ([(y1, (encQ ((1 : Int) : Rat))), (y3, (encQ (((-1) : Int) : Rat)))] : List PR) y1 ((1 : Int) : Rat) y5 ((2 : Int) : Rat) y_l19_awake y_l19_awake y_l19_awake y_l19_awake y_l19_awake) [0, 5, 3] k_ k_ k_ k_ rfl (fun y6 _ => ?_)
      refine RD.bq (nl [6, 7, 8]) [1, 14, 15] [] [(1, pt b2), (14, ratV y6 (encQ (meanV ([(y1, (encQ ((1 : Int) : Rat))), (y3, (encQ (((-1) : Int) : Rat)))] : List PR) ((1 : Int) : Rat) ((2 : Int) : Rat)))), (15, .int .i64 (meanE ([(y1, (encQ ((1 : Int) : Rat))), (y3, (encQ (((-1) : Int) : Rat)))] : List PR).length ((1 : Int) : Rat) ((2 : Int) : Rat)))] k_ k_ ?_
      refine RD.new (i := 9) (fun b => pt b) (.cells (ratC (⟨saNil, saNil⟩ : RA) (⟨false, ([] : List Nat), ([] : List Nat)⟩ : Raw)) 27 (0, 0)) k_ k_ k_ k_ (fun w => by kernel_rfl) (fun b7 => ?_)
      refine RD.last (i := 10) (some 0) [1, 2, 15] [b7, b7, b7] k_ k_ k_ (l' := [(1, pt b2), (2, pt b7), (15, .int .i64 (meanE ([(y1, (encQ ((1 : Int) : Rat))), (y3, (encQ (((-1) : Int) : Rat)))] : List PR).length ((1 : Int) : Rat) ((2 : Int) : Rat)))]) (M' := [(b7, .cells (ratC y6 (encQ (meanV ([(y1, (encQ ((1 : Int) : Rat))), (y3, (encQ (((-1) : Int) : Rat)))] : List PR) ((1 : Int) : Rat) ((2 : Int) : Rat)))) 27 (0, 0)), (b2, .cells (ratC y1 (encQ ((1 : Int) : Rat))) 27 (0, 0))]) k_ ?_
      refine RD.bq (nl [11]) [1, 2, 3] [] [(1, pt b2), (2, pt b7), (3, .int .i64 (meanE ([(y1, (encQ ((1 : Int) : Rat))), (y3, (encQ (((-1) : Int) : Rat)))] : List PR).length ((1 : Int) : Rat) ((2 : Int) : Rat)))] k_ k_ ?_
      refine RD.done k_ ?_
      refine KN.meet (y3, b4, y5, y6, b7) [1, 2, 3] [0, 1, 2, 3, 4, 5, 6] (l2 := [(1, pt b2), (2, pt b7), (3, .int .i64 (meanE ([(y1, (encQ ((1 : Int) : Rat))), (y3, (encQ (((-1) : Int) : Rat)))] : List PR).length ((1 : Int) : Rat) ((2 : Int) : Rat)))]) (by exact trivial) k_ (by rfl) (by rfl) (by rfl)
     ·refine RDi.new (i := 9) (fun b => pt b) (.cells (ratC (⟨saNil, saNil⟩ : RA) (⟨false, ([] : List Nat), ([] : List Nat)⟩ : Raw)) 27 (0, 0)) k_ k_ k_ (fun w => by kernel_rfl) (fun b8 => ?_)
      refine RD.call (i := 5) (m19_Mean_c (⟨some ⟨b4, 0, none⟩, 2⟩ : SA) ([(y1, (encQ ((1 : Int) : Rat))), (y3, (encQ (((-1) : Int) : Rat)))] : List PR) y1 ((1 : Int) : Rat) y5 ((2 : Int) : Rat) y_l19_awake y_l19_awake y_l19_awake y_l19_awake y_l19_awake) [0, 5, 3] k_ k_ k_ k_ k_ rfl (fun y9 _ => ?_)
      refine RD.bq (nl [6, 7, 8]) [1, 2, 14, 15] [] [(1, pt b2), (2, pt b8), (14, ratV y9 (encQ (meanV ([(y1, (encQ ((1 : Int) : Rat))), (y3, (encQ (((-1) : Int) : Rat)))] : List PR) ((1 : Int) : Rat) ((2 : Int) : Rat)))), (15, .int .i64 (meanE ([(y1, (encQ ((1 : Int) : Rat))), (y3, (encQ (((-1) : Int) : Rat)))] : List PR).length ((1 : Int) : Rat) ((2 : Int) : Rat)))] k_ k_ ?_
      refine RD.last (i := 10) (some 0) [1, 2, 15] [b8, b8, b8] k_ k_ k_ (l' := [(1, pt b2), (2, pt b8), (15, .int .i64 (meanE ([(y1, (encQ ((1 : Int) : Rat))), (y3, (encQ (((-1) : Int) : Rat)))] : List PR).length ((1 : Int) : Rat) ((2 : Int) : Rat)))]) (M' := [(b8, .cells (ratC y9 (encQ (meanV ([(y1, (encQ ((1 : Int) : Rat))), (y3, (encQ (((-1) : Int) : Rat)))] : List PR) ((1 : Int) : Rat) ((2 : Int) : Rat)))) 27 (0, 0)), (b2, .cells (ratC y1 (encQ ((1 : Int) : Rat))) 27 (0, 0))]) k_ ?_
      refine RD.bq (nl [11]) [1, 2, 3] [] [(1, pt b2), (2, pt b8), (3, .int .i64 (meanE ([(y1, (encQ ((1 : Int) : Rat))), (y3, (encQ (((-1) : Int) : Rat)))] : List PR).length ((1 : Int) : Rat) ((2 : Int) : Rat)))] k_ k_ ?_
      refine RD.done k_ ?_
      refine KN.meet (y3, b4, y5, y9, b8) [1, 2, 3] [0, 1, 2, 3, 4, 5, 6] (l2 := [(1, pt b2), (2, pt b8), (3, .int .i64 (meanE ([(y1, (encQ ((1 : Int) : Rat))), (y3, (encQ (((-1) : Int) : Rat)))] : List PR).length ((1 : Int) : Rat) ((2 : Int) : Rat)))]) (by exact trivial) k_ (by rfl) (by rfl) (by rfl)
    ·refine RDi.new (i := 9) (fun b => pt b) (.cells (ratC (⟨saNil, saNil⟩ : RA) (⟨false, ([] : List Nat), ([] : List Nat)⟩ : Raw)) 27 (0, 0)) k_ k_ k_ (fun w => by kernel_rfl) (fun b10 => ?_)
     refine RD.call (i := 4) (r03_FromInt 2 y_l19_awake y_l19_awake) [] k_ k_ k_ k_ k_ rfl (fun y11 _ => ?_)
     refine RD.share 1 rfl rfl k_ ?_
     refine RD.also (allRat ([(y1, (encQ ((1 : Int) : Rat))), (y3, (encQ (((-1) : Int) : Rat)))] : List PR)) (fun w h => allRat_cons (h _ (.tail _ ((.tail _ ((.tail _ ((.head _)))))))) (allRat_cons (h _ (.tail _ ((.tail _ ((.head _)))))) (allRat_nil _))) k_ ?_
     refine RD.also (fRats (⟨some ⟨b4, 0, none⟩, 2⟩ : SA) ([(y1, (encQ ((1 : Int) : Rat))), (y3, (encQ (((-1) : Int) : Rat)))] : List PR)) (fun w h => fRats_own (h _ (.tail _ ((.head _)))) (h _ (.head _)) x_ x_) k_ ?_
     refine RD.turn 10 (v := .slice (some ⟨b4, 0, none⟩) 2 2) (v' := sl (⟨some ⟨b4, 0, none⟩, 2⟩ : SA) ([(y1, (encQ ((1 : Int) : Rat))), (y3, (encQ (((-1) : Int) : Rat)))] : List PR).length) k_ (sl_eq x_) ?_
     refine RD.call (i := 5) (m19_Mean_c (⟨some ⟨b4, 0, none⟩, 2⟩ : SA) ([(y1, (encQ ((1 : Int) : Rat))), (y3, (encQ (((-1) : Int) : Rat)))] : List PR) y1 ((1 : Int) : Rat) y11 ((2 : Int) : Rat) y_l19_awake y_l19_awake y_l19_awake y_l19_awake y_l19_awake) [0, 5, 3] k_ k_ k_ k_ k_ rfl (fun y12 _ => ?_)
     refine RD.bq (nl [6, 7, 8]) [1, 2, 14, 15] [] [(1, pt b2), (2, pt b10), (14, ratV y12 (encQ (meanV ([(y1, (encQ ((1 : Int) : Rat))), (y3, (encQ (((-1) : Int) : Rat)))] : List PR) ((1 : Int) : Rat) ((2 : Int) : Rat)))), (15, .int .i64 (meanE ([(y1, (encQ ((1 : Int) : Rat))), (y3, (encQ (((-1) : Int) : Rat)))] : List PR).length ((1 : Int) : Rat) ((2 : Int) : Rat)))] k_ k_ ?_
     refine RD.last (i := 10) (some 0) [1, 2, 15] [b10, b10, b10] k_ k_ k_ (l' := [(1, pt b2), (2, pt b10), (15, .int .i64 (meanE ([(y1, (encQ ((1 : Int) : Rat))), (y3, (encQ (((-1) : Int) : Rat)))] : List PR).length ((1 : Int) : Rat) ((2 : Int) : Rat)))]) (M' := [(b10, .cells (ratC y12 (encQ (meanV ([(y1, (encQ ((1 : Int) : Rat))), (y3, (encQ (((-1) : Int) : Rat)))] : List PR) ((1 : Int) : Rat) ((2 : Int) : Rat)))) 27 (0, 0)), (b2, .cells (ratC y1 (encQ ((1 : Int) : Rat))) 27 (0, 0))]) k_ ?_
     refine RD.bq (nl [11]) [1, 2, 3] [] [(1, pt b2), (2, pt b10), (3, .int .i64 (meanE ([(y1, (encQ ((1 : Int) : Rat))), (y3, (encQ (((-1) : Int) : Rat)))] : List PR).length ((1 : Int) : Rat) ((2 : Int) : Rat)))] k_ k_ ?_
     refine RD.done k_ ?_
     refine KN.meet (y3, b4, y11, y12, b10) [1, 2, 3] [0, 1, 2, 3, 4, 5, 6] (l2 := [(1, pt b2), (2, pt b10), (3, .int .i64 (meanE ([(y1, (encQ ((1 : Int) : Rat))), (y3, (encQ (((-1) : Int) : Rat)))] : List PR).length ((1 : Int) : Rat) ((2 : Int) : Rat)))]) (by exact trivial) k_ (by rfl) (by rfl) (by rfl)
   ·refine RDi.call (i := 4) (r03_FromInt 2 y_l19_awake y_l19_awake) [] k_ k_ k_ k_ rfl (fun y13 _ => ?_)
    refine RD.forkL (is := [2, 9]) k_ rfl k_ ⟨?_, ?_, trivial⟩
    ·refine RDi.new (i := 2) (fun b => .slice (some ⟨b, 0, none⟩) 2 2) (.cells (encR ([(y1, (encQ ((1 : Int) : Rat))), (y3, (encQ (((-1) : Int) : Rat)))] : List PR)) 27 (0, 0)) k_ k_ k_ (fun w => by kernel_rfl) (fun b14 => ?_)
     refine RD.share 0 rfl rfl k_ ?_
     refine RD.also (allRat ([(y1, (encQ ((1 : Int) : Rat))), (y3, (encQ (((-1) : Int) : Rat)))] : List PR)) (fun w h => allRat_cons (h _ (.tail _ ((.tail _ ((.tail _ ((.head _)))))))) (allRat_cons (h _ (.tail _ ((.tail _ ((.head _)))))) (allRat_nil _))) k_ ?_
     refine RD.also (fRats (⟨some ⟨b14, 0, none⟩, 2⟩ : SA) ([(y1, (encQ ((1 : Int) : Rat))), (y3, (encQ (((-1) : Int) : Rat)))] : List PR)) (fun w h => fRats_own (h _ (.tail _ ((.head _)))) (h _ (.head _)) x_ x_) k_ ?_
     refine RD.turn 10 (v := .slice (some ⟨b14, 0, none⟩) 2 2) (v' := sl (⟨some ⟨b14, 0, none⟩, 2⟩ : SA) ([(y1, (encQ ((1 : Int) : Rat))), (y3, (encQ (((-1) : Int) : Rat)))] : List PR).length) k_ (sl_eq x_) ?_
     refine RD.forkL (is := [5, 9]) k_ rfl k_ ⟨?_, ?_, trivial⟩
     ·refine RDi.call (i := 5) (m19_Mean_c (⟨some ⟨b14, 0, none⟩, 2⟩ : SA) ([(y1, (encQ ((1 : Int) : Rat))), (y3, (encQ (((-1) : Int) : Rat)))] : List PR) y1 ((1 : Int) : Rat) y13 ((2 : Int) : Rat) y_l19_awake y_l19_awake y_l19_awake y_l19_awake y_l19_awake) [0, 5, 3] k_ k_ k_ k_ rfl (fun y15 _ => ?_)
      refine RD.bq (nl [6, 7, 8]) [1, 14, 15] [] [(1, pt b2), (14, ratV y15 (encQ (meanV ([(y1, (encQ ((1 : Int) : Rat))), (y3, (encQ (((-1) : Int) : Rat)))] : List PR) ((1 : Int) : Rat) ((2 : Int) : Rat)))), (15, .int .i64 (meanE ([(y1, (encQ ((1 : Int) : Rat))), (y3, (encQ (((-1) : Int) : Rat)))] : List PR).length ((1 : Int) : Rat) ((2 : Int) : Rat)))] k_ k_ ?_
      refine RD.new (i := 9) (fun b => pt b) (.cells (ratC (⟨saNil, saNil⟩ : RA) (⟨false, ([] : List Nat), ([] : List Nat)⟩ : Raw)) 27 (0, 0)) k_ k_ k_ k_ (fun w => by kernel_rfl) (fun b16 => ?_)
      refine RD.last (i := 10) (some 0) [1, 2, 15] [b16, b16, b16] k_ k_ k_ (l' := [(1, pt b2), (2, pt b16), (15, .int .i64 (meanE ([(y1, (encQ ((1 : Int) : Rat))), (y3, (encQ (((-1) : Int) : Rat)))] : List PR).length ((1 : Int) : Rat) ((2 : Int) : Rat)))]) (M' := [(b16, .cells (ratC y15 (encQ (meanV ([(y1, (encQ ((1 : Int) : Rat))), (y3, (encQ (((-1) : Int) : Rat)))] : List PR) ((1 : Int) : Rat) ((2 : Int) : Rat)))) 27 (0, 0)), (b2, .cells (ratC y1 (encQ ((1 : Int) : Rat))) 27 (0, 0))]) k_ ?_
      refine RD.bq (nl [11]) [1, 2, 3] [] [(1, pt b2), (2, pt b16), (3, .int .i64 (meanE ([(y1, (encQ ((1 : Int) : Rat))), (y3, (encQ (((-1) : Int) : Rat)))] : List PR).length ((1 : Int) : Rat) ((2 : Int) : Rat)))] k_ k_ ?_
      refine RD.done k_ ?_
      refine KN.meet (y3, b14, y13, y15, b16) [1, 2, 3] [0, 1, 2, 3, 4, 5, 6] (l2 := [(1, pt b2), (2, pt b16), (3, .int .i64 (meanE ([(y1, (encQ ((1 : Int) : Rat))), (y3, (encQ (((-1) : Int) : Rat)))] : List PR).length ((1 : Int) : Rat) ((2 : Int) : Rat)))]) (by exact trivial) k_ (by rfl) (by rfl) (by rfl)
     ·refine RDi.new (i := 9) (fun b => pt b) (.cells (ratC (⟨saNil, saNil⟩ : RA) (⟨false, ([] : List Nat), ([] : List Nat)⟩ : Raw)) 27 (0, 0)) k_ k_ k_ (fun w => by kernel_rfl) (fun b17 => ?_)
      refine RD.call (i := 5) (m19_Mean_c (⟨some ⟨b14, 0, none⟩, 2⟩ : SA) ([(y1, (encQ ((1 : Int) : Rat))), (y3, (encQ (((-1) : Int) : Rat)))] : List PR) y1 ((1 : Int) : Rat) y13 ((2 : Int) : Rat) y_l19_awake y_l19_awake y_l19_awake y_l19_awake y_l19_awake) [0, 5, 3] k_ k_ k_ k_ k_ rfl (fun y18 _ => ?_)
      refine RD.bq (nl [6, 7, 8]) [1, 2, 14, 15] [] [(1, pt b2), (2, pt b17), (14, ratV y18 (encQ (meanV ([(y1, (encQ ((1 : Int) : Rat))), (y3, (encQ (((-1) : Int) : Rat)))] : List PR) ((1 : Int) : Rat) ((2 : Int) : Rat)))), (15, .int .i64 (meanE ([(y1, (encQ ((1 : Int) : Rat))), (y3, (encQ (((-1) : Int) : Rat)))] : List PR).length ((1 : Int) : Rat) ((2 : Int) : Rat)))] k_ k_ ?_
      refine RD.last (i := 10) (some 0) [1, 2, 15] [b17, b17, b17] k_ k_ k_ (l' := [(1, pt b2), (2, pt b17), (15, .int .i64 (meanE ([(y1, (encQ ((1 : Int) : Rat))), (y3, (encQ (((-1) : Int) : Rat)))] : List PR).length ((1 : Int) : Rat) ((2 : Int) : Rat)))]) (M' := [(b17, .cells (ratC y18 (encQ (meanV ([(y1, (encQ ((1 : Int) : Rat))), (y3, (encQ (((-1) : Int) : Rat)))] : List PR) ((1 : Int) : Rat) ((2 : Int) : Rat)))) 27 (0, 0)), (b2, .cells (ratC y1 (encQ ((1 : Int) : Rat))) 27 (0, 0))]) k_ ?_
      refine RD.bq (nl [11]) [1, 2, 3] [] [(1, pt b2), (2, pt b17), (3, .int .i64 (meanE ([(y1, (encQ ((1 : Int) : Rat))), (y3, (encQ (((-1) : Int) : Rat)))] : List PR).length ((1 : Int) : Rat) ((2 : Int) : Rat)))] k_ k_ ?_
      refine RD.done k_ ?_
      refine KN.meet (y3, b14, y13, y18, b17) [1, 2, 3] [0, 1, 2, 3, 4, 5, 6] (l2 := [(1, pt b2), (2, pt b17), (3, .int .i64 (meanE ([(y1, (encQ ((1 : Int) : Rat))), (y3, (encQ (((-1) : Int) : Rat)))] : List PR).length ((1 : Int) : Rat) ((2 : Int) : Rat)))]) (by exact trivial) k_ (by rfl) (by rfl) (by rfl)
    ·refine RDi.new (i := 9) (fun b => pt b) (.cells (ratC (⟨saNil, saNil⟩ : RA) (⟨false, ([] : List Nat), ([] : List Nat)⟩ : Raw)) 27 (0, 0)) k_ k_ k_ (fun w => by kernel_rfl) (fun b19 => ?_)
     refine RD.new (i := 2) (fun b => .slice (some ⟨b, 0, none⟩) 2 2) (.cells (encR ([(y1, (encQ ((1 : Int) : Rat))), (y3, (encQ (((-1) : Int) : Rat)))] : List PR)) 27 (0, 0)) k_ k_ k_ k_ (fun w => by kernel_rfl) (fun b20 => ?_)
     refine RD.share 0 rfl rfl k_ ?_
     refine RD.also (allRat ([(y1, (encQ ((1 : Int) : Rat))), (y3, (encQ (((-1) : Int) : Rat)))] : List PR)) (fun w h => allRat_cons (h _ (.tail _ ((.tail _ ((.tail _ ((.head _)))))))) (allRat_cons (h _ (.tail _ ((.tail _ ((.head _)))))) (allRat_nil _))) k_ ?_
     refine RD.also (fRats (⟨some ⟨b20, 0, none⟩, 2⟩ : SA) ([(y1, (encQ ((1 : Int) : Rat))), (y3, (encQ (((-1) : Int) : Rat)))] : List PR)) (fun w h => fRats_own (h _ (.tail _ ((.head _)))) (h _ (.head _)) x_ x_) k_ ?_
     refine RD.turn 10 (v := .slice (some ⟨b20, 0, none⟩) 2 2) (v' := sl (⟨some ⟨b20, 0, none⟩, 2⟩ : SA) ([(y1, (encQ ((1 : Int) : Rat))), (y3, (encQ (((-1) : Int) : Rat)))] : List PR).length) k_ (sl_eq x_) ?_
     refine RD.call (i := 5) (m19_Mean_c (⟨some ⟨b20, 0, none⟩, 2⟩ : SA) ([(y1, (encQ ((1 : Int) : Rat))), (y3, (encQ (((-1) : Int) : Rat)))] : List PR) y1 ((1 : Int) : Rat) y13 ((2 : Int) : Rat) y_l19_awake y_l19_awake y_l19_awake y_l19_awake y_l19_awake) [0, 5, 3] k_ k_ k_ k_ k_ rfl (fun y21 _ => ?_)
     refine RD.bq (nl [6, 7, 8]) [1, 2, 14, 15] [] [(1, pt b2), (2, pt b19), (14, ratV y21 (encQ (meanV ([(y1, (encQ ((1 : Int) : Rat))), (y3, (encQ (((-1) : Int) : Rat)))] : List PR) ((1 : Int) : Rat) ((2 : Int) : Rat)))), (15, .int .i64 (meanE ([(y1, (encQ ((1 : Int) : Rat))), (y3, (encQ (((-1) : Int) : Rat)))] : List PR).length ((1 : Int) : Rat) ((2 : Int) : Rat)))] k_ k_ ?_
     refine RD.last (i := 10) (some 0) [1, 2, 15] [b19, b19, b19] k_ k_ k_ (l' := [(1, pt b2), (2, pt b19), (15, .int .i64 (meanE ([(y1, (encQ ((1 : Int) : Rat))), (y3, (encQ (((-1) : Int) : Rat)))] : List PR).length ((1 : Int) : Rat) ((2 : Int) : Rat)))]) (M' := [(b19, .cells (ratC y21 (encQ (meanV ([(y1, (encQ ((1 : Int) : Rat))), (y3, (encQ (((-1) : Int) : Rat)))] : List PR) ((1 : Int) : Rat) ((2 : Int) : Rat)))) 27 (0, 0)), (b2, .cells (ratC y1 (encQ ((1 : Int) : Rat))) 27 (0, 0))]) k_ ?_
     refine RD.bq (nl [11]) [1, 2, 3] [] [(1, pt b2), (2, pt b19), (3, .int .i64 (meanE ([(y1, (encQ ((1 : Int) : Rat))), (y3, (encQ (((-1) : Int) : Rat)))] : List PR).length ((1 : Int) : Rat) ((2 : Int) : Rat)))] k_ k_ ?_
     refine RD.done k_ ?_
     refine KN.meet (y3, b20, y13, y21, b19) [1, 2, 3] [0, 1, 2, 3, 4, 5, 6] (l2 := [(1, pt b2), (2, pt b19), (3, .int .i64 (meanE ([(y1, (encQ ((1 : Int) : Rat))), (y3, (encQ (((-1) : Int) : Rat)))] : List PR).length ((1 : Int) : Rat) ((2 : Int) : Rat)))]) (by exact trivial) k_ (by rfl) (by rfl) (by rfl)
   ·refine RDi.new (i := 9) (fun b => pt b) (.cells (ratC (⟨saNil, saNil⟩ : RA) (⟨false, ([] : List Nat), ([] : List Nat)⟩ : Raw)) 27 (0, 0)) k_ k_ k_ (fun w => by kernel_rfl) (fun b22 => ?_)
    refine RD.forkL (is := [2, 4]) k_ rfl k_ ⟨?_, ?_, trivial⟩
    ·refine RDi.new (i := 2) (fun b => .slice (some ⟨b, 0, none⟩) 2 2) (.cells (encR ([(y1, (encQ ((1 : Int) : Rat))), (y3, (encQ (((-1) : Int) : Rat)))] : List PR)) 27 (0, 0)) k_ k_ k_ (fun w => by kernel_rfl) (fun b23 => ?_)
     refine RD.call (i := 4) (r03_FromInt 2 y_l19_awake y_l19_awake) [] k_ k_ k_ k_ k_ rfl (fun y24 _ => ?_)
     refine RD.share 0 rfl rfl k_ ?_
     refine RD.also (allRat ([(y1, (encQ ((1 : Int) : Rat))), (y3, (encQ (((-1) : Int) : Rat)))] : List PR)) (fun w h => allRat_cons (h _ (.tail _ ((.tail _ ((.tail _ ((.head _)))))))) (allRat_cons (h _ (.tail _ ((.tail _ ((.head _)))))) (allRat_nil _))) k_ ?_
     refine RD.also (fRats (⟨some ⟨b23, 0, none⟩, 2⟩ : SA) ([(y1, (encQ ((1 : Int) : Rat))), (y3, (encQ (((-1) : Int) : Rat)))] : List PR)) (fun w h => fRats_own (h _ (.tail _ ((.head _)))) (h _ (.head _)) x_ x_) k_ ?_
     refine RD.turn 10 (v := .slice (some ⟨b23, 0, none⟩) 2 2) (v' := sl (⟨some ⟨b23, 0, none⟩, 2⟩ : SA) ([(y1, (encQ ((1 : Int) : Rat))), (y3, (encQ (((-1) : Int) : Rat)))] : List PR).length) k_ (sl_eq x_) ?_
     refine RD.call (i := 5) (m19_Mean_c (⟨some ⟨b23, 0, none⟩, 2⟩ : SA) ([(y1, (encQ ((1 : Int) : Rat))), (y3, (encQ (((-1) : Int) : Rat)))] : List PR) y1 ((1 : Int) : Rat) y24 ((2 : Int) : Rat) y_l19_awake y_l19_awake y_l19_awake y_l19_awake y_l19_awake) [0, 5, 3] k_ k_ k_ k_ k_ rfl (fun y25 _ => ?_)
     refine RD.bq (nl [6, 7, 8]) [1, 2, 14, 15] [] [(1, pt b2), (2, pt b22), (14, ratV y25 (encQ (meanV ([(y1, (encQ ((1 : Int) : Rat))), (y3, (encQ (((-1) : Int) : Rat)))] : List PR) ((1 : Int) : Rat) ((2 : Int) : Rat)))), (15, .int .i64 (meanE ([(y1, (encQ ((1 : Int) : Rat))), (y3, (encQ (((-1) : Int) : Rat)))] : List PR).length ((1 : Int) : Rat) ((2 : Int) : Rat)))] k_ k_ ?_
     refine RD.last (i := 10) (some 0) [1, 2, 15] [b22, b22, b22] k_ k_ k_ (l' := [(1, pt b2), (2, pt b22), (15, .int .i64 (meanE ([(y1, (encQ ((1 : Int) : Rat))), (y3, (encQ (((-1) : Int) : Rat)))] : List PR).length ((1 : Int) : Rat) ((2 : Int) : Rat)))]) (M' := [(b22, .cells (ratC y25 (encQ (meanV ([(y1, (encQ ((1 : Int) : Rat))), (y3, (encQ (((-1) : Int) : Rat)))] : List PR) ((1 : Int) : Rat) ((2 : Int) : Rat)))) 27 (0, 0)), (b2, .cells (ratC y1 (encQ ((1 : Int) : Rat))) 27 (0, 0))]) k_ ?_
     refine RD.bq (nl [11]) [1, 2, 3] [] [(1, pt b2), (2, pt b22), (3, .int .i64 (meanE ([(y1, (encQ ((1 : Int) : Rat))), (y3, (encQ (((-1) : Int) : Rat)))] : List PR).length ((1 : Int) : Rat) ((2 : Int) : Rat)))] k_ k_ ?_
     refine RD.done k_ ?_
     refine KN.meet (y3, b23, y24, y25, b22) [1, 2, 3] [0, 1, 2, 3, 4, 5, 6] (l2 := [(1, pt b2), (2, pt b22), (3, .int .i64 (meanE ([(y1, (encQ ((1 : Int) : Rat))), (y3, (encQ (((-1) : Int) : Rat)))] : List PR).length ((1 : Int) : Rat) ((2 : Int) : Rat)))]) (by exact trivial) k_ (by rfl) (by rfl) (by rfl)
    ·refine RDi.call (i := 4) (r03_FromInt 2 y_l19_awake y_l19_awake) [] k_ k_ k_ k_ rfl (fun y26 _ => ?_)
     refine RD.new (i := 2) (fun b => .slice (some ⟨b, 0, none⟩) 2 2) (.cells (encR ([(y1, (encQ ((1 : Int) : Rat))), (y3, (encQ (((-1) : Int) : Rat)))] : List PR)) 27 (0, 0)) k_ k_ k_ k_ (fun w => by kernel_rfl) (fun b27 => ?_)
     refine RD.share 0 rfl rfl k_ ?_
     refine RD.also (allRat ([(y1, (encQ ((1 : Int) : Rat))), (y3, (encQ (((-1) : Int) : Rat)))] : List PR)) (fun w h => allRat_cons (h _ (.tail _ ((.tail _ ((.tail _ ((.head _)))))))) (allRat_cons (h _ (.tail _ ((.tail _ ((.head _)))))) (allRat_nil _))) k_ ?_
     refine RD.also (fRats (⟨some ⟨b27, 0, none⟩, 2⟩ : SA) ([(y1, (encQ ((1 : Int) : Rat))), (y3, (encQ (((-1) : Int) : Rat)))] : List PR)) (fun w h => fRats_own (h _ (.tail _ ((.head _)))) (h _ (.head _)) x_ x_) k_ ?_
     refine RD.turn 10 (v := .slice (some ⟨b27, 0, none⟩) 2 2) (v' := sl (⟨some ⟨b27, 0, none⟩, 2⟩ : SA) ([(y1, (encQ ((1 : Int) : Rat))), (y3, (encQ (((-1) : Int) : Rat)))] : List PR).length) k_ (sl_eq x_) ?_
     refine RD.call (i := 5) (m19_Mean_c (⟨some ⟨b27, 0, none⟩, 2⟩ : SA) ([(y1, (encQ ((1 : Int) : Rat))), (y3, (encQ (((-1) : Int) : Rat)))] : List PR) y1 ((1 : Int) : Rat) y26 ((2 : Int) : Rat) y_l19_awake y_l19_awake y_l19_awake y_l19_awake y_l19_awake) [0, 5, 3] k_ k_ k_ k_ k_ rfl (fun y28 _ => ?_)
     refine RD.bq (nl [6, 7, 8]) [1, 2, 14, 15] [] [(1, pt b2), (2, pt b22), (14, ratV y28 (encQ (meanV ([(y1, (encQ ((1 : Int) : Rat))), (y3, (encQ (((-1) : Int) : Rat)))] : List PR) ((1 : Int) : Rat) ((2 : Int) : Rat)))), (15, .int .i64 (meanE ([(y1, (encQ ((1 : Int) : Rat))), (y3, (encQ (((-1) : Int) : Rat)))] : List PR).length ((1 : Int) : Rat) ((2 : Int) : Rat)))] k_ k_ ?_
     refine RD.last (i := 10) (some 0) [1, 2, 15] [b22, b22, b22] k_ k_ k_ (l' := [(1, pt b2), (2, pt b22), (15, .int .i64 (meanE ([(y1, (encQ ((1 : Int) : Rat))), (y3, (encQ (((-1) : Int) : Rat)))] : List PR).length ((1 : Int) : Rat) ((2 : Int) : Rat)))]) (M' := [(b22, .cells (ratC y28 (encQ (meanV ([(y1, (encQ ((1 : Int) : Rat))), (y3, (encQ (((-1) : Int) : Rat)))] : List PR) ((1 : Int) : Rat) ((2 : Int) : Rat)))) 27 (0, 0)), (b2, .cells (ratC y1 (encQ ((1 : Int) : Rat))) 27 (0, 0))]) k_ ?_
     refine RD.bq (nl [11]) [1, 2, 3] [] [(1, pt b2), (2, pt b22), (3, .int .i64 (meanE ([(y1, (encQ ((1 : Int) : Rat))), (y3, (encQ (((-1) : Int) : Rat)))] : List PR).length ((1 : Int) : Rat) ((2 : Int) : Rat)))] k_ k_ ?_
     refine RD.done k_ ?_
     refine KN.meet (y3, b27, y26, y28, b22) [1, 2, 3] [0, 1, 2, 3, 4, 5, 6] (l2 := [(1, pt b2), (2, pt b22), (3, .int .i64 (meanE ([(y1, (encQ ((1 : Int) : Rat))), (y3, (encQ (((-1) : Int) : Rat)))] : List PR).length ((1 : Int) : Rat) ((2 : Int) : Rat)))]) (by exact trivial) k_ (by rfl) (by rfl) (by rfl)
  ·refine RDi.new (i := 9) (fun b => pt b) (.cells (ratC (⟨saNil, saNil⟩ : RA) (⟨false, ([] : List Nat), ([] : List Nat)⟩ : Raw)) 27 (0, 0)) k_ k_ k_ (fun w => by kernel_rfl) (fun b29 => ?_)
   refine RD.call (i := 1) (r03_FromInt (-1) y_l19_awake y_l19_awake) [] k_ k_ k_ k_ k_ rfl (fun y30 _ => ?_)
   refine RD.forkL (is := [2, 4]) k_ rfl k_ ⟨?_, ?_, trivial⟩
   ·refine RDi.new (i := 2) (fun b => .slice (some ⟨b, 0, none⟩) 2 2) (.cells (encR ([(y1, (encQ ((1 : Int) : Rat))), (y30, (encQ (((-1) : Int) : Rat)))] : List PR)) 27 (0, 0)) k_ k_ k_ (fun w => by kernel_rfl) (fun b31 => ?_)
    refine RD.call (i := 4) (r03_FromInt 2 y_l19_awake y_l19_awake) [] k_ k_ k_ k_ k_ rfl (fun y32 _ => ?_)
    refine RD.share 0 rfl rfl k_ ?_
    refine RD.also (allRat ([(y1, (encQ ((1 : Int) : Rat))), (y30, (encQ (((-1) : Int) : Rat)))] : List PR)) (fun w h => allRat_cons (h _ (.tail _ ((.tail _ ((.tail _ ((.head _)))))))) (allRat_cons (h _ (.tail _ ((.tail _ ((.head _)))))) (allRat_nil _))) k_ ?_
    refine RD.also (fRats (⟨some ⟨b31, 0, none⟩, 2⟩ : SA) ([(y1, (encQ ((1 : Int) : Rat))), (y30, (encQ (((-1) : Int) : Rat)))] : List PR)) (fun w h => fRats_own (h _ (.tail _ ((.head _)))) (h _ (.head _)) x_ x_) k_ ?_
    refine RD.turn 10 (v := .slice (some ⟨b31, 0, none⟩) 2 2) (v' := sl (⟨some ⟨b31, 0, none⟩, 2⟩ : SA) ([(y1, (encQ ((1 : Int) : Rat))), (y30, (encQ (((-1) : Int) : Rat)))] : List PR).length) k_ (sl_eq x_) ?_
    refine RD.call (i := 5) (m19_Mean_c (⟨some ⟨b31, 0, none⟩, 2⟩ : SA) ([(y1, (encQ ((1 : Int) : Rat))), (y30, (encQ (((-1) : Int) : Rat)))] : List PR) y1 ((1 : Int) : Rat) y32 ((2 : Int) : Rat) y_l19_awake y_l19_awake y_l19_awake y_l19_awake y_l19_awake) [0, 5, 3] k_ k_ k_ k_ k_ rfl (fun y33 _ => ?_)
    refine RD.bq (nl [6, 7, 8]) [1, 2, 14, 15] [] [(1, pt b2), (2, pt b29), (14, ratV y33 (encQ (meanV ([(y1, (encQ ((1 : Int) : Rat))), (y30, (encQ (((-1) : Int) : Rat)))] : List PR) ((1 : Int) : Rat) ((2 : Int) : Rat)))), (15, .int .i64 (meanE ([(y1, (encQ ((1 : Int) : Rat))), (y30, (encQ (((-1) : Int) : Rat)))] : List PR).length ((1 : Int) : Rat) ((2 : Int) : Rat)))] k_ k_ ?_
    refine RD.last (i := 10) (some 0) [1, 2, 15] [b29, b29, b29] k_ k_ k_ (l' := [(1, pt b2), (2, pt b29), (15, .int .i64 (meanE ([(y1, (encQ ((1 : Int) : Rat))), (y30, (encQ (((-1) : Int) : Rat)))] : List PR).length ((1 : Int) : Rat) ((2 : Int) : Rat)))]) (M' := [(b29, .cells (ratC y33 (encQ (meanV ([(y1, (encQ ((1 : Int) : Rat))), (y30, (encQ (((-1) : Int) : Rat)))] : List PR) ((1 : Int) : Rat) ((2 : Int) : Rat)))) 27 (0, 0)), (b2, .cells (ratC y1 (encQ ((1 : Int) : Rat))) 27 (0, 0))]) k_ ?_
    refine RD.bq (nl [11]) [1, 2, 3] [] [(1, pt b2), (2, pt b29), (3, .int .i64 (meanE ([(y1, (encQ ((1 : Int) : Rat))), (y30, (encQ (((-1) : Int) : Rat)))] : List PR).length ((1 : Int) : Rat) ((2 : Int) : Rat)))] k_ k_ ?_
    refine RD.done k_ ?_
    refine KN.meet (y30, b31, y32, y33, b29) [1, 2, 3] [0, 1, 2, 3, 4, 5, 6] (l2 := [(1, pt b2), (2, pt b29), (3, .int .i64 (meanE ([(y1, (encQ ((1 : Int) : Rat))), (y30, (encQ (((-1) : Int) : Rat)))] : List PR).length ((1 : Int) : Rat) ((2 : Int) : Rat)))]) (by exact trivial) k_ (by rfl) (by rfl) (by rfl)
   ·refine RDi.call (i := 4) (r03_FromInt 2 y_l19_awake y_l19_awake) [] k_ k_ k_ k_ rfl (fun y34 _ => ?_)
    refine RD.new (i := 2) (fun b => .slice (some ⟨b, 0, none⟩) 2 2) (.cells (encR ([(y1, (encQ ((1 : Int) : Rat))), (y30, (encQ (((-1) : Int) : Rat)))] : List PR)) 27 (0, 0)) k_ k_ k_ k_ (fun w => by kernel_rfl) (fun b35 => ?_)
    refine RD.share 0 rfl rfl k_ ?_
    refine RD.also (allRat ([(y1, (encQ ((1 : Int) : Rat))), (y30, (encQ (((-1) : Int) : Rat)))] : List PR)) (fun w h => allRat_cons (h _ (.tail _ ((.tail _ ((.tail _ ((.head _)))))))) (allRat_cons (h _ (.tail _ ((.tail _ ((.head _)))))) (allRat_nil _))) k_ ?_
    refine RD.also (fRats (⟨some ⟨b35, 0, none⟩, 2⟩ : SA) ([(y1, (encQ ((1 : Int) : Rat))), (y30, (encQ (((-1) : Int) : Rat)))] : List PR)) (fun w h => fRats_own (h _ (.tail _ ((.head _)))) (h _ (.head _)) x_ x_) k_ ?_
    refine RD.turn 10 (v := .slice (some ⟨b35, 0, none⟩) 2 2) (v' := sl (⟨some ⟨b35, 0, none⟩, 2⟩ : SA) ([(y1, (encQ ((1 : Int) : Rat))), (y30, (encQ (((-1) : Int) : Rat)))] : List PR).length) k_ (sl_eq x_) ?_
    refine RD.call (i := 5) (m19_Mean_c (⟨some ⟨b35, 0, none⟩, 2⟩ : SA) ([(y1, (encQ ((1 : Int) : Rat))), (y30, (encQ (((-1) : Int) : Rat)))] : List PR) y1 ((1 : Int) : Rat) y34 ((2 : Int) : Rat) y_l19_awake y_l19_awake y_l19_awake y_l19_awake y_l19_awake) [0, 5, 3] k_ k_ k_ k_ k_ rfl (fun y36 _ => ?_)
    refine RD.bq (nl [6, 7, 8]) [1, 2, 14, 15] [] [(1, pt b2), (2, pt b29), (14, ratV y36 (encQ (meanV ([(y1, (encQ ((1 : Int) : Rat))), (y30, (encQ (((-1) : Int) : Rat)))] : List PR) ((1 : Int) : Rat) ((2 : Int) : Rat)))), (15, .int .i64 (meanE ([(y1, (encQ ((1 : Int) : Rat))), (y30, (encQ (((-1) : Int) : Rat)))] : List PR).length ((1 : Int) : Rat) ((2 : Int) : Rat)))] k_ k_ ?_
    refine RD.last (i := 10) (some 0) [1, 2, 15] [b29, b29, b29] k_ k_ k_ (l' := [(1, pt b2), (2, pt b29), (15, .int .i64 (meanE ([(y1, (encQ ((1 : Int) : Rat))), (y30, (encQ (((-1) : Int) : Rat)))] : List PR).length ((1 : Int) : Rat) ((2 : Int) : Rat)))]) (M' := [(b29, .cells (ratC y36 (encQ (meanV ([(y1, (encQ ((1 : Int) : Rat))), (y30, (encQ (((-1) : Int) : Rat)))] : List PR) ((1 : Int) : Rat) ((2 : Int) : Rat)))) 27 (0, 0)), (b2, .cells (ratC y1 (encQ ((1 : Int) : Rat))) 27 (0, 0))]) k_ ?_
    refine RD.bq (nl [11]) [1, 2, 3] [] [(1, pt b2), (2, pt b29), (3, .int .i64 (meanE ([(y1, (encQ ((1 : Int) : Rat))), (y30, (encQ (((-1) : Int) : Rat)))] : List PR).length ((1 : Int) : Rat) ((2 : Int) : Rat)))] k_ k_ ?_
    refine RD.done k_ ?_
    refine KN.meet (y30, b35, y34, y36, b29) [1, 2, 3] [0, 1, 2, 3, 4, 5, 6] (l2 := [(1, pt b2), (2, pt b29), (3, .int .i64 (meanE ([(y1, (encQ ((1 : Int) : Rat))), (y30, (encQ (((-1) : Int) : Rat)))] : List PR).length ((1 : Int) : Rat) ((2 : Int) : Rat)))]) (by exact trivial) k_ (by rfl) (by rfl) (by rfl)
 ·intro x37 hx38
  obtain ⟨y3, b4, y5, y6, b7⟩ := x37
  replace hx38 : True := hx38
  refine J.seqC (ι := (RA) × (Nat) × (RA) × (RA × RA × Rat × Rat) × (Nat)) (fun x => (ScaleR (vals ([((⟨saNil, saNil⟩ : RA), (⟨false, ([] : List Nat), ([] : List Nat)⟩ : Raw)), ((⟨saNil, saNil⟩ : RA), (⟨false, ([] : List Nat), ([] : List Nat)⟩ : Raw)), ((⟨saNil, saNil⟩ : RA), (⟨false, ([] : List Nat), ([] : List Nat)⟩ : Raw)), (x.1, (encQ ((5 : Int) : Rat)))] : List PR)) ([((⟨saNil, saNil⟩ : RA), (⟨false, ([] : List Nat), ([] : List Nat)⟩ : Raw)), ((⟨saNil, saNil⟩ : RA), (⟨false, ([] : List Nat), ([] : List Nat)⟩ : Raw)), ((⟨saNil, saNil⟩ : RA), (⟨false, ([] : List Nat), ([] : List Nat)⟩ : Raw)), (x.1, (encQ ((5 : Int) : Rat)))] : List PR).length ((1 : Int) : Rat) (((1 : Int) : Rat) / ((4 : Int) : Rat)) 3 x.2.2.2.1.2.2.1 x.2.2.2.1.2.2.2)) (fun x => [(2, pt b7), (3, .int .i64 (meanE ([(y1, (encQ ((1 : Int) : Rat))), (y3, (encQ (((-1) : Int) : Rat)))] : List PR).length ((1 : Int) : Rat) ((2 : Int) : Rat))), (4, .pointer (some ⟨x.2.2.2.2, 0, none⟩)), (5, .int .i64 (checkE ([((⟨saNil, saNil⟩ : RA), (⟨false, ([] : List Nat), ([] : List Nat)⟩ : Raw)), ((⟨saNil, saNil⟩ : RA), (⟨false, ([] : List Nat), ([] : List Nat)⟩ : Raw)), ((⟨saNil, saNil⟩ : RA), (⟨false, ([] : List Nat), ([] : List Nat)⟩ : Raw)), (x.1, (encQ ((5 : Int) : Rat)))] : List PR).length ((1 : Int) : Rat) (((1 : Int) : Rat) / ((4 : Int) : Rat)) 3))]) (fun x => [(x.2.2.2.2, .cells (ivC x.2.2.2.1.1 (encQ x.2.2.2.1.2.2.1) x.2.2.2.1.2.1 (encQ x.2.2.2.1.2.2.2)) 38 (0, 0)), (b7, .cells (ratC y6 (encQ (meanV ([(y1, (encQ ((1 : Int) : Rat))), (y3, (encQ (((-1) : Int) : Rat)))] : List PR) ((1 : Int) : Rat) ((2 : Int) : Rat)))) 27 (0, 0)), (b2, .cells (ratC y1 (encQ ((1 : Int) : Rat))) 27 (0, 0))]) (fun x => [fRat x.2.2.2.1.1 (encQ x.2.2.2.1.2.2.1), fRat x.2.2.2.1.2.1 (encQ x.2.2.2.1.2.2.2), fRats (⟨some ⟨x.2.1, 0, none⟩, 4⟩ : SA) ([((⟨saNil, saNil⟩ : RA), (⟨false, ([] : List Nat), ([] : List Nat)⟩ : Raw)), ((⟨saNil, saNil⟩ : RA), (⟨false, ([] : List Nat), ([] : List Nat)⟩ : Raw)), ((⟨saNil, saNil⟩ : RA), (⟨false, ([] : List Nat), ([] : List Nat)⟩ : Raw)), (x.1, (encQ ((5 : Int) : Rat)))] : List PR), allRat ([((⟨saNil, saNil⟩ : RA), (⟨false, ([] : List Nat), ([] : List Nat)⟩ : Raw)), ((⟨saNil, saNil⟩ : RA), (⟨false, ([] : List Nat), ([] : List Nat)⟩ : Raw)), ((⟨saNil, saNil⟩ : RA), (⟨false, ([] : List Nat), ([] : List Nat)⟩ : Raw)), (x.1, (encQ ((5 : Int) : Rat)))] : List PR), fRat (⟨saNil, saNil⟩ : RA) (⟨false, ([] : List Nat), ([] : List Nat)⟩ : Raw), fBlk x.2.1 (.cells (encR ([((⟨saNil, saNil⟩ : RA), (⟨false, ([] : List Nat), ([] : List Nat)⟩ : Raw)), ((⟨saNil, saNil⟩ : RA), (⟨false, ([] : List Nat), ([] : List Nat)⟩ : Raw)), ((⟨saNil, saNil⟩ : RA), (⟨false, ([] : List Nat), ([] : List Nat)⟩ : Raw)), (x.1, (encQ ((5 : Int) : Rat)))] : List PR)) 27 (0, 0)), fRat x.2.2.1 (encQ (((1 : Int) : Rat) / ((4 : Int) : Rat))), fRat x.1 (encQ ((5 : Int) : Rat)), fRat y6 (encQ (meanV ([(y1, (encQ ((1 : Int) : Rat))), (y3, (encQ (((-1) : Int) : Rat)))] : List PR) ((1 : Int) : Rat) ((2 : Int) : Rat))), fRats (⟨some ⟨b4, 0, none⟩, 2⟩ : SA) ([(y1, (encQ ((1 : Int) : Rat))), (y3, (encQ (((-1) : Int) : Rat)))] : List PR), allRat ([(y1, (encQ ((1 : Int) : Rat))), (y3, (encQ (((-1) : Int) : Rat)))] : List PR), fBlk b4 (.cells (encR ([(y1, (encQ ((1 : Int) : Rat))), (y3, (encQ (((-1) : Int) : Rat)))] : List PR)) 27 (0, 0)), fRat y5 (encQ ((2 : Int) : Rat)), fRat y3 (encQ (((-1) : Int) : Rat)), fRat y1 (encQ ((1 : Int) : Rat))]) ?_ ?_
  ·refine J.regD k_ [12] ?_
   refine RD.bq [(0, none), (1, none), (2, none), (5, some 1)] [2, 3, 17, 18, 19, 22] [b2, b2, b2] [(2, pt b7), (3, .int .i64 (meanE ([(y1, (encQ ((1 : Int) : Rat))), (y3, (encQ (((-1) : Int) : Rat)))] : List PR).length ((1 : Int) : Rat) ((2 : Int) : Rat))), (17, ratV (⟨saNil, saNil⟩ : RA) (⟨false, ([] : List Nat), ([] : List Nat)⟩ : Raw)), (18, ratV (⟨saNil, saNil⟩ : RA) (⟨false, ([] : List Nat), ([] : List Nat)⟩ : Raw)), (19, ratV (⟨saNil, saNil⟩ : RA) (⟨false, ([] : List Nat), ([] : List Nat)⟩ : Raw)), (22, ratV y1 (encQ ((1 : Int) : Rat)))] k_ k_ ?_
   refine RD.forkL (is := [3, 11]) k_ rfl k_ ⟨?_, ?_, trivial⟩
   ·refine RDi.call (i := 3) (r03_FromInt 5 y_l19_awake y_l19_awake) [] k_ k_ k_ k_ rfl (fun y39 _ => ?_)
    refine RD.forkL (is := [4, 6, 11]) k_ rfl k_ ⟨?_, ?_, ?_, trivial⟩
    ·refine RDi.new (i := 4) (fun b => .slice (some ⟨b, 0, none⟩) 4 4) (.cells (encR ([((⟨saNil, saNil⟩ : RA), (⟨false, ([] : List Nat), ([] : List Nat)⟩ : Raw)), ((⟨saNil, saNil⟩ : RA), (⟨false, ([] : List Nat), ([] : List Nat)⟩ : Raw)), ((⟨saNil, saNil⟩ : RA), (⟨false, ([] : List Nat), ([] : List Nat)⟩ : Raw)), (y39, (encQ ((5 : Int) : Rat)))] : List PR)) 27 (0, 0)) k_ k_ k_ (fun w => by kernel_rfl) (fun b40 => ?_)
     refine RD.forkL (is := [6, 11]) k_ rfl k_ ⟨?_, ?_, trivial⟩
     ·refine RDi.call (i := 6) (r03_Fraction 1 4 y_l19_awake y_l19_awake y_l19_awake y_l19_awake y_l19_awake) [] k_ k_ k_ k_ rfl (fun y41 _ => ?_)
      refine RD.share 0 rfl rfl k_ ?_
      refine RD.also (fRat (⟨saNil, saNil⟩ : RA) (⟨false, ([] : List Nat), ([] : List Nat)⟩ : Raw)) (fun w h => ⟨fU_nil w, fU_nil w⟩) k_ ?_
      refine RD.also (allRat ([((⟨saNil, saNil⟩ : RA), (⟨false, ([] : List Nat), ([] : List Nat)⟩ : Raw)), ((⟨saNil, saNil⟩ : RA), (⟨false, ([] : List Nat), ([] : List Nat)⟩ : Raw)), ((⟨saNil, saNil⟩ : RA), (⟨false, ([] : List Nat), ([] : List Nat)⟩ : Raw)), (y39, (encQ ((5 : Int) : Rat)))] : List PR)) (fun w h => allRat_cons (h _ (.head _)) (allRat_cons (h _ (.head _)) (allRat_cons (h _ (.head _)) (allRat_cons (h _ (.tail _ ((.tail _ ((.tail _ ((.head _)))))))) (allRat_nil _))))) k_ ?_
      refine RD.also (fRats (⟨some ⟨b40, 0, none⟩, 4⟩ : SA) ([((⟨saNil, saNil⟩ : RA), (⟨false, ([] : List Nat), ([] : List Nat)⟩ : Raw)), ((⟨saNil, saNil⟩ : RA), (⟨false, ([] : List Nat), ([] : List Nat)⟩ : Raw)), ((⟨saNil, saNil⟩ : RA), (⟨false, ([] : List Nat), ([] : List Nat)⟩ : Raw)), (y39, (encQ ((5 : Int) : Rat)))] : List PR)) (fun w h => fRats_own (h _ (.tail _ ((.tail _ ((.head _)))))) (h _ (.head _)) x_ x_) k_ ?_
      refine RD.turn 21 (v := .slice (some ⟨b40, 0, none⟩) 4 4) (v' := sl (⟨some ⟨b40, 0, none⟩, 4⟩ : SA) ([((⟨saNil, saNil⟩ : RA), (⟨false, ([] : List Nat), ([] : List Nat)⟩ : Raw)), ((⟨saNil, saNil⟩ : RA), (⟨false, ([] : List Nat), ([] : List Nat)⟩ : Raw)), ((⟨saNil, saNil⟩ : RA), (⟨false, ([] : List Nat), ([] : List Nat)⟩ : Raw)), (y39, (encQ ((5 : Int) : Rat)))] : List PR).length) k_ (sl_eq x_) ?_
      refine RD.forkL (is := [7, 11]) k_ rfl k_ ⟨?_, ?_, trivial⟩
      ·refine RDi.call (i := 7) (m19_Scale_c (⟨some ⟨b40, 0, none⟩, 4⟩ : SA) ([((⟨saNil, saNil⟩ : RA), (⟨false, ([] : List Nat), ([] : List Nat)⟩ : Raw)), ((⟨saNil, saNil⟩ : RA), (⟨false, ([] : List Nat), ([] : List Nat)⟩ : Raw)), ((⟨saNil, saNil⟩ : RA), (⟨false, ([] : List Nat), ([] : List Nat)⟩ : Raw)), (y39, (encQ ((5 : Int) : Rat)))] : List PR) y1 ((1 : Int) : Rat) y41 (((1 : Int) : Rat) / ((4 : Int) : Rat)) 3 y_l19_awake y_l19_awake y_l19_awake y_l19_awake y_l19_awake) [0, 12, 4] k_ k_ k_ k_ rfl (fun y42 h43 => ?_)
       refine RD.bq (nl [8, 9, 10]) [2, 3, 25, 26] [] [(2, pt b7), (3, .int .i64 (meanE ([(y1, (encQ ((1 : Int) : Rat))), (y3, (encQ (((-1) : Int) : Rat)))] : List PR).length ((1 : Int) : Rat) ((2 : Int) : Rat))), (25, .agg (ivC y42.1 (encQ y42.2.2.1) y42.2.1 (encQ y42.2.2.2))), (26, .int .i64 (checkE ([((⟨saNil, saNil⟩ : RA), (⟨false, ([] : List Nat), ([] : List Nat)⟩ : Raw)), ((⟨saNil, saNil⟩ : RA), (⟨false, ([] : List Nat), ([] : List Nat)⟩ : Raw)), ((⟨saNil, saNil⟩ : RA), (⟨false, ([] : List Nat), ([] : List Nat)⟩ : Raw)), (y39, (encQ ((5 : Int) : Rat)))] : List PR).length ((1 : Int) : Rat) (((1 : Int) : Rat) / ((4 : Int) : Rat)) 3))] k_ k_ ?_
       refine RD.new (i := 11) (fun b => pt b) (.cells (ivC (⟨saNil, saNil⟩ : RA) (⟨false, ([] : List Nat), ([] : List Nat)⟩ : Raw) (⟨saNil, saNil⟩ : RA) (⟨false, ([] : List Nat), ([] : List Nat)⟩ : Raw)) 38 (0, 0)) k_ k_ k_ k_ (fun w => by kernel_rfl) (fun b44 => ?_)
       refine RD.last (i := 12) (some 0) [2, 3, 4, 26] [b44, b44, b44, b44, b44, b44] k_ k_ k_ (l' := [(2, pt b7), (3, .int .i64 (meanE ([(y1, (encQ ((1 : Int) : Rat))), (y3, (encQ (((-1) : Int) : Rat)))] : List PR).length ((1 : Int) : Rat) ((2 : Int) : Rat))), (4, pt b44), (26, .int .i64 (checkE ([((⟨saNil, saNil⟩ : RA), (⟨false, ([] : List Nat), ([] : List Nat)⟩ : Raw)), ((⟨saNil, saNil⟩ : RA), (⟨false, ([] : List Nat), ([] : List Nat)⟩ : Raw)), ((⟨saNil, saNil⟩ : RA), (⟨false, ([] : List Nat), ([] : List Nat)⟩ : Raw)), (y39, (encQ ((5 : Int) : Rat)))] : List PR).length ((1 : Int) : Rat) (((1 : Int) : Rat) / ((4 : Int) : Rat)) 3))]) (M' := [(b44, .cells (ivC y42.1 (encQ y42.2.2.1) y42.2.1 (encQ y42.2.2.2)) 38 (0, 0)), (b7, .cells (ratC y6 (encQ (meanV ([(y1, (encQ ((1 : Int) : Rat))), (y3, (encQ (((-1) : Int) : Rat)))] : List PR) ((1 : Int) : Rat) ((2 : Int) : Rat)))) 27 (0, 0)), (b2, .cells (ratC y1 (encQ ((1 : Int) : Rat))) 27 (0, 0))]) k_ ?_
       refine RD.bq (nl [13]) [2, 3, 4, 5] [] [(2, pt b7), (3, .int .i64 (meanE ([(y1, (encQ ((1 : Int) : Rat))), (y3, (encQ (((-1) : Int) : Rat)))] : List PR).length ((1 : Int) : Rat) ((2 : Int) : Rat))), (4, pt b44), (5, .int .i64 (checkE ([((⟨saNil, saNil⟩ : RA), (⟨false, ([] : List Nat), ([] : List Nat)⟩ : Raw)), ((⟨saNil, saNil⟩ : RA), (⟨false, ([] : List Nat), ([] : List Nat)⟩ : Raw)), ((⟨saNil, saNil⟩ : RA), (⟨false, ([] : List Nat), ([] : List Nat)⟩ : Raw)), (y39, (encQ ((5 : Int) : Rat)))] : List PR).length ((1 : Int) : Rat) (((1 : Int) : Rat) / ((4 : Int) : Rat)) 3))] k_ k_ ?_
       refine RD.done k_ ?_
       refine KN.meet (y39, b40, y41, y42, b44) [2, 3, 4, 5] [0, 1, 2, 3, 4, 5, 6, 7, 8, 9, 10, 11, 12, 13, 14] (l2 := [(2, pt b7), (3, .int .i64 (meanE ([(y1, (encQ ((1 : Int) : Rat))), (y3, (encQ (((-1) : Int) : Rat)))] : List PR).length ((1 : Int) : Rat) ((2 : Int) : Rat))), (4, pt b44), (5, .int .i64 (checkE ([((⟨saNil, saNil⟩ : RA), (⟨false, ([] : List Nat), ([] : List Nat)⟩ : Raw)), ((⟨saNil, saNil⟩ : RA), (⟨false, ([] : List Nat), ([] : List Nat)⟩ : Raw)), ((⟨saNil, saNil⟩ : RA), (⟨false, ([] : List Nat), ([] : List Nat)⟩ : Raw)), (y39, (encQ ((5 : Int) : Rat)))] : List PR).length ((1 : Int) : Rat) (((1 : Int) : Rat) / ((4 : Int) : Rat)) 3))]) (by exact h43) k_ (by rfl) (by rfl) (by rfl)
      ·refine RDi.new (i := 11) (fun b => pt b) (.cells (ivC (⟨saNil, saNil⟩ : RA) (⟨false, ([] : List Nat), ([] : List Nat)⟩ : Raw) (⟨saNil, saNil⟩ : RA) (⟨false, ([] : List Nat), ([] : List Nat)⟩ : Raw)) 38 (0, 0)) k_ k_ k_ (fun w => by kernel_rfl) (fun b45 => ?_)
       refine RD.call (i := 7) (m19_Scale_c (⟨some ⟨b40, 0, none⟩, 4⟩ : SA) ([((⟨saNil, saNil⟩ : RA), (⟨false, ([] : List Nat), ([] : List Nat)⟩ : Raw)), ((⟨saNil, saNil⟩ : RA), (⟨false, ([] : List Nat), ([] : List Nat)⟩ : Raw)), ((⟨saNil, saNil⟩ : RA), (⟨false, ([] : List Nat), ([] : List Nat)⟩ : Raw)), (y39, (encQ ((5 : Int) : Rat)))] : List PR) y1 ((1 : Int) : Rat) y41 (((1 : Int) : Rat) / ((4 : Int) : Rat)) 3 y_l19_awake y_l19_awake y_l19_awake y_l19_awake y_l19_awake) [0, 12, 4] k_ k_ k_ k_ k_ rfl (fun y46 h47 => ?_)
       refine RD.bq (nl [8, 9, 10]) [2, 3, 4, 25, 26] [] [(2, pt b7), (3, .int .i64 (meanE ([(y1, (encQ ((1 : Int) : Rat))), (y3, (encQ (((-1) : Int) : Rat)))] : List PR).length ((1 : Int) : Rat) ((2 : Int) : Rat))), (4, pt b45), (25, .agg (ivC y46.1 (encQ y46.2.2.1) y46.2.1 (encQ y46.2.2.2))), (26, .int .i64 (checkE ([((⟨saNil, saNil⟩ : RA), (⟨false, ([] : List Nat), ([] : List Nat)⟩ : Raw)), ((⟨saNil, saNil⟩ : RA), (⟨false, ([] : List Nat), ([] : List Nat)⟩ : Raw)), ((⟨saNil, saNil⟩ : RA), (⟨false, ([] : List Nat), ([] : List Nat)⟩ : Raw)), (y39, (encQ ((5 : Int) : Rat)))] : List PR).length ((1 : Int) : Rat) (((1 : Int) : Rat) / ((4 : Int) : Rat)) 3))] k_ k_ ?_
       refine RD.last (i := 12) (some 0) [2, 3, 4, 26] [b45, b45, b45, b45, b45, b45] k_ k_ k_ (l' := [(2, pt b7), (3, .int .i64 (meanE ([(y1, (encQ ((1 : Int) : Rat))), (y3, (encQ (((-1) : Int) : Rat)))] : List PR).length ((1 : Int) : Rat) ((2 : Int) : Rat))), (4, pt b45), (26, .int .i64 (checkE ([((⟨saNil, saNil⟩ : RA), (⟨false, ([] : List Nat), ([] : List Nat)⟩ : Raw)), ((⟨saNil, saNil⟩ : RA), (⟨false, ([] : List Nat), ([] : List Nat)⟩ : Raw)), ((⟨saNil, saNil⟩ : RA), (⟨false, ([] : List Nat), ([] : List Nat)⟩ : Raw)), (y39, (encQ ((5 : Int) : Rat)))] : List PR).length ((1 : Int) : Rat) (((1 : Int) : Rat) / ((4 : Int) : Rat)) 3))]) (M' := [(b45, .cells (ivC y46.1 (encQ y46.2.2.1) y46.2.1 (encQ y46.2.2.2)) 38 (0, 0)), (b7, .cells (ratC y6 (encQ (meanV ([(y1, (encQ ((1 : Int) : Rat))), (y3, (encQ (((-1) : Int) : Rat)))] : List PR) ((1 : Int) : Rat) ((2 : Int) : Rat)))) 27 (0, 0)), (b2, .cells (ratC y1 (encQ ((1 : Int) : Rat))) 27 (0, 0))]) k_ ?_
       refine RD.bq (nl [13]) [2, 3, 4, 5] [] [(2, pt b7), (3, .int .i64 (meanE ([(y1, (encQ ((1 : Int) : Rat))), (y3, (encQ (((-1) : Int) : Rat)))] : List PR).length ((1 : Int) : Rat) ((2 : Int) : Rat))), (4, pt b45), (5, .int .i64 (checkE ([((⟨saNil, saNil⟩ : RA), (⟨false, ([] : List Nat), ([] : List Nat)⟩ : Raw)), ((⟨saNil, saNil⟩ : RA), (⟨false, ([] : List Nat), ([] : List Nat)⟩ : Raw)), ((⟨saNil, saNil⟩ : RA), (⟨false, ([] : List Nat), ([] : List Nat)⟩ : Raw)), (y39, (encQ ((5 : Int) : Rat)))] : List PR).length ((1 : Int) : Rat) (((1 : Int) : Rat) / ((4 : Int) : Rat)) 3))] k_ k_ ?_
       refine RD.done k_ ?_
       refine KN.meet (y39, b40, y41, y46, b45) [2, 3, 4, 5] [0, 1, 2, 3, 4, 5, 6, 7, 8, 9, 10, 11, 12, 13, 14] (l2 := [(2, pt b7), (3, .int .i64 (meanE ([(y1, (encQ ((1 : Int) : Rat))), (y3, (encQ (((-1) : Int) : Rat)))] : List PR).length ((1 : Int) : Rat) ((2 : Int) : Rat))), (4, pt b45), (5, .int .i64 (checkE ([((⟨saNil, saNil⟩ : RA), (⟨false, ([] : List Nat), ([] : List Nat)⟩ : Raw)), ((⟨saNil, saNil⟩ : RA), (⟨false, ([] : List Nat), ([] : List Nat)⟩ : Raw)), ((⟨saNil, saNil⟩ : RA), (⟨false, ([] : List Nat), ([] : List Nat)⟩ : Raw)), (y39, (encQ ((5 : Int) : Rat)))] : List PR).length ((1 : Int) : Rat) (((1 : Int) : Rat) / ((4 : Int) : Rat)) 3))]) (by exact h47) k_ (by rfl) (by rfl) (by rfl)
     ·refine RDi.new (i := 11) (fun b => pt b) (.cells (ivC (⟨saNil, saNil⟩ : RA) (⟨false, ([] : List Nat), ([] : List Nat)⟩ : Raw) (⟨saNil, saNil⟩ : RA) (⟨false, ([] : List Nat), ([] : List Nat)⟩ : Raw)) 38 (0, 0)) k_ k_ k_ (fun w => by kernel_rfl) (fun b48 => ?_)
      refine RD.call (i := 6) (r03_Fraction 1 4 y_l19_awake y_l19_awake y_l19_awake y_l19_awake y_l19_awake) [] k_ k_ k_ k_ k_ rfl (fun y49 _ => ?_)
      refine RD.share 1 rfl rfl k_ ?_
      refine RD.also (fRat (⟨saNil, saNil⟩ : RA) (⟨false, ([] : List Nat), ([] : List Nat)⟩ : Raw)) (fun w h => ⟨fU_nil w, fU_nil w⟩) k_ ?_
      refine RD.also (allRat ([((⟨saNil, saNil⟩ : RA), (⟨false, ([] : List Nat), ([] : List Nat)⟩ : Raw)), ((⟨saNil, saNil⟩ : RA), (⟨false, ([] : List Nat), ([] : List Nat)⟩ : Raw)), ((⟨saNil, saNil⟩ : RA), (⟨false, ([] : List Nat), ([] : List Nat)⟩ : Raw)), (y39, (encQ ((5 : Int) : Rat)))] : List PR)) (fun w h => allRat_cons (h _ (.head _)) (allRat_cons (h _ (.head _)) (allRat_cons (h _ (.head _)) (allRat_cons (h _ (.tail _ ((.tail _ ((.tail _ ((.head _)))))))) (allRat_nil _))))) k_ ?_
      refine RD.also (fRats (⟨some ⟨b40, 0, none⟩, 4⟩ : SA) ([((⟨saNil, saNil⟩ : RA), (⟨false, ([] : List Nat), ([] : List Nat)⟩ : Raw)), ((⟨saNil, saNil⟩ : RA), (⟨false, ([] : List Nat), ([] : List Nat)⟩ : Raw)), ((⟨saNil, saNil⟩ : RA), (⟨false, ([] : List Nat), ([] : List Nat)⟩ : Raw)), (y39, (encQ ((5 : Int) : Rat)))] : List PR)) (fun w h => fRats_own (h _ (.tail _ ((.tail _ ((.head _)))))) (h _ (.head _)) x_ x_) k_ ?_
      refine RD.turn 21 (v := .slice (some ⟨b40, 0, none⟩) 4 4) (v' := sl (⟨some ⟨b40, 0, none⟩, 4⟩ : SA) ([((⟨saNil, saNil⟩ : RA), (⟨false, ([] : List Nat), ([] : List Nat)⟩ : Raw)), ((⟨saNil, saNil⟩ : RA), (⟨false, ([] : List Nat), ([] : List Nat)⟩ : Raw)), ((⟨saNil, saNil⟩ : RA), (⟨false, ([] : List Nat), ([] : List Nat)⟩ : Raw)), (y39, (encQ ((5 : Int) : Rat)))] : List PR).length) k_ (sl_eq x_) ?_
      refine RD.call (i := 7) (m19_Scale_c (⟨some ⟨b40, 0, none⟩, 4⟩ : SA) ([((⟨saNil, saNil⟩ : RA), (⟨false, ([] : List Nat), ([] : List Nat)⟩ : Raw)), ((⟨saNil, saNil⟩ : RA), (⟨false, ([] : List Nat), ([] : List Nat)⟩ : Raw)), ((⟨saNil, saNil⟩ : RA), (⟨false, ([] : List Nat), ([] : List Nat)⟩ : Raw)), (y39, (encQ ((5 : Int) : Rat)))] : List PR) y1 ((1 : Int) : Rat) y49 (((1 : Int) : Rat) / ((4 : Int) : Rat)) 3 y_l19_awake y_l19_awake y_l19_awake y_l19_awake y_l19_awake) [0, 12, 4] k_ k_ k_ k_ k_ rfl (fun y50 h51 => ?_)
      refine RD.bq (nl [8, 9, 10]) [2, 3, 4, 25, 26] [] [(2, pt b7), (3, .int .i64 (meanE ([(y1, (encQ ((1 : Int) : Rat))), (y3, (encQ (((-1) : Int) : Rat)))] : List PR).length ((1 : Int) : Rat) ((2 : Int) : Rat))), (4, pt b48), (25, .agg (ivC y50.1 (encQ y50.2.2.1) y50.2.1 (encQ y50.2.2.2))), (26, .int .i64 (checkE ([((⟨saNil, saNil⟩ : RA), (⟨false, ([] : List Nat), ([] : List Nat)⟩ : Raw)), ((⟨saNil, saNil⟩ : RA), (⟨false, ([] : List Nat), ([] : List Nat)⟩ : Raw)), ((⟨saNil, saNil⟩ : RA), (⟨false, ([] : List Nat), ([] : List Nat)⟩ : Raw)), (y39, (encQ ((5 : Int) : Rat)))] : List PR).length ((1 : Int) : Rat) (((1 : Int) : Rat) / ((4 : Int) : Rat)) 3))] k_ k_ ?_
      refine RD.last (i := 12) (some 0) [2, 3, 4, 26] [b48, b48, b48, b48, b48, b48] k_ k_ k_ (l' := [(2, pt b7), (3, .int .i64 (meanE ([(y1, (encQ ((1 : Int) : Rat))), (y3, (encQ (((-1) : Int) : Rat)))] : List PR).length ((1 : Int) : Rat) ((2 : Int) : Rat))), (4, pt b48), (26, .int .i64 (checkE ([((⟨saNil, saNil⟩ : RA), (⟨false, ([] : List Nat), ([] : List Nat)⟩ : Raw)), ((⟨saNil, saNil⟩ : RA), (⟨false, ([] : List Nat), ([] : List Nat)⟩ : Raw)), ((⟨saNil, saNil⟩ : RA), (⟨false, ([] : List Nat), ([] : List Nat)⟩ : Raw)), (y39, (encQ ((5 : Int) : Rat)))] : List PR).length ((1 : Int) : Rat) (((1 : Int) : Rat) / ((4 : Int) : Rat)) 3))]) (M' := [(b48, .cells (ivC y50.1 (encQ y50.2.2.1) y50.2.1 (encQ y50.2.2.2)) 38 (0, 0)), (b7, .cells (ratC y6 (encQ (meanV ([(y1, (encQ ((1 : Int) : Rat))), (y3, (encQ (((-1) : Int) : Rat)))] : List PR) ((1 : Int) : Rat) ((2 : Int) : Rat)))) 27 (0, 0)), (b2, .cells (ratC y1 (encQ ((1 : Int) : Rat))) 27 (0, 0))]) k_ ?_
      refine RD.bq (nl [13]) [2, 3, 4, 5] [] [(2, pt b7), (3, .int .i64 (meanE ([(y1, (encQ ((1 : Int) : Rat))), (y3, (encQ (((-1) : Int) : Rat)))] : List PR).length ((1 : Int) : Rat) ((2 : Int) : Rat))), (4, pt b48), (5, .int .i64 (checkE ([((⟨saNil, saNil⟩ : RA), (⟨false, ([] : List Nat), ([] : List Nat)⟩ : Raw)), ((⟨saNil, saNil⟩ : RA), (⟨false, ([] : List Nat), ([] : List Nat)⟩ : Raw)), ((⟨saNil, saNil⟩ : RA), (⟨false, ([] : List Nat), ([] : List Nat)⟩ : Raw)), (y39, (encQ ((5 : Int) : Rat)))] : List PR).length ((1 : Int) : Rat) (((1 : Int) : Rat) / ((4 : Int) : Rat)) 3))] k_ k_ ?_
      refine RD.done k_ ?_
      refine KN.meet (y39, b40, y49, y50, b48) [2, 3, 4, 5] [0, 1, 2, 3, 4, 5, 6, 7, 8, 9, 10, 11, 12, 13, 14] (l2 := [(2, pt b7), (3, .int .i64 (meanE ([(y1, (encQ ((1 : Int) : Rat))), (y3, (encQ (((-1) : Int) : Rat)))] : List PR).length ((1 : Int) : Rat) ((2 : Int) : Rat))), (4, pt b48), (5, .int .i64 (checkE ([((⟨saNil, saNil⟩ : RA), (⟨false, ([] : List Nat), ([] : List Nat)⟩ : Raw)), ((⟨saNil, saNil⟩ : RA), (⟨false, ([] : List Nat), ([] : List Nat)⟩ : Raw)), ((⟨saNil, saNil⟩ : RA), (⟨false, ([] : List Nat), ([] : List Nat)⟩ : Raw)), (y39, (encQ ((5 : Int) : Rat)))] : List PR).length ((1 : Int) : Rat) (((1 : Int) : Rat) / ((4 : Int) : Rat)) 3))]) (by exact h51) k_ (by rfl) (by rfl) (by rfl)
    ·refine RDi.call (i := 6) (r03_Fraction 1 4 y_l19_awake y_l19_awake y_l19_awake y_l19_awake y_l19_awake) [] k_ k_ k_ k_ rfl (fun y52 _ => ?_)
     refine RD.forkL (is := [4, 11]) k_ rfl k_ ⟨?_, ?_, trivial⟩
     ·refine RDi.new (i := 4) (fun b => .slice (some ⟨b, 0, none⟩) 4 4) (.cells (encR ([((⟨saNil, saNil⟩ : RA), (⟨false, ([] : List Nat), ([] : List Nat)⟩ : Raw)), ((⟨saNil, saNil⟩ : RA), (⟨false, ([] : List Nat), ([] : List Nat)⟩ : Raw)), ((⟨saNil, saNil⟩ : RA), (⟨false, ([] : List Nat), ([] : List Nat)⟩ : Raw)), (y39, (encQ ((5 : Int) : Rat)))] : List PR)) 27 (0, 0)) k_ k_ k_ (fun w => by kernel_rfl) (fun b53 => ?_)
      refine RD.share 0 rfl rfl k_ ?_
      refine RD.also (fRat (⟨saNil, saNil⟩ : RA) (⟨false, ([] : List Nat), ([] : List Nat)⟩ : Raw)) (fun w h => ⟨fU_nil w, fU_nil w⟩) k_ ?_
      refine RD.also (allRat ([((⟨saNil, saNil⟩ : RA), (⟨false, ([] : List Nat), ([] : List Nat)⟩ : Raw)), ((⟨saNil, saNil⟩ : RA), (⟨false, ([] : List Nat), ([] : List Nat)⟩ : Raw)), ((⟨saNil, saNil⟩ : RA), (⟨false, ([] : List Nat), ([] : List Nat)⟩ : Raw)), (y39, (encQ ((5 : Int) : Rat)))] : List PR)) (fun w h => allRat_cons (h _ (.head _)) (allRat_cons (h _ (.head _)) (allRat_cons (h _ (.head _)) (allRat_cons (h _ (.tail _ ((.tail _ ((.tail _ ((.head _)))))))) (allRat_nil _))))) k_ ?_
      refine RD.also (fRats (⟨some ⟨b53, 0, none⟩, 4⟩ : SA) ([((⟨saNil, saNil⟩ : RA), (⟨false, ([] : List Nat), ([] : List Nat)⟩ : Raw)), ((⟨saNil, saNil⟩ : RA), (⟨false, ([] : List Nat), ([] : List Nat)⟩ : Raw)), ((⟨saNil, saNil⟩ : RA), (⟨false, ([] : List Nat), ([] : List Nat)⟩ : Raw)), (y39, (encQ ((5 : Int) : Rat)))] : List PR)) (fun w h => fRats_own (h _ (.tail _ ((.tail _ ((.head _)))))) (h _ (.head _)) x_ x_) k_ ?_
      refine RD.turn 21 (v := .slice (some ⟨b53, 0, none⟩) 4 4) (v' := sl (⟨some ⟨b53, 0, none⟩, 4⟩ : SA) ([((⟨saNil, saNil⟩ : RA), (⟨false, ([] : List Nat), ([] : List Nat)⟩ : Raw)), ((⟨saNil, saNil⟩ : RA), (⟨false, ([] : List Nat), ([] : List Nat)⟩ : Raw)), ((⟨saNil, saNil⟩ : RA), (⟨false, ([] : List Nat), ([] : List Nat)⟩ : Raw)), (y39, (encQ ((5 : Int) : Rat)))] : List PR).length) k_ (sl_eq x_) ?_
      refine RD.forkL (is := [7, 11]) k_ rfl k_ ⟨?_, ?_, trivial⟩
      ·refine RDi.call (i := 7) (m19_Scale_c (⟨some ⟨b53, 0, none⟩, 4⟩ : SA) ([((⟨saNil, saNil⟩ : RA), (⟨false, ([] : List Nat), ([] : List Nat)⟩ : Raw)), ((⟨saNil, saNil⟩ : RA), (⟨false, ([] : List Nat), ([] : List Nat)⟩ : Raw)), ((⟨saNil, saNil⟩ : RA), (⟨false, ([] : List Nat), ([] : List Nat)⟩ : Raw)), (y39, (encQ ((5 : Int) : Rat)))] : List PR) y1 ((1 : Int) : Rat) y52 (((1 : Int) : Rat) / ((4 : Int) : Rat)) 3 y_l19_awake y_l19_awake y_l19_awake y_l19_awake y_l19_awake) [0, 12, 4] k_ k_ k_ k_ rfl (fun y54 h55 => ?_)
       refine RD.bq (nl [8, 9, 10]) [2, 3, 25, 26] [] [(2, pt b7), (3, .int .i64 (meanE ([(y1, (encQ ((1 : Int) : Rat))), (y3, (encQ (((-1) : Int) : Rat)))] : List PR).length ((1 : Int) : Rat) ((2 : Int) : Rat))), (25, .agg (ivC y54.1 (encQ y54.2.2.1) y54.2.1 (encQ y54.2.2.2))), (26, .int .i64 (checkE ([((⟨saNil, saNil⟩ : RA), (⟨false, ([] : List Nat), ([] : List Nat)⟩ : Raw)), ((⟨saNil, saNil⟩ : RA), (⟨false, ([] : List Nat), ([] : List Nat)⟩ : Raw)), ((⟨saNil, saNil⟩ : RA), (⟨false, ([] : List Nat), ([] : List Nat)⟩ : Raw)), (y39, (encQ ((5 : Int) : Rat)))] : List PR).length ((1 : Int) : Rat) (((1 : Int) : Rat) / ((4 : Int) : Rat)) 3))] k_ k_ ?_
       refine RD.new (i := 11) (fun b => pt b) (.cells (ivC (⟨saNil, saNil⟩ : RA) (⟨false, ([] : List Nat), ([] : List Nat)⟩ : Raw) (⟨saNil, saNil⟩ : RA) (⟨false, ([] : List Nat), ([] : List Nat)⟩ : Raw)) 38 (0, 0)) k_ k_ k_ k_ (fun w => by kernel_rfl) (fun b56 => ?_)
       refine RD.last (i := 12) (some 0) [2, 3, 4, 26] [b56, b56, b56, b56, b56, b56] k_ k_ k_ (l' := [(2, pt b7), (3, .int .i64 (meanE ([(y1, (encQ ((1 : Int) : Rat))), (y3, (encQ (((-1) : Int) : Rat)))] : List PR).length ((1 : Int) : Rat) ((2 : Int) : Rat))), (4, pt b56), (26, .int .i64 (checkE ([((⟨saNil, saNil⟩ : RA), (⟨false, ([] : List Nat), ([] : List Nat)⟩ : Raw)), ((⟨saNil, saNil⟩ : RA), (⟨false, ([] : List Nat), ([] : List Nat)⟩ : Raw)), ((⟨saNil, saNil⟩ : RA), (⟨false, ([] : List Nat), ([] : List Nat)⟩ : Raw)), (y39, (encQ ((5 : Int) : Rat)))] : List PR).length ((1 : Int) : Rat) (((1 : Int) : Rat) / ((4 : Int) : Rat)) 3))]) (M' := [(b56, .cells (ivC y54.1 (encQ y54.2.2.1) y54.2.1 (encQ y54.2.2.2)) 38 (0, 0)), (b7, .cells (ratC y6 (encQ (meanV ([(y1, (encQ ((1 : Int) : Rat))), (y3, (encQ (((-1) : Int) : Rat)))] : List PR) ((1 : Int) : Rat) ((2 : Int) : Rat)))) 27 (0, 0)), (b2, .cells (ratC y1 (encQ ((1 : Int) : Rat))) 27 (0, 0))]) k_ ?_
       refine RD.bq (nl [13]) [2, 3, 4, 5] [] [(2, pt b7), (3, .int .i64 (meanE ([(y1, (encQ ((1 : Int) : Rat))), (y3, (encQ (((-1) : Int) : Rat)))] : List PR).length ((1 : Int) : Rat) ((2 : Int) : Rat))), (4, pt b56), (5, .int .i64 (checkE ([((⟨saNil, saNil⟩ : RA), (⟨false, ([] : List Nat), ([] : List Nat)⟩ : Raw)), ((⟨saNil, saNil⟩ : RA), (⟨false, ([] : List Nat), ([] : List Nat)⟩ : Raw)), ((⟨saNil, saNil⟩ : RA), (⟨false, ([] : List Nat), ([] : List Nat)⟩ : Raw)), (y39, (encQ ((5 : Int) : Rat)))] : List PR).length ((1 : Int) : Rat) (((1 : Int) : Rat) / ((4 : Int) : Rat)) 3))] k_ k_ ?_
       refine RD.done k_ ?_
       refine KN.meet (y39, b53, y52, y54, b56) [2, 3, 4, 5] [0, 1, 2, 3, 4, 5, 6, 7, 8, 9, 10, 11, 12, 13, 14] (l2 := [(2, pt b7), (3, .int .i64 (meanE ([(y1, (encQ ((1 : Int) : Rat))), (y3, (encQ (((-1) : Int) : Rat)))] : List PR).length ((1 : Int) : Rat) ((2 : Int) : Rat))), (4, pt b56), (5, .int .i64 (checkE ([((⟨saNil, saNil⟩ : RA), (⟨false, ([] : List Nat), ([] : List Nat)⟩ : Raw)), ((⟨saNil, saNil⟩ : RA), (⟨false, ([] : List Nat), ([] : List Nat)⟩ : Raw)), ((⟨saNil, saNil⟩ : RA), (⟨false, ([] : List Nat), ([] : List Nat)⟩ : Raw)), (y39, (encQ ((5 : Int) : Rat)))] : List PR).length ((1 : Int) : Rat) (((1 : Int) : Rat) / ((4 : Int) : Rat)) 3))]) (by exact h55) k_ (by rfl) (by rfl) (by rfl)
      ·refine RDi.new (i := 11) (fun b => pt b) (.cells (ivC (⟨saNil, saNil⟩ : RA) (⟨false, ([] : List Nat), ([] : List Nat)⟩ : Raw) (⟨saNil, saNil⟩ : RA) (⟨false, ([] : List Nat), ([] : List Nat)⟩ : Raw)) 38 (0, 0)) k_ k_ k_ (fun w => by kernel_rfl) (fun b57 => ?_)
       refine RD.call (i := 7) (m19_Scale_c (⟨some ⟨b53, 0, none⟩, 4⟩ : SA) ([((⟨saNil, saNil⟩ : RA), (⟨false, ([] : List Nat), ([] : List Nat)⟩ : Raw)), ((⟨saNil, saNil⟩ : RA), (⟨false, ([] : List Nat), ([] : List Nat)⟩ : Raw)), ((⟨saNil, saNil⟩ : RA), (⟨false, ([] : List Nat), ([] : List Nat)⟩ : Raw)), (y39, (encQ ((5 : Int) : Rat)))] : List PR) y1 ((1 : Int) : Rat) y52 (((1 : Int) : Rat) / ((4 : Int) : Rat)) 3 y_l19_awake y_l19_awake y_l19_awake y_l19_awake y_l19_awake) [0, 12, 4] k_ k_ k_ k_ k_ rfl (fun y58 h59 => ?_)
       refine RD.bq (nl [8, 9, 10]) [2, 3, 4, 25, 26] [] [(2, pt b7), (3, .int .i64 (meanE ([(y1, (encQ ((1 : Int) : Rat))), (y3, (encQ (((-1) : Int) : Rat)))] : List PR).length ((1 : Int) : Rat) ((2 : Int) : Rat))), (4, pt b57), (25, .agg (ivC y58.1 (encQ y58.2.2.1) y58.2.1 (encQ y58.2.2.2))), (26, .int .i64 (checkE ([((⟨saNil, saNil⟩ : RA), (⟨false, ([] : List Nat), ([] : List Nat)⟩ : Raw)), ((⟨saNil, saNil⟩ : RA), (⟨false, ([] : List Nat), ([] : List Nat)⟩ : Raw)), ((⟨saNil, saNil⟩ : RA), (⟨false, ([] : List Nat), ([] : List Nat)⟩ : Raw)), (y39, (encQ ((5 : Int) : Rat)))] : List PR).length ((1 : Int) : Rat) (((1 : Int) : Rat) / ((4 : Int) : Rat)) 3))] k_ k_ ?_
       refine RD.last (i := 12) (some 0) [2, 3, 4, 26] [b57, b57, b57, b57, b57, b57] k_ k_ k_ (l' := [(2, pt b7), (3, .int .i64 (meanE ([(y1, (encQ ((1 : Int) : Rat))), (y3, (encQ (((-1) : Int) : Rat)))] : List PR).length ((1 : Int) : Rat) ((2 : Int) : Rat))), (4, pt b57), (26, .int .i64 (checkE ([((⟨saNil, saNil⟩ : RA), (⟨false, ([] : List Nat), ([] : List Nat)⟩ : Raw)), ((⟨saNil, saNil⟩ : RA), (⟨false, ([] : List Nat), ([] : List Nat)⟩ : Raw)), ((⟨saNil, saNil⟩ : RA), (⟨false, ([] : List Nat), ([] : List Nat)⟩ : Raw)), (y39, (encQ ((5 : Int) : Rat)))] : List PR).length ((1 : Int) : Rat) (((1 : Int) : Rat) / ((4 : Int) : Rat)) 3))]) (M' := [(b57, .cells (ivC y58.1 (encQ y58.2.2.1) y58.2.1 (encQ y58.2.2.2)) 38 (0, 0)), (b7, .cells (ratC y6 (encQ (meanV ([(y1, (encQ ((1 : Int) : Rat))), (y3, (encQ (((-1) : Int) : Rat)))] : List PR) ((1 : Int) : Rat) ((2 : Int) : Rat)))) 27 (0, 0)), (b2, .cells (ratC y1 (encQ ((1 : Int) : Rat))) 27 (0, 0))]) k_ ?_
       refine RD.bq (nl [13]) [2, 3, 4, 5] [] [(2, pt b7), (3, .int .i64 (meanE ([(y1, (encQ ((1 : Int) : Rat))), (y3, (encQ (((-1) : Int) : Rat)))] : List PR).length ((1 : Int) : Rat) ((2 : Int) : Rat))), (4, pt b57), (5, .int .i64 (checkE ([((⟨saNil, saNil⟩ : RA), (⟨false, ([] : List Nat), ([] : List Nat)⟩ : Raw)), ((⟨saNil, saNil⟩ : RA), (⟨false, ([] : List Nat), ([] : List Nat)⟩ : Raw)), ((⟨saNil, saNil⟩ : RA), (⟨false, ([] : List Nat), ([] : List Nat)⟩ : Raw)), (y39, (encQ ((5 : Int) : Rat)))] : List PR).length ((1 : Int) : Rat) (((1 : Int) : Rat) / ((4 : Int) : Rat)) 3))] k_ k_ ?_
       refine RD.done k_ ?_
       refine KN.meet (y39, b53, y52, y58, b57) [2, 3, 4, 5] [0, 1, 2, 3, 4, 5, 6, 7, 8, 9, 10, 11, 12, 13, 14] (l2 := [(2, pt b7), (3, .int .i64 (meanE ([(y1, (encQ ((1 : Int) : Rat))), (y3, (encQ (((-1) : Int) : Rat)))] : List PR).length ((1 : Int) : Rat) ((2 : Int) : Rat))), (4, pt b57), (5, .int .i64 (checkE ([((⟨saNil, saNil⟩ : RA), (⟨false, ([] : List Nat), ([] : List Nat)⟩ : Raw)), ((⟨saNil, saNil⟩ : RA), (⟨false, ([] : List Nat), ([] : List Nat)⟩ : Raw)), ((⟨saNil, saNil⟩ : RA), (⟨false, ([] : List Nat), ([] : List Nat)⟩ : Raw)), (y39, (encQ ((5 : Int) : Rat)))] : List PR).length ((1 : Int) : Rat) (((1 : Int) : Rat) / ((4 : Int) : Rat)) 3))]) (by exact h59) k_ (by rfl) (by rfl) (by rfl)
     ·refine RDi.new (i := 11) (fun b => pt b) (.cells (ivC (⟨saNil, saNil⟩ : RA) (⟨false, ([] : List Nat), ([] : List Nat)⟩ : Raw) (⟨saNil, saNil⟩ : RA) (⟨false, ([] : List Nat), ([] : List Nat)⟩ : Raw)) 38 (0, 0)) k_ k_ k_ (fun w => by kernel_rfl) (fun b60 => ?_)
      refine RD.new (i := 4) (fun b => .slice (some ⟨b, 0, none⟩) 4 4) (.cells (encR ([((⟨saNil, saNil⟩ : RA), (⟨false, ([] : List Nat), ([] : List Nat)⟩ : Raw)), ((⟨saNil, saNil⟩ : RA), (⟨false, ([] : List Nat), ([] : List Nat)⟩ : Raw)), ((⟨saNil, saNil⟩ : RA), (⟨false, ([] : List Nat), ([] : List Nat)⟩ : Raw)), (y39, (encQ ((5 : Int) : Rat)))] : List PR)) 27 (0, 0)) k_ k_ k_ k_ (fun w => by kernel_rfl) (fun b61 => ?_)
      refine RD.share 0 rfl rfl k_ ?_
      refine RD.also (fRat (⟨saNil, saNil⟩ : RA) (⟨false, ([] : List Nat), ([] : List Nat)⟩ : Raw)) (fun w h => ⟨fU_nil w, fU_nil w⟩) k_ ?_
      refine RD.also (allRat ([((⟨saNil, saNil⟩ : RA), (⟨false, ([] : List Nat), ([] : List Nat)⟩ : Raw)), ((⟨saNil, saNil⟩ : RA), (⟨false, ([] : List Nat), ([] : List Nat)⟩ : Raw)), ((⟨saNil, saNil⟩ : RA), (⟨false, ([] : List Nat), ([] : List Nat)⟩ : Raw)), (y39, (encQ ((5 : Int) : Rat)))] : List PR)) (fun w h => allRat_cons (h _ (.head _)) (allRat_cons (h _ (.head _)) (allRat_cons (h _ (.head _)) (allRat_cons (h _ (.tail _ ((.tail _ ((.tail _ ((.head _)))))))) (allRat_nil _))))) k_ ?_
      refine RD.also (fRats (⟨some ⟨b61, 0, none⟩, 4⟩ : SA) ([((⟨saNil, saNil⟩ : RA), (⟨false, ([] : List Nat), ([] : List Nat)⟩ : Raw)), ((⟨saNil, saNil⟩ : RA), (⟨false, ([] : List Nat), ([] : List Nat)⟩ : Raw)), ((⟨saNil, saNil⟩ : RA), (⟨false, ([] : List Nat), ([] : List Nat)⟩ : Raw)), (y39, (encQ ((5 : Int) : Rat)))] : List PR)) (fun w h => fRats_own (h _ (.tail _ ((.tail _ ((.head _)))))) (h _ (.head _)) x_ x_) k_ ?_
      refine RD.turn 21 (v := .slice (some ⟨b61, 0, none⟩) 4 4) (v' := sl (⟨some ⟨b61, 0, none⟩, 4⟩ : SA) ([((⟨saNil, saNil⟩ : RA), (⟨false, ([] : List Nat), ([] : List Nat)⟩ : Raw)), ((⟨saNil, saNil⟩ : RA), (⟨false, ([] : List Nat), ([] : List Nat)⟩ : Raw)), ((⟨saNil, saNil⟩ : RA), (⟨false, ([] : List Nat), ([] : List Nat)⟩ : Raw)), (y39, (encQ ((5 : Int) : Rat)))] : List PR).length) k_ (sl_eq x_) ?_
      refine RD.call (i := 7) (m19_Scale_c (⟨some ⟨b61, 0, none⟩, 4⟩ : SA) ([((⟨saNil, saNil⟩ : RA), (⟨false, ([] : List Nat), ([] : List Nat)⟩ : Raw)), ((⟨saNil, saNil⟩ : RA), (⟨false, ([] : List Nat), ([] : List Nat)⟩ : Raw)), ((⟨saNil, saNil⟩ : RA), (⟨false, ([] : List Nat), ([] : List Nat)⟩ : Raw)), (y39, (encQ ((5 : Int) : Rat)))] : List PR) y1 ((1 : Int) : Rat) y52 (((1 : Int) : Rat) / ((4 : Int) : Rat)) 3 y_l19_awake y_l19_awake y_l19_awake y_l19_awake y_l19_awake) [0, 12, 4] k_ k_ k_ k_ k_ rfl (fun y62 h63 => ?_)
      refine RD.bq (nl [8, 9, 10]) [2, 3, 4, 25, 26] [] [(2, pt b7), (3, .int .i64 (meanE ([(y1, (encQ ((1 : Int) : Rat))), (y3, (encQ (((-1) : Int) : Rat)))] : List PR).length ((1 : Int) : Rat) ((2 : Int) : Rat))), (4, pt b60), (25, .agg (ivC y62.1 (encQ y62.2.2.1) y62.2.1 (encQ y62.2.2.2))), (26, .int .i64 (checkE ([((⟨saNil, saNil⟩ : RA), (⟨false, ([] : List Nat), ([] : List Nat)⟩ : Raw)), ((⟨saNil, saNil⟩ : RA), (⟨false, ([] : List Nat), ([] : List Nat)⟩ : Raw)), ((⟨saNil, saNil⟩ : RA), (⟨false, ([] : List Nat), ([] : List Nat)⟩ : Raw)), (y39, (encQ ((5 : Int) : Rat)))] : List PR).length ((1 : Int) : Rat) (((1 : Int) : Rat) / ((4 : Int) : Rat)) 3))] k_ k_ ?_
      refine RD.last (i := 12) (some 0) [2, 3, 4, 26] [b60, b60, b60, b60, b60, b60] k_ k_ k_ (l' := [(2, pt b7), (3, .int .i64 (meanE ([(y1, (encQ ((1 : Int) : Rat))), (y3, (encQ (((-1) : Int) : Rat)))] : List PR).length ((1 : Int) : Rat) ((2 : Int) : Rat))), (4, pt b60), (26, .int .i64 (checkE ([((⟨saNil, saNil⟩ : RA), (⟨false, ([] : List Nat), ([] : List Nat)⟩ : Raw)), ((⟨saNil, saNil⟩ : RA), (⟨false, ([] : List Nat), ([] : List Nat)⟩ : Raw)), ((⟨saNil, saNil⟩ : RA), (⟨false, ([] : List Nat), ([] : List Nat)⟩ : Raw)), (y39, (encQ ((5 : Int) : Rat)))] : List PR).length ((1 : Int) : Rat) (((1 : Int) : Rat) / ((4 : Int) : Rat)) 3))]) (M' := [(b60, .cells (ivC y62.1 (encQ y62.2.2.1) y62.2.1 (encQ y62.2.2.2)) 38 (0, 0)), (b7, .cells (ratC y6 (encQ (meanV ([(y1, (encQ ((1 : Int) : Rat))), (y3, (encQ (((-1) : Int) : Rat)))] : List PR) ((1 : Int) : Rat) ((2 : Int) : Rat)))) 27 (0, 0)), (b2, .cells (ratC y1 (encQ ((1 : Int) : Rat))) 27 (0, 0))]) k_ ?_
      refine RD.bq (nl [13]) [2, 3, 4, 5] [] [(2, pt b7), (3, .int .i64 (meanE ([(y1, (encQ ((1 : Int) : Rat))), (y3, (encQ (((-1) : Int) : Rat)))] : List PR).length ((1 : Int) : Rat) ((2 : Int) : Rat))), (4, pt b60), (5, .int .i64 (checkE ([((⟨saNil, saNil⟩ : RA), (⟨false, ([] : List Nat), ([] : List Nat)⟩ : Raw)), ((⟨saNil, saNil⟩ : RA), (⟨false, ([] : List Nat), ([] : List Nat)⟩ : Raw)), ((⟨saNil, saNil⟩ : RA), (⟨false, ([] : List Nat), ([] : List Nat)⟩ : Raw)), (y39, (encQ ((5 : Int) : Rat)))] : List PR).length ((1 : Int) : Rat) (((1 : Int) : Rat) / ((4 : Int) : Rat)) 3))] k_ k_ ?_
      refine RD.done k_ ?_
      refine KN.meet (y39, b61, y52, y62, b60) [2, 3, 4, 5] [0, 1, 2, 3, 4, 5, 6, 7, 8, 9, 10, 11, 12, 13, 14] (l2 := [(2, pt b7), (3, .int .i64 (meanE ([(y1, (encQ ((1 : Int) : Rat))), (y3, (encQ (((-1) : Int) : Rat)))] : List PR).length ((1 : Int) : Rat) ((2 : Int) : Rat))), (4, pt b60), (5, .int .i64 (checkE ([((⟨saNil, saNil⟩ : RA), (⟨false, ([] : List Nat), ([] : List Nat)⟩ : Raw)), ((⟨saNil, saNil⟩ : RA), (⟨false, ([] : List Nat), ([] : List Nat)⟩ : Raw)), ((⟨saNil, saNil⟩ : RA), (⟨false, ([] : List Nat), ([] : List Nat)⟩ : Raw)), (y39, (encQ ((5 : Int) : Rat)))] : List PR).length ((1 : Int) : Rat) (((1 : Int) : Rat) / ((4 : Int) : Rat)) 3))]) (by exact h63) k_ (by rfl) (by rfl) (by rfl)
    ·refine RDi.new (i := 11) (fun b => pt b) (.cells (ivC (⟨saNil, saNil⟩ : RA) (⟨false, ([] : List Nat), ([] : List Nat)⟩ : Raw) (⟨saNil, saNil⟩ : RA) (⟨false, ([] : List Nat), ([] : List Nat)⟩ : Raw)) 38 (0, 0)) k_ k_ k_ (fun w => by kernel_rfl) (fun b64 => ?_)
     refine RD.forkL (is := [4, 6]) k_ rfl k_ ⟨?_, ?_, trivial⟩
     ·refine RDi.new (i := 4) (fun b => .slice (some ⟨b, 0, none⟩) 4 4) (.cells (encR ([((⟨saNil, saNil⟩ : RA), (⟨false, ([] : List Nat), ([] : List Nat)⟩ : Raw)), ((⟨saNil, saNil⟩ : RA), (⟨false, ([] : List Nat), ([] : List Nat)⟩ : Raw)), ((⟨saNil, saNil⟩ : RA), (⟨false, ([] : List Nat), ([] : List Nat)⟩ : Raw)), (y39, (encQ ((5 : Int) : Rat)))] : List PR)) 27 (0, 0)) k_ k_ k_ (fun w => by kernel_rfl) (fun b65 => ?_)
      refine RD.call (i := 6) (r03_Fraction 1 4 y_l19_awake y_l19_awake y_l19_awake y_l19_awake y_l19_awake) [] k_ k_ k_ k_ k_ rfl (fun y66 _ => ?_)
      refine RD.share 0 rfl rfl k_ ?_
      refine RD.also (fRat (⟨saNil, saNil⟩ : RA) (⟨false, ([] : List Nat), ([] : List Nat)⟩ : Raw)) (fun w h => ⟨fU_nil w, fU_nil w⟩) k_ ?_
      refine RD.also (allRat ([((⟨saNil, saNil⟩ : RA), (⟨false, ([] : List Nat), ([] : List Nat)⟩ : Raw)), ((⟨saNil, saNil⟩ : RA), (⟨false, ([] : List Nat), ([] : List Nat)⟩ : Raw)), ((⟨saNil, saNil⟩ : RA), (⟨false, ([] : List Nat), ([] : List Nat)⟩ : Raw)), (y39, (encQ ((5 : Int) : Rat)))] : List PR)) (fun w h => allRat_cons (h _ (.head _)) (allRat_cons (h _ (.head _)) (allRat_cons (h _ (.head _)) (allRat_cons (h _ (.tail _ ((.tail _ ((.tail _ ((.head _)))))))) (allRat_nil _))))) k_ ?_
      refine RD.also (fRats (⟨some ⟨b65, 0, none⟩, 4⟩ : SA) ([((⟨saNil, saNil⟩ : RA), (⟨false, ([] : List Nat), ([] : List Nat)⟩ : Raw)), ((⟨saNil, saNil⟩ : RA), (⟨false, ([] : List Nat), ([] : List Nat)⟩ : Raw)), ((⟨saNil, saNil⟩ : RA), (⟨false, ([] : List Nat), ([] : List Nat)⟩ : Raw)), (y39, (encQ ((5 : Int) : Rat)))] : List PR)) (fun w h => fRats_own (h _ (.tail _ ((.tail _ ((.head _)))))) (h _ (.head _)) x_ x_) k_ ?_
      refine RD.turn 21 (v := .slice (some ⟨b65, 0, none⟩) 4 4) (v' := sl (⟨some ⟨b65, 0, none⟩, 4⟩ : SA) ([((⟨saNil, saNil⟩ : RA), (⟨false, ([] : List Nat), ([] : List Nat)⟩ : Raw)), ((⟨saNil, saNil⟩ : RA), (⟨false, ([] : List Nat), ([] : List Nat)⟩ : Raw)), ((⟨saNil, saNil⟩ : RA), (⟨false, ([] : List Nat), ([] : List Nat)⟩ : Raw)), (y39, (encQ ((5 : Int) : Rat)))] : List PR).length) k_ (sl_eq x_) ?_
      refine RD.call (i := 7) (m19_Scale_c (⟨some ⟨b65, 0, none⟩, 4⟩ : SA) ([((⟨saNil, saNil⟩ : RA), (⟨false, ([] : List Nat), ([] : List Nat)⟩ : Raw)), ((⟨saNil, saNil⟩ : RA), (⟨false, ([] : List Nat), ([] : List Nat)⟩ : Raw)), ((⟨saNil, saNil⟩ : RA), (⟨false, ([] : List Nat), ([] : List Nat)⟩ : Raw)), (y39, (encQ ((5 : Int) : Rat)))] : List PR) y1 ((1 : Int) : Rat) y66 (((1 : Int) : Rat) / ((4 : Int) : Rat)) 3 y_l19_awake y_l19_awake y_l19_awake y_l19_awake y_l19_awake) [0, 12, 4] k_ k_ k_ k_ k_ rfl (fun y67 h68 => ?_)
      refine RD.bq (nl [8, 9, 10]) [2, 3, 4, 25, 26] [] [(2, pt b7), (3, .int .i64 (meanE ([(y1, (encQ ((1 : Int) : Rat))), (y3, (encQ (((-1) : Int) : Rat)))] : List PR).length ((1 : Int) : Rat) ((2 : Int) : Rat))), (4, pt b64), (25, .agg (ivC y67.1 (encQ y67.2.2.1) y67.2.1 (encQ y67.2.2.2))), (26, .int .i64 (checkE ([((⟨saNil, saNil⟩ : RA), (⟨false, ([] : List Nat), ([] : List Nat)⟩ : Raw)), ((⟨saNil, saNil⟩ : RA), (⟨false, ([] : List Nat), ([] : List Nat)⟩ : Raw)), ((⟨saNil, saNil⟩ : RA), (⟨false, ([] : List Nat), ([] : List Nat)⟩ : Raw)), (y39, (encQ ((5 : Int) : Rat)))] : List PR).length ((1 : Int) : Rat) (((1 : Int) : Rat) / ((4 : Int) : Rat)) 3))] k_ k_ ?_
      refine RD.last (i := 12) (some 0) [2, 3, 4, 26] [b64, b64, b64, b64, b64, b64] k_ k_ k_ (l' := [(2, pt b7), (3, .int .i64 (meanE ([(y1, (encQ ((1 : Int) : Rat))), (y3, (encQ (((-1) : Int) : Rat)))] : List PR).length ((1 : Int) : Rat) ((2 : Int) : Rat))), (4, pt b64), (26, .int .i64 (checkE ([((⟨saNil, saNil⟩ : RA), (⟨false, ([] : List Nat), ([] : List Nat)⟩ : Raw)), ((⟨saNil, saNil⟩ : RA), (⟨false, ([] : List Nat), ([] : List Nat)⟩ : Raw)), ((⟨saNil, saNil⟩ : RA), (⟨false, ([] : List Nat), ([] : List Nat)⟩ : Raw)), (y39, (encQ ((5 : Int) : Rat)))] : List PR).length ((1 : Int) : Rat) (((1 : Int) : Rat) / ((4 : Int) : Rat)) 3))]) (M' := [(b64, .cells (ivC y67.1 (encQ y67.2.2.1) y67.2.1 (encQ y67.2.2.2)) 38 (0, 0)), (b7, .cells (ratC y6 (encQ (meanV ([(y1, (encQ ((1 : Int) : Rat))), (y3, (encQ (((-1) : Int) : Rat)))] : List PR) ((1 : Int) : Rat) ((2 : Int) : Rat)))) 27 (0, 0)), (b2, .cells (ratC y1 (encQ ((1 : Int) : Rat))) 27 (0, 0))]) k_ ?_
      refine RD.bq (nl [13]) [2, 3, 4, 5] [] [(2, pt b7), (3, .int .i64 (meanE ([(y1, (encQ ((1 : Int) : Rat))), (y3, (encQ (((-1) : Int) : Rat)))] : List PR).length ((1 : Int) : Rat) ((2 : Int) : Rat))), (4, pt b64), (5, .int .i64 (checkE ([((⟨saNil, saNil⟩ : RA), (⟨false, ([] : List Nat), ([] : List Nat)⟩ : Raw)), ((⟨saNil, saNil⟩ : RA), (⟨false, ([] : List Nat), ([] : List Nat)⟩ : Raw)), ((⟨saNil, saNil⟩ : RA), (⟨false, ([] : List Nat), ([] : List Nat)⟩ : Raw)), (y39, (encQ ((5 : Int) : Rat)))] : List PR).length ((1 : Int) : Rat) (((1 : Int) : Rat) / ((4 : Int) : Rat)) 3))] k_ k_ ?_
      refine RD.done k_ ?_
      refine KN.meet (y39, b65, y66, y67, b64) [2, 3, 4, 5] [0, 1, 2, 3, 4, 5, 6, 7, 8, 9, 10, 11, 12, 13, 14] (l2 := [(2, pt b7), (3, .int .i64 (meanE ([(y1, (encQ ((1 : Int) : Rat))), (y3, (encQ (((-1) : Int) : Rat)))] : List PR).length ((1 : Int) : Rat) ((2 : Int) : Rat))), (4, pt b64), (5, .int .i64 (checkE ([((⟨saNil, saNil⟩ : RA), (⟨false, ([] : List Nat), ([] : List Nat)⟩ : Raw)), ((⟨saNil, saNil⟩ : RA), (⟨false, ([] : List Nat), ([] : List Nat)⟩ : Raw)), ((⟨saNil, saNil⟩ : RA), (⟨false, ([] : List Nat), ([] : List Nat)⟩ : Raw)), (y39, (encQ ((5 : Int) : Rat)))] : List PR).length ((1 : Int) : Rat) (((1 : Int) : Rat) / ((4 : Int) : Rat)) 3))]) (by exact h68) k_ (by rfl) (by rfl) (by rfl)
     ·refine RDi.call (i := 6) (r03_Fraction 1 4 y_l19_awake y_l19_awake y_l19_awake y_l19_awake y_l19_awake) [] k_ k_ k_ k_ rfl (fun y69 _ => ?_)
      refine RD.new (i := 4) (fun b => .slice (some ⟨b, 0, none⟩) 4 4) (.cells (encR ([((⟨saNil, saNil⟩ : RA), (⟨false, ([] : List Nat), ([] : List Nat)⟩ : Raw)), ((⟨saNil, saNil⟩ : RA), (⟨false, ([] : List Nat), ([] : List Nat)⟩ : Raw)), ((⟨saNil, saNil⟩ : RA), (⟨false, ([] : List Nat), ([] : List Nat)⟩ : Raw)), (y39, (encQ ((5 : Int) : Rat)))] : List PR)) 27 (0, 0)) k_ k_ k_ k_ (fun w => by kernel_rfl) (fun b70 => ?_)
      refine RD.share 0 rfl rfl k_ ?_
      refine RD.also (fRat (⟨saNil, saNil⟩ : RA) (⟨false, ([] : List Nat), ([] : List Nat)⟩ : Raw)) (fun w h => ⟨fU_nil w, fU_nil w⟩) k_ ?_
      refine RD.also (allRat ([((⟨saNil, saNil⟩ : RA), (⟨false, ([] : List Nat), ([] : List Nat)⟩ : Raw)), ((⟨saNil, saNil⟩ : RA), (⟨false, ([] : List Nat), ([] : List Nat)⟩ : Raw)), ((⟨saNil, saNil⟩ : RA), (⟨false, ([] : List Nat), ([] : List Nat)⟩ : Raw)), (y39, (encQ ((5 : Int) : Rat)))] : List PR)) (fun w h => allRat_cons (h _ (.head _)) (allRat_cons (h _ (.head _)) (allRat_cons (h _ (.head _)) (allRat_cons (h _ (.tail _ ((.tail _ ((.tail _ ((.head _)))))))) (allRat_nil _))))) k_ ?_
      refine RD.also (fRats (⟨some ⟨b70, 0, none⟩, 4⟩ : SA) ([((⟨saNil, saNil⟩ : RA), (⟨false, ([] : List Nat), ([] : List Nat)⟩ : Raw)), ((⟨saNil, saNil⟩ : RA), (⟨false, ([] : List Nat), ([] : List Nat)⟩ : Raw)), ((⟨saNil, saNil⟩ : RA), (⟨false, ([] : List Nat), ([] : List Nat)⟩ : Raw)), (y39, (encQ ((5 : Int) : Rat)))] : List PR)) (fun w h => fRats_own (h _ (.tail _ ((.tail _ ((.head _)))))) (h _ (.head _)) x_ x_) k_ ?_
      refine RD.turn 21 (v := .slice (some ⟨b70, 0, none⟩) 4 4) (v' := sl (⟨some ⟨b70, 0, none⟩, 4⟩ : SA) ([((⟨saNil, saNil⟩ : RA), (⟨false, ([] : List Nat), ([] : List Nat)⟩ : Raw)), ((⟨saNil, saNil⟩ : RA), (⟨false, ([] : List Nat), ([] : List Nat)⟩ : Raw)), ((⟨saNil, saNil⟩ : RA), (⟨false, ([] : List Nat), ([] : List Nat)⟩ : Raw)), (y39, (encQ ((5 : Int) : Rat)))] : List PR).length) k_ (sl_eq x_) ?_
      refine RD.call (i := 7) (m19_Scale_c (⟨some ⟨b70, 0, none⟩, 4⟩ : SA) ([((⟨saNil, saNil⟩ : RA), (⟨false, ([] : List Nat), ([] : List Nat)⟩ : Raw)), ((⟨saNil, saNil⟩ : RA), (⟨false, ([] : List Nat), ([] : List Nat)⟩ : Raw)), ((⟨saNil, saNil⟩ : RA), (⟨false, ([] : List Nat), ([] : List Nat)⟩ : Raw)), (y39, (encQ ((5 : Int) : Rat)))] : List PR) y1 ((1 : Int) : Rat) y69 (((1 : Int) : Rat) / ((4 : Int) : Rat)) 3 y_l19_awake y_l19_awake y_l19_awake y_l19_awake y_l19_awake) [0, 12, 4] k_ k_ k_ k_ k_ rfl (fun y71 h72 => ?_)
      refine RD.bq (nl [8, 9, 10]) [2, 3, 4, 25, 26] [] [(2, pt b7), (3, .int .i64 (meanE ([(y1, (encQ ((1 : Int) : Rat))), (y3, (encQ (((-1) : Int) : Rat)))] : List PR).length ((1 : Int) : Rat) ((2 : Int) : Rat))), (4, pt b64), (25, .agg (ivC y71.1 (encQ y71.2.2.1) y71.2.1 (encQ y71.2.2.2))), (26, .int .i64 (checkE ([((⟨saNil, saNil⟩ : RA), (⟨false, ([] : List Nat), ([] : List Nat)⟩ : Raw)), ((⟨saNil, saNil⟩ : RA), (⟨false, ([] : List Nat), ([] : List Nat)⟩ : Raw)), ((⟨saNil, saNil⟩ : RA), (⟨false, ([] : List Nat), ([] : List Nat)⟩ : Raw)), (y39, (encQ ((5 : Int) : Rat)))] : List PR).length ((1 : Int) : Rat) (((1 : Int) : Rat) / ((4 : Int) : Rat)) 3))] k_ k_ ?_
      refine RD.last (i := 12) (some 0) [2, 3, 4, 26] [b64, b64, b64, b64, b64, b64] k_ k_ k_ (l' := [(2, pt b7), (3, .int .i64 (meanE ([(y1, (encQ ((1 : Int) : Rat))), (y3, (encQ (((-1) : Int) : Rat)))] : List PR).length ((1 : Int) : Rat) ((2 : Int) : Rat))), (4, pt b64), (26, .int .i64 (checkE ([((⟨saNil, saNil⟩ : RA), (⟨false, ([] : List Nat), ([] : List Nat)⟩ : Raw)), ((⟨saNil, saNil⟩ : RA), (⟨false, ([] : List Nat), ([] : List Nat)⟩ : Raw)), ((⟨saNil, saNil⟩ : RA), (⟨false, ([] : List Nat), ([] : List Nat)⟩ : Raw)), (y39, (encQ ((5 : Int) : Rat)))] : List PR).length ((1 : Int) : Rat) (((1 : Int) : Rat) / ((4 : Int) : Rat)) 3))]) (M' := [(b64, .cells (ivC y71.1 (encQ y71.2.2.1) y71.2.1 (encQ y71.2.2.2)) 38 (0, 0)), (b7, .cells (ratC y6 (encQ (meanV ([(y1, (encQ ((1 : Int) : Rat))), (y3, (encQ (((-1) : Int) : Rat)))] : List PR) ((1 : Int) : Rat) ((2 : Int) : Rat)))) 27 (0, 0)), (b2, .cells (ratC y1 (encQ ((1 : Int) : Rat))) 27 (0, 0))]) k_ ?_
      refine RD.bq (nl [13]) [2, 3, 4, 5] [] [(2, pt b7), (3, .int .i64 (meanE ([(y1, (encQ ((1 : Int) : Rat))), (y3, (encQ (((-1) : Int) : Rat)))] : List PR).length ((1 : Int) : Rat) ((2 : Int) : Rat))), (4, pt b64), (5, .int .i64 (checkE ([((⟨saNil, saNil⟩ : RA), (⟨false, ([] : List Nat), ([] : List Nat)⟩ : Raw)), ((⟨saNil, saNil⟩ : RA), (⟨false, ([] : List Nat), ([] : List Nat)⟩ : Raw)), ((⟨saNil, saNil⟩ : RA), (⟨false, ([] : List Nat), ([] : List Nat)⟩ : Raw)), (y39, (encQ ((5 : Int) : Rat)))] : List PR).length ((1 : Int) : Rat) (((1 : Int) : Rat) / ((4 : Int) : Rat)) 3))] k_ k_ ?_
      refine RD.done k_ ?_
      refine KN.meet (y39, b70, y69, y71, b64) [2, 3, 4, 5] [0, 1, 2, 3, 4, 5, 6, 7, 8, 9, 10, 11, 12, 13, 14] (l2 := [(2, pt b7), (3, .int .i64 (meanE ([(y1, (encQ ((1 : Int) : Rat))), (y3, (encQ (((-1) : Int) : Rat)))] : List PR).length ((1 : Int) : Rat) ((2 : Int) : Rat))), (4, pt b64), (5, .int .i64 (checkE ([((⟨saNil, saNil⟩ : RA), (⟨false, ([] : List Nat), ([] : List Nat)⟩ : Raw)), ((⟨saNil, saNil⟩ : RA), (⟨false, ([] : List Nat), ([] : List Nat)⟩ : Raw)), ((⟨saNil, saNil⟩ : RA), (⟨false, ([] : List Nat), ([] : List Nat)⟩ : Raw)), (y39, (encQ ((5 : Int) : Rat)))] : List PR).length ((1 : Int) : Rat) (((1 : Int) : Rat) / ((4 : Int) : Rat)) 3))]) (by exact h72) k_ (by rfl) (by rfl) (by rfl)
   ·refine RDi.new (i := 11) (fun b => pt b) (.cells (ivC (⟨saNil, saNil⟩ : RA) (⟨false, ([] : List Nat), ([] : List Nat)⟩ : Raw) (⟨saNil, saNil⟩ : RA) (⟨false, ([] : List Nat), ([] : List Nat)⟩ : Raw)) 38 (0, 0)) k_ k_ k_ (fun w => by kernel_rfl) (fun b73 => ?_)
    refine RD.call (i := 3) (r03_FromInt 5 y_l19_awake y_l19_awake) [] k_ k_ k_ k_ k_ rfl (fun y74 _ => ?_)
    refine RD.forkL (is := [4, 6]) k_ rfl k_ ⟨?_, ?_, trivial⟩
    ·refine RDi.new (i := 4) (fun b => .slice (some ⟨b, 0, none⟩) 4 4) (.cells (encR ([((⟨saNil, saNil⟩ : RA), (⟨false, ([] : List Nat), ([] : List Nat)⟩ : Raw)), ((⟨saNil, saNil⟩ : RA), (⟨false, ([] : List Nat), ([] : List Nat)⟩ : Raw)), ((⟨saNil, saNil⟩ : RA), (⟨false, ([] : List Nat), ([] : List Nat)⟩ : Raw)), (y74, (encQ ((5 : Int) : Rat)))] : List PR)) 27 (0, 0)) k_ k_ k_ (fun w => by kernel_rfl) (fun b75 => ?_)
     refine RD.call (i := 6) (r03_Fraction 1 4 y_l19_awake y_l19_awake y_l19_awake y_l19_awake y_l19_awake) [] k_ k_ k_ k_ k_ rfl (fun y76 _ => ?_)
     refine RD.share 0 rfl rfl k_ ?_
     refine RD.also (fRat (⟨saNil, saNil⟩ : RA) (⟨false, ([] : List Nat), ([] : List Nat)⟩ : Raw)) (fun w h => ⟨fU_nil w, fU_nil w⟩) k_ ?_
     refine RD.also (allRat ([((⟨saNil, saNil⟩ : RA), (⟨false, ([] : List Nat), ([] : List Nat)⟩ : Raw)), ((⟨saNil, saNil⟩ : RA), (⟨false, ([] : List Nat), ([] : List Nat)⟩ : Raw)), ((⟨saNil, saNil⟩ : RA), (⟨false, ([] : List Nat), ([] : List Nat)⟩ : Raw)), (y74, (encQ ((5 : Int) : Rat)))] : List PR)) (fun w h => allRat_cons (h _ (.head _)) (allRat_cons (h _ (.head _)) (allRat_cons (h _ (.head _)) (allRat_cons (h _ (.tail _ ((.tail _ ((.tail _ ((.head _)))))))) (allRat_nil _))))) k_ ?_
     refine RD.also (fRats (⟨some ⟨b75, 0, none⟩, 4⟩ : SA) ([((⟨saNil, saNil⟩ : RA), (⟨false, ([] : List Nat), ([] : List Nat)⟩ : Raw)), ((⟨saNil, saNil⟩ : RA), (⟨false, ([] : List Nat), ([] : List Nat)⟩ : Raw)), ((⟨saNil, saNil⟩ : RA), (⟨false, ([] : List Nat), ([] : List Nat)⟩ : Raw)), (y74, (encQ ((5 : Int) : Rat)))] : List PR)) (fun w h => fRats_own (h _ (.tail _ ((.tail _ ((.head _)))))) (h _ (.head _)) x_ x_) k_ ?_
     refine RD.turn 21 (v := .slice (some ⟨b75, 0, none⟩) 4 4) (v' := sl (⟨some ⟨b75, 0, none⟩, 4⟩ : SA) ([((⟨saNil, saNil⟩ : RA), (⟨false, ([] : List Nat), ([] : List Nat)⟩ : Raw)), ((⟨saNil, saNil⟩ : RA), (⟨false, ([] : List Nat), ([] : List Nat)⟩ : Raw)), ((⟨saNil, saNil⟩ : RA), (⟨false, ([] : List Nat), ([] : List Nat)⟩ : Raw)), (y74, (encQ ((5 : Int) : Rat)))] : List PR).length) k_ (sl_eq x_) ?_
     refine RD.call (i := 7) (m19_Scale_c (⟨some ⟨b75, 0, none⟩, 4⟩ : SA) ([((⟨saNil, saNil⟩ : RA), (⟨false, ([] : List Nat), ([] : List Nat)⟩ : Raw)), ((⟨saNil, saNil⟩ : RA), (⟨false, ([] : List Nat), ([] : List Nat)⟩ : Raw)), ((⟨saNil, saNil⟩ : RA), (⟨false, ([] : List Nat), ([] : List Nat)⟩ : Raw)), (y74, (encQ ((5 : Int) : Rat)))] : List PR) y1 ((1 : Int) : Rat) y76 (((1 : Int) : Rat) / ((4 : Int) : Rat)) 3 y_l19_awake y_l19_awake y_l19_awake y_l19_awake y_l19_awake) [0, 12, 4] k_ k_ k_ k_ k_ rfl (fun y77 h78 => ?_)
     refine RD.bq (nl [8, 9, 10]) [2, 3, 4, 25, 26] [] [(2, pt b7), (3, .int .i64 (meanE ([(y1, (encQ ((1 : Int) : Rat))), (y3, (encQ (((-1) : Int) : Rat)))] : List PR).length ((1 : Int) : Rat) ((2 : Int) : Rat))), (4, pt b73), (25, .agg (ivC y77.1 (encQ y77.2.2.1) y77.2.1 (encQ y77.2.2.2))), (26, .int .i64 (checkE ([((⟨saNil, saNil⟩ : RA), (⟨false, ([] : List Nat), ([] : List Nat)⟩ : Raw)), ((⟨saNil, saNil⟩ : RA), (⟨false, ([] : List Nat), ([] : List Nat)⟩ : Raw)), ((⟨saNil, saNil⟩ : RA), (⟨false, ([] : List Nat), ([] : List Nat)⟩ : Raw)), (y74, (encQ ((5 : Int) : Rat)))] : List PR).length ((1 : Int) : Rat) (((1 : Int) : Rat) / ((4 : Int) : Rat)) 3))] k_ k_ ?_
     refine RD.last (i := 12) (some 0) [2, 3, 4, 26] [b73, b73, b73, b73, b73, b73] k_ k_ k_ (l' := [(2, pt b7), (3, .int .i64 (meanE ([(y1, (encQ ((1 : Int) : Rat))), (y3, (encQ (((-1) : Int) : Rat)))] : List PR).length ((1 : Int) : Rat) ((2 : Int) : Rat))), (4, pt b73), (26, .int .i64 (checkE ([((⟨saNil, saNil⟩ : RA), (⟨false, ([] : List Nat), ([] : List Nat)⟩ : Raw)), ((⟨saNil, saNil⟩ : RA), (⟨false, ([] : List Nat), ([] : List Nat)⟩ : Raw)), ((⟨saNil, saNil⟩ : RA), (⟨false, ([] : List Nat), ([] : List Nat)⟩ : Raw)), (y74, (encQ ((5 : Int) : Rat)))] : List PR).length ((1 : Int) : Rat) (((1 : Int) : Rat) / ((4 : Int) : Rat)) 3))]) (M' := [(b73, .cells (ivC y77.1 (encQ y77.2.2.1) y77.2.1 (encQ y77.2.2.2)) 38 (0, 0)), (b7, .cells (ratC y6 (encQ (meanV ([(y1, (encQ ((1 : Int) : Rat))), (y3, (encQ (((-1) : Int) : Rat)))] : List PR) ((1 : Int) : Rat) ((2 : Int) : Rat)))) 27 (0, 0)), (b2, .cells (ratC y1 (encQ ((1 : Int) : Rat))) 27 (0, 0))]) k_ ?_
     refine RD.bq (nl [13]) [2, 3, 4, 5] [] [(2, pt b7), (3, .int .i64 (meanE ([(y1, (encQ ((1 : Int) : Rat))), (y3, (encQ (((-1) : Int) : Rat)))] : List PR).length ((1 : Int) : Rat) ((2 : Int) : Rat))), (4, pt b73), (5, .int .i64 (checkE ([((⟨saNil, saNil⟩ : RA), (⟨false, ([] : List Nat), ([] : List Nat)⟩ : Raw)), ((⟨saNil, saNil⟩ : RA), (⟨false, ([] : List Nat), ([] : List Nat)⟩ : Raw)), ((⟨saNil, saNil⟩ : RA), (⟨false, ([] : List Nat), ([] : List Nat)⟩ : Raw)), (y74, (encQ ((5 : Int) : Rat)))] : List PR).length ((1 : Int) : Rat) (((1 : Int) : Rat) / ((4 : Int) : Rat)) 3))] k_ k_ ?_
     refine RD.done k_ ?_
     refine KN.meet (y74, b75, y76, y77, b73) [2, 3, 4, 5] [0, 1, 2, 3, 4, 5, 6, 7, 8, 9, 10, 11, 12, 13, 14] (l2 := [(2, pt b7), (3, .int .i64 (meanE ([(y1, (encQ ((1 : Int) : Rat))), (y3, (encQ (((-1) : Int) : Rat)))] : List PR).length ((1 : Int) : Rat) ((2 : Int) : Rat))), (4, pt b73), (5, .int .i64 (checkE ([((⟨saNil, saNil⟩ : RA), (⟨false, ([] : List Nat), ([] : List Nat)⟩ : Raw)), ((⟨saNil, saNil⟩ : RA), (⟨false, ([] : List Nat), ([] : List Nat)⟩ : Raw)), ((⟨saNil, saNil⟩ : RA), (⟨false, ([] : List Nat), ([] : List Nat)⟩ : Raw)), (y74, (encQ ((5 : Int) : Rat)))] : List PR).length ((1 : Int) : Rat) (((1 : Int) : Rat) / ((4 : Int) : Rat)) 3))]) (by exact h78) k_ (by rfl) (by rfl) (by rfl)
    ·refine RDi.call (i := 6) (r03_Fraction 1 4 y_l19_awake y_l19_awake y_l19_awake y_l19_awake y_l19_awake) [] k_ k_ k_ k_ rfl (fun y79 _ => ?_)
     refine RD.new (i := 4) (fun b => .slice (some ⟨b, 0, none⟩) 4 4) (.cells (encR ([((⟨saNil, saNil⟩ : RA), (⟨false, ([] : List Nat), ([] : List Nat)⟩ : Raw)), ((⟨saNil, saNil⟩ : RA), (⟨false, ([] : List Nat), ([] : List Nat)⟩ : Raw)), ((⟨saNil, saNil⟩ : RA), (⟨false, ([] : List Nat), ([] : List Nat)⟩ : Raw)), (y74, (encQ ((5 : Int) : Rat)))] : List PR)) 27 (0, 0)) k_ k_ k_ k_ (fun w => by kernel_rfl) (fun b80 => ?_)
     refine RD.share 0 rfl rfl k_ ?_
     refine RD.also (fRat (⟨saNil, saNil⟩ : RA) (⟨false, ([] : List Nat), ([] : List Nat)⟩ : Raw)) (fun w h => ⟨fU_nil w, fU_nil w⟩) k_ ?_
     refine RD.also (allRat ([((⟨saNil, saNil⟩ : RA), (⟨false, ([] : List Nat), ([] : List Nat)⟩ : Raw)), ((⟨saNil, saNil⟩ : RA), (⟨false, ([] : List Nat), ([] : List Nat)⟩ : Raw)), ((⟨saNil, saNil⟩ : RA), (⟨false, ([] : List Nat), ([] : List Nat)⟩ : Raw)), (y74, (encQ ((5 : Int) : Rat)))] : List PR)) (fun w h => allRat_cons (h _ (.head _)) (allRat_cons (h _ (.head _)) (allRat_cons (h _ (.head _)) (allRat_cons (h _ (.tail _ ((.tail _ ((.tail _ ((.head _)))))))) (allRat_nil _))))) k_ ?_
     refine RD.also (fRats (⟨some ⟨b80, 0, none⟩, 4⟩ : SA) ([((⟨saNil, saNil⟩ : RA), (⟨false, ([] : List Nat), ([] : List Nat)⟩ : Raw)), ((⟨saNil, saNil⟩ : RA), (⟨false, ([] : List Nat), ([] : List Nat)⟩ : Raw)), ((⟨saNil, saNil⟩ : RA), (⟨false, ([] : List Nat), ([] : List Nat)⟩ : Raw)), (y74, (encQ ((5 : Int) : Rat)))] : List PR)) (fun w h => fRats_own (h _ (.tail _ ((.tail _ ((.head _)))))) (h _ (.head _)) x_ x_) k_ ?_
     refine RD.turn 21 (v := .slice (some ⟨b80, 0, none⟩) 4 4) (v' := sl (⟨some ⟨b80, 0, none⟩, 4⟩ : SA) ([((⟨saNil, saNil⟩ : RA), (⟨false, ([] : List Nat), ([] : List Nat)⟩ : Raw)), ((⟨saNil, saNil⟩ : RA), (⟨false, ([] : List Nat), ([] : List Nat)⟩ : Raw)), ((⟨saNil, saNil⟩ : RA), (⟨false, ([] : List Nat), ([] : List Nat)⟩ : Raw)), (y74, (encQ ((5 : Int) : Rat)))] : List PR).length) k_ (sl_eq x_) ?_
     refine RD.call (i := 7) (m19_Scale_c (⟨some ⟨b80, 0, none⟩, 4⟩ : SA) ([((⟨saNil, saNil⟩ : RA), (⟨false, ([] : List Nat), ([] : List Nat)⟩ : Raw)), ((⟨saNil, saNil⟩ : RA), (⟨false, ([] : List Nat), ([] : List Nat)⟩ : Raw)), ((⟨saNil, saNil⟩ : RA), (⟨false, ([] : List Nat), ([] : List Nat)⟩ : Raw)), (y74, (encQ ((5 : Int) : Rat)))] : List PR) y1 ((1 : Int) : Rat) y79 (((1 : Int) : Rat) / ((4 : Int) : Rat)) 3 y_l19_awake y_l19_awake y_l19_awake y_l19_awake y_l19_awake) [0, 12, 4] k_ k_ k_ k_ k_ rfl (fun y81 h82 => ?_)
     refine RD.bq (nl [8, 9, 10]) [2, 3, 4, 25, 26] [] [(2, pt b7), (3, .int .i64 (meanE ([(y1, (encQ ((1 : Int) : Rat))), (y3, (encQ (((-1) : Int) : Rat)))] : List PR).length ((1 : Int) : Rat) ((2 : Int) : Rat))), (4, pt b73), (25, .agg (ivC y81.1 (encQ y81.2.2.1) y81.2.1 (encQ y81.2.2.2))), (26, .int .i64 (checkE ([((⟨saNil, saNil⟩ : RA), (⟨false, ([] : List Nat), ([] : List Nat)⟩ : Raw)), ((⟨saNil, saNil⟩ : RA), (⟨false, ([] : List Nat), ([] : List Nat)⟩ : Raw)), ((⟨saNil, saNil⟩ : RA), (⟨false, ([] : List Nat), ([] : List Nat)⟩ : Raw)), (y74, (encQ ((5 : Int) : Rat)))] : List PR).length ((1 : Int) : Rat) (((1 : Int) : Rat) / ((4 : Int) : Rat)) 3))] k_ k_ ?_
     refine RD.last (i := 12) (some 0) [2, 3, 4, 26] [b73, b73, b73, b73, b73, b73] k_ k_ k_ (l' := [(2, pt b7), (3, .int .i64 (meanE ([(y1, (encQ ((1 : Int) : Rat))), (y3, (encQ (((-1) : Int) : Rat)))] : List PR).length ((1 : Int) : Rat) ((2 : Int) : Rat))), (4, pt b73), (26, .int .i64 (checkE ([((⟨saNil, saNil⟩ : RA), (⟨false, ([] : List Nat), ([] : List Nat)⟩ : Raw)), ((⟨saNil, saNil⟩ : RA), (⟨false, ([] : List Nat), ([] : List Nat)⟩ : Raw)), ((⟨saNil, saNil⟩ : RA), (⟨false, ([] : List Nat), ([] : List Nat)⟩ : Raw)), (y74, (encQ ((5 : Int) : Rat)))] : List PR).length ((1 : Int) : Rat) (((1 : Int) : Rat) / ((4 : Int) : Rat)) 3))]) (M' := [(b73, .cells (ivC y81.1 (encQ y81.2.2.1) y81.2.1 (encQ y81.2.2.2)) 38 (0, 0)), (b7, .cells (ratC y6 (encQ (meanV ([(y1, (encQ ((1 : Int) : Rat))), (y3, (encQ (((-1) : Int) : Rat)))] : List PR) ((1 : Int) : Rat) ((2 : Int) : Rat)))) 27 (0, 0)), (b2, .cells (ratC y1 (encQ ((1 : Int) : Rat))) 27 (0, 0))]) k_ ?_
     refine RD.bq (nl [13]) [2, 3, 4, 5] [] [(2, pt b7), (3, .int .i64 (meanE ([(y1, (encQ ((1 : Int) : Rat))), (y3, (encQ (((-1) : Int) : Rat)))] : List PR).length ((1 : Int) : Rat) ((2 : Int) : Rat))), (4, pt b73), (5, .int .i64 (checkE ([((⟨saNil, saNil⟩ : RA), (⟨false, ([] : List Nat), ([] : List Nat)⟩ : Raw)), ((⟨saNil, saNil⟩ : RA), (⟨false, ([] : List Nat), ([] : List Nat)⟩ : Raw)), ((⟨saNil, saNil⟩ : RA), (⟨false, ([] : List Nat), ([] : List Nat)⟩ : Raw)), (y74, (encQ ((5 : Int) : Rat)))] : List PR).length ((1 : Int) : Rat) (((1 : Int) : Rat) / ((4 : Int) : Rat)) 3))] k_ k_ ?_
     refine RD.done k_ ?_
     refine KN.meet (y74, b80, y79, y81, b73) [2, 3, 4, 5] [0, 1, 2, 3, 4, 5, 6, 7, 8, 9, 10, 11, 12, 13, 14] (l2 := [(2, pt b7), (3, .int .i64 (meanE ([(y1, (encQ ((1 : Int) : Rat))), (y3, (encQ (((-1) : Int) : Rat)))] : List PR).length ((1 : Int) : Rat) ((2 : Int) : Rat))), (4, pt b73), (5, .int .i64 (checkE ([((⟨saNil, saNil⟩ : RA), (⟨false, ([] : List Nat), ([] : List Nat)⟩ : Raw)), ((⟨saNil, saNil⟩ : RA), (⟨false, ([] : List Nat), ([] : List Nat)⟩ : Raw)), ((⟨saNil, saNil⟩ : RA), (⟨false, ([] : List Nat), ([] : List Nat)⟩ : Raw)), (y74, (encQ ((5 : Int) : Rat)))] : List PR).length ((1 : Int) : Rat) (((1 : Int) : Rat) / ((4 : Int) : Rat)) 3))]) (by exact h82) k_ (by rfl) (by rfl) (by rfl)
  ·intro x83 hx84
   obtain ⟨y39, b40, y41, y42, b44⟩ := x83
   replace hx84 : (ScaleR (vals ([((⟨saNil, saNil⟩ : RA), (⟨false, ([] : List Nat), ([] : List Nat)⟩ : Raw)), ((⟨saNil, saNil⟩ : RA), (⟨false, ([] : List Nat), ([] : List Nat)⟩ : Raw)), ((⟨saNil, saNil⟩ : RA), (⟨false, ([] : List Nat), ([] : List Nat)⟩ : Raw)), (y39, (encQ ((5 : Int) : Rat)))] : List PR)) ([((⟨saNil, saNil⟩ : RA), (⟨false, ([] : List Nat), ([] : List Nat)⟩ : Raw)), ((⟨saNil, saNil⟩ : RA), (⟨false, ([] : List Nat), ([] : List Nat)⟩ : Raw)), ((⟨saNil, saNil⟩ : RA), (⟨false, ([] : List Nat), ([] : List Nat)⟩ : Raw)), (y39, (encQ ((5 : Int) : Rat)))] : List PR).length ((1 : Int) : Rat) (((1 : Int) : Rat) / ((4 : Int) : Rat)) 3 y42.2.2.1 y42.2.2.2) := hx84
   have h43 := hx84
   refine J.seq ?_
   refine J.regD k_ [] ?_
   refine RD.bq (nl [0, 1, 2]) [2, 4, 5, 29] [] [(2, pt b7), (4, pt b44), (5, .int .i64 (checkE ([((⟨saNil, saNil⟩ : RA), (⟨false, ([] : List Nat), ([] : List Nat)⟩ : Raw)), ((⟨saNil, saNil⟩ : RA), (⟨false, ([] : List Nat), ([] : List Nat)⟩ : Raw)), ((⟨saNil, saNil⟩ : RA), (⟨false, ([] : List Nat), ([] : List Nat)⟩ : Raw)), (y39, (encQ ((5 : Int) : Rat)))] : List PR).length ((1 : Int) : Rat) (((1 : Int) : Rat) / ((4 : Int) : Rat)) 3)), (29, .bool (((meanE ([(y1, (encQ ((1 : Int) : Rat))), (y3, (encQ (((-1) : Int) : Rat)))] : List PR).length ((1 : Int) : Rat) ((2 : Int) : Rat)) : Int) == 0))] k_ k_ ?_
   refine RD.split (t := 29) (((meanE ([(y1, (encQ ((1 : Int) : Rat))), (y3, (encQ (((-1) : Int) : Rat)))] : List PR).length ((1 : Int) : Rat) ((2 : Int) : Rat)) : Int) == 0) k_ (fun c85 => ?_) (fun c85 => ?_)
   ·replace c85 := eq_of_beq c85
    refine RD.bq (nl [3, 4, 5, 6]) [2, 4, 33] [] [(2, pt b7), (4, pt b44), (33, .bool (((checkE ([((⟨saNil, saNil⟩ : RA), (⟨false, ([] : List Nat), ([] : List Nat)⟩ : Raw)), ((⟨saNil, saNil⟩ : RA), (⟨false, ([] : List Nat), ([] : List Nat)⟩ : Raw)), ((⟨saNil, saNil⟩ : RA), (⟨false, ([] : List Nat), ([] : List Nat)⟩ : Raw)), (y39, (encQ ((5 : Int) : Rat)))] : List PR).length ((1 : Int) : Rat) (((1 : Int) : Rat) / ((4 : Int) : Rat)) 3) : Int) == 0))] k_ k_ ?_
    refine RD.split (t := 33) (((checkE ([((⟨saNil, saNil⟩ : RA), (⟨false, ([] : List Nat), ([] : List Nat)⟩ : Raw)), ((⟨saNil, saNil⟩ : RA), (⟨false, ([] : List Nat), ([] : List Nat)⟩ : Raw)), ((⟨saNil, saNil⟩ : RA), (⟨false, ([] : List Nat), ([] : List Nat)⟩ : Raw)), (y39, (encQ ((5 : Int) : Rat)))] : List PR).length ((1 : Int) : Rat) (((1 : Int) : Rat) / ((4 : Int) : Rat)) 3) : Int) == 0) k_ (fun c86 => ?_) (fun c86 => ?_)
    ·replace c86 := eq_of_beq c86
     refine RD.bq [(7, some 1)] [4, 33, 34] [b7, b7, b7] [(4, pt b44), (33, .bool true), (34, ratV y6 (encQ (meanV ([(y1, (encQ ((1 : Int) : Rat))), (y3, (encQ (((-1) : Int) : Rat)))] : List PR) ((1 : Int) : Rat) ((2 : Int) : Rat))))] k_ k_ ?_
     refine RD.call (i := 8) (r03_Fraction 7 8 y_l19_awake y_l19_awake y_l19_awake y_l19_awake y_l19_awake) [] k_ k_ k_ k_ k_ rfl (fun y87 _ => ?_)
     refine RD.call (i := 9) (r03_Same y6 (encQ (meanV ([(y1, (encQ ((1 : Int) : Rat))), (y3, (encQ (((-1) : Int) : Rat)))] : List PR) ((1 : Int) : Rat) ((2 : Int) : Rat))) y87 (encQ (((7 : Int) : Rat) / ((8 : Int) : Rat)))) [9, 0] k_ k_ k_ k_ k_ rfl (fun y88 _ => ?_)
     refine RD.bq (nl [10, 11]) [4, 38] [] [(4, pt b44), (38, .bool (decide ((encQ (meanV ([(y1, (encQ ((1 : Int) : Rat))), (y3, (encQ (((-1) : Int) : Rat)))] : List PR) ((1 : Int) : Rat) ((2 : Int) : Rat))) = (encQ (((7 : Int) : Rat) / ((8 : Int) : Rat))))))] k_ k_ ?_
     refine RD.split (t := 38) (decide ((encQ (meanV ([(y1, (encQ ((1 : Int) : Rat))), (y3, (encQ (((-1) : Int) : Rat)))] : List PR) ((1 : Int) : Rat) ((2 : Int) : Rat))) = (encQ (((7 : Int) : Rat) / ((8 : Int) : Rat))))) k_ (fun c89 => ?_) (fun c89 => ?_)
     ·replace c89 := of_decide_eq_true c89
      refine RD.bq [(12, some 0), (13, none)] [38, 39, 40] [b44, b44, b44, b44, b44, b44] [(38, .bool true), (39, .agg (ivC y42.1 (encQ y42.2.2.1) y42.2.1 (encQ y42.2.2.2))), (40, .agg (ivC (⟨saNil, saNil⟩ : RA) (⟨false, ([] : List Nat), ([] : List Nat)⟩ : Raw) (⟨saNil, saNil⟩ : RA) (⟨false, ([] : List Nat), ([] : List Nat)⟩ : Raw)))] k_ k_ ?_
      refine RD.call (i := 14) (r04_Same y42.1 (encQ y42.2.2.1) y42.2.1 (encQ y42.2.2.2) ⟨saNil, saNil⟩ ⟨false, ([] : List Nat), ([] : List Nat)⟩ ⟨saNil, saNil⟩ ⟨false, ([] : List Nat), ([] : List Nat)⟩) [1, 2, 5, 5] k_ k_ k_ k_ k_ rfl (fun y90 _ => ?_)
      refine RD.bq (nl [15, 16]) [43] [] [(43, .bool (decide ((encQ y42.2.2.1) = (⟨false, ([] : List Nat), ([] : List Nat)⟩ : Raw)) && decide ((encQ y42.2.2.2) = (⟨false, ([] : List Nat), ([] : List Nat)⟩ : Raw))))] k_ k_ ?_
      refine RD.split (t := 43) ((decide ((encQ y42.2.2.1) = (⟨false, ([] : List Nat), ([] : List Nat)⟩ : Raw)) && decide ((encQ y42.2.2.2) = (⟨false, ([] : List Nat), ([] : List Nat)⟩ : Raw)))) k_ (fun c91 => ?_) (fun c91 => ?_)
      ·refine RD.call (i := 17) (r03_Fraction 1 2 y_l19_awake y_l19_awake y_l19_awake y_l19_awake y_l19_awake) [] k_ k_ k_ k_ k_ rfl (fun y92 _ => ?_)
       refine RD.call (i := 18) (m19_Rho_c y92 (((1 : Int) : Rat) / ((2 : Int) : Rat)) y_l19_awake y_l19_awake) [0] k_ k_ k_ k_ k_ rfl (fun y93 _ => ?_)
       refine RD.call (i := 19) (r03_Fraction 7 8 y_l19_awake y_l19_awake y_l19_awake y_l19_awake y_l19_awake) [] k_ k_ k_ k_ k_ rfl (fun y94 _ => ?_)
       refine RD.call (i := 20) (r03_Same y93 (encQ (rhoQ (((1 : Int) : Rat) / ((2 : Int) : Rat)))) y94 (encQ (((7 : Int) : Rat) / ((8 : Int) : Rat)))) [1, 0] k_ k_ k_ k_ k_ rfl (fun y95 _ => ?_)
       refine RD.bq (nl [21, 22]) [0] [] [(0, .bool (decide ((encQ (rhoQ (((1 : Int) : Rat) / ((2 : Int) : Rat)))) = (encQ (((7 : Int) : Rat) / ((8 : Int) : Rat))))))] k_ k_ ?_
       refine RD.done k_ ?_
       refine KN.next ?_
       have e_1 : true = (decide ((encQ (rhoQ (((1 : Int) : Rat) / ((2 : Int) : Rat)))) = (encQ (((7 : Int) : Rat) / ((8 : Int) : Rat))))) := by exact (decide_eq_true (congrArg encQ aw_r)).symm
       refine J.ret (KR.ret (v := .bool (decide ((encQ (rhoQ (((1 : Int) : Rat) / ((2 : Int) : Rat)))) = (encQ (((7 : Int) : Rat) / ((8 : Int) : Rat)))))) (()) [none] [] [] k_ v1_ (trivial) v1_)
      ·exact absurd c91 (by obtain ⟨e1, e2⟩ := aw_i ‹ScaleR _ _ _ _ _ _ _› (aw_s _ _ _ _ _ rfl); simp [e1, e2])
     ·replace c89 := of_decide_eq_false c89
      exact absurd c89 (by exact fun h => h (congrArg encQ (aw_m _ _)))
    ·replace c86 := ne_of_beq_false c86
     exact absurd c86 (by exact fun h => h aw_c)
   ·replace c85 := ne_of_beq_false c85
    exact absurd c85 (by exact fun h => h aw_e)
end Go.Proofs.YtegnonhgildhoaaGreat.E
namespace Go.Proofs.YtegnonhgildhoaaGreat.E
open Go Go.RowKit
set_option linter.unusedVariables false
set_option linter.unusedSimpArgs false
end Go.Proofs.YtegnonhgildhoaaGreat.E
namespace Go.Proofs.YtegnonhgildhoaaGreat.E
open Go Go.RowKit
set_option linter.unusedVariables false
set_option linter.unusedSimpArgs false
theorem bits_pow {bits : Int} (h : 0 ≤ bits) : P2 (-bits) = 1 / two bits.toNat := by
  unfold P2
  by_cases hb : bits = 0
  · subst hb; decide +kernel
  · rw [if_pos (by omega), show (-(-bits)).toNat = bits.toNat by omega]
theorem ScaleR.cases' {x : Nat → Rat} {n : Nat} {c b : Rat} {bits : Int} {lo hi : Rat} (h : ScaleR x n c b bits lo hi) (he : checkE n c b bits = 0) : (shareN x n ≤ b ∧ lo = 0 ∧ hi = 0) ∨ (b < shareN x n ∧ ScaleOk x n c b bits lo hi) := by
  unfold ScaleR at h
  by_cases hs : shareN x n ≤ b
  · rw [if_pos (.inr hs)] at h; exact .inl ⟨hs, h⟩
  · rw [if_neg (by simp [he, hs])] at h; exact .inr ⟨Rat.not_le.1 hs, h⟩
theorem narrow_zero (bits : Int) : narrowB bits 0 0 = true := by
  unfold narrowB; simp
theorem narrow_ok {bits : Int} {lo hi : Rat} (h0 : 0 ≤ bits) (hp : 0 < lo) (hlt : lo < hi) (hn : hi - lo ≤ P2 (-bits) * hi) : narrowB bits lo hi = true := by
  unfold narrowB
  rw [if_neg (by grind), if_neg (by grind)]
  rw [Bool.and_eq_true, decide_eq_true_eq, Bool.not_eq_true', decide_eq_false_iff_not]
  refine ⟨hp, Rat.not_lt.2 ?_⟩
  rw [bits_pow h0] at hn
  have ht := two_pos bits.toNat
  have := Rat.mul_le_mul_of_nonneg_right hn (Rat.le_of_lt ht)
  have e : 1 / two bits.toNat * hi * two bits.toNat = hi := by grind
  rw [e] at this
  exact this
theorem least_zero {x : Nat → Rat} {n : Nat} {c b : Rat} : atLeastB x n c b 0 = true := by unfold atLeastB; simp
theorem least_ok {x : Nat → Rat} {n : Nat} {c b v : Rat} (hs : b < shareN x n) (h : b ≤ meanN x n c v) : atLeastB x n c b v = true := by
  unfold atLeastB nullB
  split
  · rfl
  · simp [Rat.not_le.2 hs, Rat.not_lt.2 h]
theorem most_zero {x : Nat → Rat} {n : Nat} {c b : Rat} (hs : shareN x n ≤ b) : atMostB x n c b 0 = true := by unfold atMostB nullB; simp [hs]
theorem most_ok {x : Nat → Rat} {n : Nat} {c b v : Rat} (hs : b < shareN x n) (hv : 0 < v) (h : meanN x n c v ≤ b) : atMostB x n c b v = true := by
  unfold atMostB nullB; simp [Rat.not_le.2 hs, hv, Rat.not_lt.2 h]
end Go.Proofs.YtegnonhgildhoaaGreat.E
namespace Go.Proofs.YtegnonhgildhoaaGreat.E
open Go Go.RowKit
set_option linter.unusedVariables false
set_option linter.unusedSimpArgs false
def cQ (c : Int) : Rat := ((1 + c % 9 : Int) : Rat) / ((2 : Int) : Rat)
theorem Q_c {v : Int} : Q 64 (cQ v) := by
  have h1 := emod_b (k := v) (n := 9) (by decide)
  exact ((Q_int (v := 1 + v % 9) (by omega)).div (Q_int (v := 2) (by decide))).le (by decide)
theorem Q_lev {v : Int} : Q 64 (levQ v) := by
  have h1 := emod_b (k := v) (n := 11) (by decide)
  exact ((Q_int (v := 1 + v % 11) (by omega)).div (Q_int (v := 12) (by decide))).le (by decide)
theorem cast_pos {v : Int} (h : 0 < v) : (0 : Rat) < (v : Rat) := by
  have : ((0 : Int) : Rat) < (v : Rat) := Rat.intCast_lt_intCast.2 h
  simpa using this
theorem cQ_pos (v : Int) : 0 < cQ v := by
  have h1 := emod_b (k := v) (n := 9) (by decide)
  unfold cQ; rw [Rat.div_def]
  exact Rat.mul_pos (cast_pos (by omega)) (Rat.inv_pos.2 (cast_pos (by decide)))
theorem lev_in (v : Int) : 0 < levQ v ∧ levQ v < 1 := by
  have h1 := emod_b (k := v) (n := 11) (by decide)
  unfold levQ
  constructor
  · rw [Rat.div_def]
    exact Rat.mul_pos (cast_pos (by omega)) (Rat.inv_pos.2 (cast_pos (by decide)))
  · rw [Rat.div_lt_iff (cast_pos (by decide))]
    have : ((1 + v % 11 : Int) : Rat) < ((12 : Int) : Rat) := Rat.intCast_lt_intCast.2 (by omega)
    grind
theorem check_made {n : Nat} {c b bits : Int} (h0 : 0 < n) (h1 : n ≤ 1024) (t0 : 0 ≤ bits) (t1 : bits ≤ 128) : checkE n (cQ c) (levQ b) bits = 0 := by
  have hl := lev_in b
  have hs : sizeE n = 0 := by unfold sizeE; rw [if_neg (by omega), if_neg (by omega)]
  unfold checkE
  rw [if_neg (by simp [hs]), if_pos ⟨cQ_pos c, hl.1, hl.2, t0, t1⟩]
theorem l19_constants (c : Int) (b : Int) : Spec Tryz.prog 24 #[.int .i64 c, .int .i64 b] [] (ι := RA × RA) (fun y => .tuple #[ratV y.1 (encQ (cQ c)), ratV y.2 (encQ (levQ b))]) (fun y => True) (fun y => [fRat y.1 (encQ (cQ c)), fRat y.2 (encQ (levQ b))]) := by
 refine Spec.of_body _ (fn := Tryz.f24) k_ rfl k_ (fun X w0 => ?_)
 have h9 := emod_b (k := c) (n := 9) (by decide)
 refine J.sreg ?_
 refine RN.new (fun b => pt b) (.cells (ratC (⟨saNil, saNil⟩ : RA) (⟨false, ([] : List Nat), ([] : List Nat)⟩ : Raw)) 27 (0, 0)) k_ k_ (fun w => by kernel_rfl) (fun b1 => ?_)
 refine RN.new (fun b => pt b) (.cells (ratC (⟨saNil, saNil⟩ : RA) (⟨false, ([] : List Nat), ([] : List Nat)⟩ : Raw)) 27 (0, 0)) k_ k_ (fun w => by kernel_rfl) (fun b2 => ?_)
 refine RN.fs k_ ?_
 refine RN.bq (no 1) [1, 4, 5, 6] [] 1 [(1, .int .i64 b), (4, pt b1), (5, pt b2), (6, .int .i64 c)] k_ ?_
 refine RN.call (made_Mod c 9 y_ y_) [] k_ k_ k_ rfl (fun y3 _ => ?_)
 refine RN.bq (no 1) [1, 4, 5, 8] [] 3 [(1, .int .i64 b), (4, pt b1), (5, pt b2), (8, .int .i64 (IntKind.i64.wrap (1 + (c % 9))))] k_ ?_
 rw [show IntKind.i64.wrap (1 + (c % 9)) = (1 + (c % 9)) from by rw [IntKind.wrap_i64]; omega]
 refine RN.call (r03_Fraction (1 + (c % 9)) 2 y_ y_ y_ y_ y_) [] k_ k_ k_ rfl (fun y4 _ => ?_)
 refine RN.bq (no 1) [4, 5, 9, 10] [] 5 [(4, pt b1), (5, pt b2), (9, ratV y4 (encQ ((((1 + (c % 9)) : Int) : Rat) / ((2 : Int) : Rat)))), (10, .int .i64 b)] k_ ?_
 refine RN.call (made_Level b) [] k_ k_ k_ rfl (fun y5 _ => ?_)
 refine RN.bs [some 1, some 0] [4, 5] [b2, b2, b2, b1, b1, b1] 8 [(4, pt b1), (5, pt b2)] ([(b2, .cells (ratC y5 (encQ (levQ b))) 27 (0, 0)), (b1, .cells (ratC y4 (encQ ((((1 + (c % 9)) : Int) : Rat) / ((2 : Int) : Rat)))) 27 (0, 0))]) k_ ?_
 refine RN.fin k_ ?_
 have e_1 : (encQ (cQ c)) = (encQ ((((1 + (c % 9)) : Int) : Rat) / ((2 : Int) : Rat))) := by rfl
 refine J.ret (KR.ret (v := .tuple #[ratV y4 (encQ ((((1 + (c % 9)) : Int) : Rat) / ((2 : Int) : Rat))), ratV y5 (encQ (levQ b))]) (⟨y4, y5⟩) [some 1, some 0] [1, 0] [b1, b1, b1, b2, b2, b2] k_ v1_ (trivial) v1_)
end Go.Proofs.YtegnonhgildhoaaGreat.E
namespace Go.Proofs.YtegnonhgildhoaaGreat.E
open Go Go.RowKit
set_option linter.unusedVariables false
set_option linter.unusedSimpArgs false
theorem abs_nn (q : Rat) : 0 ≤ absQ q := by unfold absQ; split <;> grind
theorem Q_abs {k : Nat} {q : Rat} (h : Q k q) : Q k (absQ q) := by unfold absQ; split; exact h.neg; exact h
theorem Q_num4 {v : Int} : Q 5 (numQ v) := by
  have h1 := emod_b (k := v) (n := 61) (by decide)
  have h2 := emod_b (k := Int.tdiv v 61) (n := 4) (by decide)
  exact ((Q_int (v := v % 61 - 30) (by omega)).div (Q_int (v := 1 + Int.tdiv v 61 % 4) (by omega)))
theorem vals_of {ps : List PR} {f : Nat → Rat} (h : ∀ j, j < ps.length → (ps.getD j pr0).2 = encQ (f j)) : ∀ i, i < ps.length → vals ps i = f i := fun i hi => by
  unfold vals; rw [h i hi, qv_encQ]
end Go.Proofs.YtegnonhgildhoaaGreat.E
namespace Go.Proofs.YtegnonhgildhoaaGreat.E
open Go Go.RowKit
set_option linter.unusedVariables false
set_option linter.unusedSimpArgs false
theorem meet_ok {a b c d : Rat} (h1 : a ≤ b) (h2 : c ≤ d) (h3 : a ≤ d) (h4 : c ≤ b) : meetB a b c d = true := by
  apply meetB_f
  rw [loQ_f (Rat.not_lt.2 h1), loQ_f (Rat.not_lt.2 h2), hiQ_f (Rat.not_lt.2 h1), hiQ_f (Rat.not_lt.2 h2)]
  apply Rat.not_lt.2
  unfold maxQ minQ
  split <;> split <;> assumption
/-- Two intervals of the same scale, one of them times w. -/
theorem scaled {x y : Nat → Rat} {n m : Nat} {c b lo hi lo' hi' w : Rat} {bits : Int} (hw : 0 < w) (hm : ∀ s, meanN y m c (s * w) = meanN x n c s) (hs : shareN y m = shareN x n)
    (h1 : ScaleR x n c b bits lo hi) (h2 : ScaleR y m c b bits lo' hi') (he : checkE n c b bits = 0) (he' : checkE m c b bits = 0) :
    meetB (lo * w) (hi * w) lo' hi' = true ∧ holdsB y m c b bits (lo * w) (hi * w) = true := by
  obtain ⟨n0, n1, c0, b0, b1, t0, t1⟩ := checkE_0 he
  rcases h1.cases' he with ⟨h3, rfl, rfl⟩ | ⟨h3, h⟩
  · rcases h2.cases' he' with ⟨_, rfl, rfl⟩ | ⟨h4, _⟩
    · rw [Rat.zero_mul]
      exact ⟨by decide +kernel, by unfold holdsB; rw [narrow_zero, least_zero, most_zero (by rw [hs]; exact h3)]; rfl⟩
    · rw [hs] at h4; grind
  · rcases h2.cases' he' with ⟨h4, _, _⟩ | ⟨h4, h'⟩
    · rw [hs] at h4; grind
    · have a1 : b < meanN y m c (lo * w) := by rw [hm]; exact h.above
      have a2 : meanN y m c (hi * w) ≤ b := by rw [hm]; exact h.below
      have p0 := Rat.mul_pos h.pos hw
      have p1 : lo * w < hi * w := by have := Rat.mul_lt_mul_of_pos_left h.lt hw; grind
      have p2 := rlt_trans p0 p1
      have q2 := rlt_trans h'.pos h'.lt
      refine ⟨meet_ok (Rat.le_of_lt p1) (Rat.le_of_lt h'.lt) (Rat.le_of_lt (above_lt c0 q2 a1 h'.below)) (Rat.le_of_lt (above_lt c0 p2 h'.above a2)), ?_⟩
      unfold holdsB
      have nr : hi * w - lo * w ≤ P2 (-bits) * (hi * w) := by
        have := Rat.mul_le_mul_of_nonneg_right h.narrow (Rat.le_of_lt hw)
        grind
      rw [narrow_ok t0 p0 p1 nr, least_ok h4 (Rat.le_of_lt a1), most_ok h4 p2 a2]; rfl
end Go.Proofs.YtegnonhgildhoaaGreat.E
