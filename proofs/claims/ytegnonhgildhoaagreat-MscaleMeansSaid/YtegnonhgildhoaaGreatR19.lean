import Derived.Test.YtegnonhgildhoaaGreatM19e
import Derived.Test.YtegnonhgildhoaaGreatEC
import Derived.Test.YtegnonhgildhoaaGreatP1
namespace Go.Proofs.YtegnonhgildhoaaGreat.E
open Go Go.RowKit
set_option linter.unusedVariables false
set_option linter.unusedSimpArgs false
theorem rho_at1 : rhoQ 1 = 1 := by
  unfold rhoQ
  rw [if_neg (by decide +kernel), if_neg (by decide +kernel)]
  decide +kernel
theorem rho_ge {u : Rat} (h0 : ¬ u < 0) (h : ¬ u < 1) : rhoQ u = 1 := by
  by_cases h1 : 1 < u
  · unfold rhoQ; rw [if_neg h0, if_pos h1]
  · have : u = 1 := Rat.le_antisymm (Rat.not_lt.1 h1) (Rat.not_lt.1 h)
    rw [this, rho_at1]
theorem rho_lt {u : Rat} (h0 : ¬ u < 0) (h : u < 1) : rhoQ u = 1 - (1 - u) * ((1 - u) * (1 - u)) := by
  unfold rhoQ; rw [if_neg h0, if_neg (Rat.not_lt.2 (Rat.le_of_lt h))]
theorem r19_one : Spec Tryz.prog 52 #[] [] (ι := RA) (fun y => ratV y (encQ (1 : Rat))) (fun y => True) (fun y => [fRat y (encQ (1 : Rat))]) := by
  refine Spec.of_body _ (fn := Tryz.f52) k_ rfl k_ (fun X w0 => ?_)
  refine J.sreg ?_
  refine RN.new (fun b => pt b) (.cells (ratC (⟨saNil, saNil⟩ : RA) (⟨false, ([] : List Nat), ([] : List Nat)⟩ : Raw)) 27 (0, 0)) k_ k_ (fun w => by kernel_rfl) (fun b1 => ?_)
  refine RN.fin k_ ?_
  refine J.sreg ?_
  refine RN.call (r03_FromInt 1 y_ y_) [] k_ k_ k_ rfl (fun y2 _ => ?_)
  refine RN.bat [some 0] [0] [b1, b1, b1] (k' := 2) (l' := [(0, pt b1)]) (M' := [(b1, .cells (ratC y2 (encQ ((1 : Int) : Rat))) 27 (0, 0))]) k_ ?_
  refine RN.fin k_ ?_
  have e_1 : (encQ (1 : Rat)) = (encQ ((1 : Int) : Rat)) := by rfl
  refine J.ret (KR.ret (v := ratV y2 (encQ ((1 : Int) : Rat))) (y2) [some 0] [0] [b1, b1, b1] k_ v1_ (trivial) v1_)
theorem y_r19_Rho {p : Prop} (h : p := by first | assumption | exact Lb_toL _ | omega | (simp; done) | first | exact RQ_enc Q1 | exact Q.le Q1 (by decide) | (apply Q.le; (case h => (repeat' (first | assumption | exact Q1 | apply Q.sub | apply Q.add | apply Q.mul | apply Q.neg))); (case hab => omega)) | (refine RQ_enc ?_; (apply Q.le; (case h => (repeat' (first | assumption | exact Q1 | apply Q.sub | apply Q.add | apply Q.mul | apply Q.neg))); (case hab => omega)))) : p := h
theorem r19_Rho (p : RA) (r : Raw) (hr : RQ 268435456 r) (hs : Q 16777216 (qv r)) : Spec Tryz.prog 17 #[ratV p r] [fRat p r] (ι := RA) (fun y => ratV y (encQ (rhoQ (qv r)))) (fun y => True) (fun y => [fRat y (encQ (rhoQ (qv r)))]) := by
  refine Spec.of_body _ (fn := Tryz.f17) k_ rfl k_ (fun X w0 => ?_)
  refine J.fact (φ := r.mag.length ≤ 140737488355328 ∧ r.den.length ≤ 140737488355328) (fun w h => by have h1 := (h _ (.head _)).1.1; have h2 := (h _ (.head _)).2.1; omega) (fun hl1 => ?_)
  refine J.sreg ?_
  refine RN.new (fun b => pt b) (.cells (ratC p r) 27 (0, 0)) k_ k_ (fun w => by kernel_rfl) (fun b2 => ?_)
  refine RN.new (fun b => pt b) (.cells (ratC (⟨saNil, saNil⟩ : RA) (⟨false, ([] : List Nat), ([] : List Nat)⟩ : Raw)) 27 (0, 0)) k_ k_ (fun w => by kernel_rfl) (fun b3 => ?_)
  refine RN.fin k_ ?_
  refine J.seq ?_
  refine J.sreg ?_
  refine RN.bq [some 1] [1, 2, 4] [b2, b2, b2] (k' := 1) (l' := [(1, pt b2), (2, pt b3), (4, ratV p r)]) k_ ?_
  refine RN.call (r03_Sign p r y_r19_Rho) [0] k_ k_ k_ rfl (fun y4 _ => ?_)
  refine RN.bq (no 1) [1, 2, 6] [] (k' := 3) (l' := [(1, pt b2), (2, pt b3), (6, .bool (decide ((Int.sign ((qv r).num)) < 0)))]) k_ ?_
  refine RN.fin k_ ?_
  refine J.cond (decide ((Int.sign ((qv r).num)) < 0)) k_ (fun c5 => ?_) (fun c5 => ?_)
  · skip
    replace c5 := of_decide_eq_true c5
    refine J.sreg ?_
    refine RN.bat [none, some 0] [2] [b3, b3, b3] (k' := 2) (l' := [(2, pt b3)]) (M' := [(b3, .cells (ratC (⟨saNil, saNil⟩ : RA) (⟨false, ([] : List Nat), ([] : List Nat)⟩ : Raw)) 27 (0, 0)), (b2, .cells (ratC p r) 27 (0, 0))]) k_ ?_
    refine RN.fin k_ ?_
    have e_1 : (encQ (rhoQ (qv r))) = (⟨false, ([] : List Nat), ([] : List Nat)⟩ : Raw) := by rw [rhoQ, if_pos (sign_lt.1 ‹_›), encQ_zero]
    have e_2 : (toL (((rhoQ (qv r)).num).natAbs)) = ([] : List Nat) := congrArg Raw.mag e_1
    have e_3 : (toD ((rhoQ (qv r)).den)) = ([] : List Nat) := congrArg Raw.den e_1
    refine J.also (fRat (⟨saNil, saNil⟩ : RA) (⟨false, ([] : List Nat), ([] : List Nat)⟩ : Raw)) (fun w h => ⟨fU_nil w, fU_nil w⟩) ?_
    refine J.ret (KR.next (KR.ret (v := ratV (⟨saNil, saNil⟩ : RA) (⟨false, ([] : List Nat), ([] : List Nat)⟩ : Raw)) (⟨saNil, saNil⟩) [some 0] [0] [b3, b3, b3] k_ (by first | rfl | (rw [e_1]; done) | (simp only [e_1]; done) | (rw [e_2, e_3]; done) | (rw [e_1, e_2, e_3]; rfl) | (simp only [e_1, e_2, e_3]; done) | (simp only [e_1, e_2, e_3]; rfl)) (trivial) (by first | rfl | (rw [e_1]; done) | (simp only [e_1]; done) | (rw [e_2, e_3]; done) | (rw [e_1, e_2, e_3]; rfl) | (simp only [e_1, e_2, e_3]; done) | (simp only [e_1, e_2, e_3]; rfl))))
  · skip
    replace c5 := of_decide_eq_false c5
    refine J.skip ?_
    refine KN.next ?_
    refine J.seq ?_
    refine J.seq ?_
    refine J.regD k_ [] ?_
    refine RD.bat k_ [(0, some 1)] [1, 2, 8] [b2, b2, b2] (L' := [0]) (l' := [(1, pt b2), (2, pt b3), (8, ratV p r)]) k_ ?_
    refine RD.call (i := 1) (r19_one) [] k_ k_ k_ k_ k_ rfl (fun y6 _ => ?_)
    refine RD.call (i := 2) (r03_Less_c2 p r y6 (1 : Rat) y_r19_Rho y_r19_Rho y_r19_Rho) [1, 0] k_ k_ k_ k_ k_ rfl (fun y7 _ => ?_)
    refine RD.bat k_ [(3, none)] [1, 2, 11] [] (L' := [3, 2, 1, 0]) (l' := [(1, pt b2), (2, pt b3), (11, .bool (!(decide ((qv r) < (1 : Rat)))))]) k_ ?_
    refine RD.done k_ ?_
    refine KN.next ?_
    refine J.cond (!(decide ((qv r) < (1 : Rat)))) k_ (fun c8 => ?_) (fun c8 => ?_)
    · skip
      replace c8 := of_decide_eq_false ((Bool.not_eq_true' _).mp c8)
      have hl : ¬ (qv r) < 1 := by simpa using c8
      refine J.sreg ?_
      refine RN.call (r19_one) [] k_ k_ k_ rfl (fun y9 _ => ?_)
      refine RN.bat [some 0] [2] [b3, b3, b3] (k' := 2) (l' := [(2, pt b3)]) (M' := [(b3, .cells (ratC y9 (encQ (1 : Rat))) 27 (0, 0)), (b2, .cells (ratC p r) 27 (0, 0))]) k_ ?_
      refine RN.fin k_ ?_
      have e_1 : (encQ (rhoQ (qv r))) = (encQ (1 : Rat)) := by rw [rho_ge (mt sign_lt.2 ‹_›) hl]
      refine J.ret (KR.next (KR.ret (v := ratV y9 (encQ (1 : Rat))) (y9) [some 0] [0] [b3, b3, b3] k_ v1_ (trivial) v1_))
    · skip
      replace c8 := of_decide_eq_true ((Bool.not_eq_false' _).mp c8)
      have hl : (qv r) < 1 := by simpa using c8
      refine J.skip ?_
      refine KN.next ?_
      refine J.seqC (ι := (RA) × (RA) × (Nat)) (fun x => True) (fun x => [(2, pt b3), (3, .pointer (some ⟨x.2.2, 0, none⟩))]) (fun x => [(x.2.2, .cells (ratC x.2.1 (encQ ((1 : Rat) - (qv r)))) 27 (0, 0)), (b3, .cells (ratC (⟨saNil, saNil⟩ : RA) (⟨false, ([] : List Nat), ([] : List Nat)⟩ : Raw)) 27 (0, 0)), (b2, .cells (ratC p r) 27 (0, 0))]) (fun x => [fRat x.2.1 (encQ ((1 : Rat) - (qv r))), fRat x.1 (encQ (1 : Rat)), fRat y6 (encQ (1 : Rat)), fRat p r]) ?_ ?_
      · skip
        refine J.regD k_ [4] ?_
        refine RD.bat k_ [(1, some 1)] [2, 14] [b2, b2, b2] (L' := [1]) (l' := [(2, pt b3), (14, ratV p r)]) k_ ?_
        refine RD.forkL (is := [0, 3]) k_ rfl k_ ⟨?_, ?_, trivial⟩
        · skip
          refine RDi.call (i := 0) (r19_one) [] k_ k_ k_ k_ rfl (fun y10 _ => ?_)
          refine RD.forkL (is := [2, 3]) k_ rfl k_ ⟨?_, ?_, trivial⟩
          · skip
            refine RDi.call (i := 2) (r03_Sub_c1 y10 (1 : Rat) p r y_r19_Rho y_r19_Rho) [0, 2] k_ k_ k_ k_ rfl (fun y11 _ => ?_)
            refine RD.new (i := 3) (fun b => pt b) (.cells (ratC (⟨saNil, saNil⟩ : RA) (⟨false, ([] : List Nat), ([] : List Nat)⟩ : Raw)) 27 (0, 0)) k_ k_ k_ k_ (fun w => by kernel_rfl) (fun b12 => ?_)
            refine RD.last (i := 4) (some 0) [2, 3] [b12, b12, b12] k_ k_ k_ (l' := [(2, pt b3), (3, pt b12)]) (M' := [(b12, .cells (ratC y11 (encQ ((1 : Rat) - (qv r)))) 27 (0, 0)), (b3, .cells (ratC (⟨saNil, saNil⟩ : RA) (⟨false, ([] : List Nat), ([] : List Nat)⟩ : Raw)) 27 (0, 0)), (b2, .cells (ratC p r) 27 (0, 0))]) k_ ?_
            refine RD.done k_ ?_
            refine KN.meet (y10, y11, b12) [2, 3] [0, 1, 2, 3] (l2 := [(2, pt b3), (3, pt b12)]) (by exact trivial) k_ (by rfl) (by rfl) (by rfl)
          · skip
            refine RDi.new (i := 3) (fun b => pt b) (.cells (ratC (⟨saNil, saNil⟩ : RA) (⟨false, ([] : List Nat), ([] : List Nat)⟩ : Raw)) 27 (0, 0)) k_ k_ k_ (fun w => by kernel_rfl) (fun b13 => ?_)
            refine RD.call (i := 2) (r03_Sub_c1 y10 (1 : Rat) p r y_r19_Rho y_r19_Rho) [0, 2] k_ k_ k_ k_ k_ rfl (fun y14 _ => ?_)
            refine RD.last (i := 4) (some 0) [2, 3] [b13, b13, b13] k_ k_ k_ (l' := [(2, pt b3), (3, pt b13)]) (M' := [(b13, .cells (ratC y14 (encQ ((1 : Rat) - (qv r)))) 27 (0, 0)), (b3, .cells (ratC (⟨saNil, saNil⟩ : RA) (⟨false, ([] : List Nat), ([] : List Nat)⟩ : Raw)) 27 (0, 0)), (b2, .cells (ratC p r) 27 (0, 0))]) k_ ?_
            refine RD.done k_ ?_
            refine KN.meet (y10, y14, b13) [2, 3] [0, 1, 2, 3] (l2 := [(2, pt b3), (3, pt b13)]) (by exact trivial) k_ (by rfl) (by rfl) (by rfl)
        · skip
          refine RDi.new (i := 3) (fun b => pt b) (.cells (ratC (⟨saNil, saNil⟩ : RA) (⟨false, ([] : List Nat), ([] : List Nat)⟩ : Raw)) 27 (0, 0)) k_ k_ k_ (fun w => by kernel_rfl) (fun b15 => ?_)
          refine RD.call (i := 0) (r19_one) [] k_ k_ k_ k_ k_ rfl (fun y16 _ => ?_)
          refine RD.call (i := 2) (r03_Sub_c1 y16 (1 : Rat) p r y_r19_Rho y_r19_Rho) [0, 2] k_ k_ k_ k_ k_ rfl (fun y17 _ => ?_)
          refine RD.last (i := 4) (some 0) [2, 3] [b15, b15, b15] k_ k_ k_ (l' := [(2, pt b3), (3, pt b15)]) (M' := [(b15, .cells (ratC y17 (encQ ((1 : Rat) - (qv r)))) 27 (0, 0)), (b3, .cells (ratC (⟨saNil, saNil⟩ : RA) (⟨false, ([] : List Nat), ([] : List Nat)⟩ : Raw)) 27 (0, 0)), (b2, .cells (ratC p r) 27 (0, 0))]) k_ ?_
          refine RD.done k_ ?_
          refine KN.meet (y16, y17, b15) [2, 3] [0, 1, 2, 3] (l2 := [(2, pt b3), (3, pt b15)]) (by exact trivial) k_ (by rfl) (by rfl) (by rfl)
      · skip
        intro x18 hx19
        obtain ⟨y10, y11, b12⟩ := x18
        replace hx19 : True := hx19
        refine J.seq ?_
        refine J.regD k_ [7] ?_
        refine RD.bat k_ [(1, some 0), (2, some 0), (3, some 0)] [2, 17, 18, 19] [b12, b12, b12, b12, b12, b12, b12, b12, b12] (L' := [3, 2, 1]) (l' := [(2, pt b3), (17, ratV y11 (encQ ((1 : Rat) - (qv r)))), (18, ratV y11 (encQ ((1 : Rat) - (qv r)))), (19, ratV y11 (encQ ((1 : Rat) - (qv r))))]) k_ ?_
        refine RD.call (i := 0) (r19_one) [] k_ k_ k_ k_ k_ rfl (fun y20 _ => ?_)
        refine RD.call (i := 4) (r03_Mul_c y11 ((1 : Rat) - (qv r)) y11 ((1 : Rat) - (qv r)) y_r19_Rho y_r19_Rho) [1, 1] k_ k_ k_ k_ k_ rfl (fun y21 _ => ?_)
        refine RD.call (i := 5) (r03_Mul_c y11 ((1 : Rat) - (qv r)) y21 (((1 : Rat) - (qv r)) * ((1 : Rat) - (qv r))) y_r19_Rho y_r19_Rho) [2, 0] k_ k_ k_ k_ k_ rfl (fun y22 _ => ?_)
        refine RD.call (i := 6) (r03_Sub_c y20 (1 : Rat) y22 (((1 : Rat) - (qv r)) * (((1 : Rat) - (qv r)) * ((1 : Rat) - (qv r)))) y_r19_Rho y_r19_Rho) [2, 0] k_ k_ k_ k_ k_ rfl (fun y23 _ => ?_)
        refine RD.last (i := 7) (some 1) [2] [b3, b3, b3] k_ k_ k_ (l' := [(2, pt b3)]) (M' := [(b12, .cells (ratC y11 (encQ ((1 : Rat) - (qv r)))) 27 (0, 0)), (b3, .cells (ratC y23 (encQ ((1 : Rat) - (((1 : Rat) - (qv r)) * (((1 : Rat) - (qv r)) * ((1 : Rat) - (qv r))))))) 27 (0, 0)), (b2, .cells (ratC p r) 27 (0, 0))]) k_ ?_
        refine RD.done k_ ?_
        refine KN.next ?_
        have e_1 : (encQ (rhoQ (qv r))) = (encQ ((1 : Rat) - (((1 : Rat) - (qv r)) * (((1 : Rat) - (qv r)) * ((1 : Rat) - (qv r)))))) := by rw [rho_lt (mt sign_lt.2 ‹_›) hl]
        refine J.ret (KR.ret (v := ratV y23 (encQ ((1 : Rat) - (((1 : Rat) - (qv r)) * (((1 : Rat) - (qv r)) * ((1 : Rat) - (qv r))))))) (y23) [some 1] [0] [b3, b3, b3] k_ v1_ (trivial) v1_)
theorem r19_Rho_c (p : RA) (r' : Rat) (hr : Q 268435456 r') (hs : Q 16777216 r') : Spec Tryz.prog 17 #[ratV p (encQ r')] [fRat p (encQ r')] (ι := RA) (fun y => ratV y (encQ (rhoQ r'))) (fun y => True) (fun y => [fRat y (encQ (rhoQ r'))]) := by
  have H := r19_Rho p (encQ r') (RQ_enc hr) (by first | exact hs | simpa only [qv_encQ] using hs)
  first | exact H | (simp only [qv_encQ, validQ_encQ] at H; exact H)
theorem int_ne {v : Int} (h : v ≠ 0) : (v : Rat) ≠ 0 := fun e => h (by have := congrArg Rat.num e; simpa using this)
theorem r19_lists (s : SA) (ps : List PR) : Spec Tryz.prog 43 #[sl s ps.length] [fRats s ps] (ι := Unit) (fun y => .int .i64 (sizeE ps.length)) (fun y => True) (fun y => []) := by
  refine Spec.of_body _ (fn := Tryz.f43) k_ rfl k_ (fun X w0 => ?_)
  refine J.fact (φ := ps.length ≤ 140737488355328) (fun w h => by have := (h _ (.head _)).1; omega) (fun hl1 => ?_)
  refine J.sreg ?_
  refine RN.bq (no 1) [0] [] (k' := 1) (l' := [(0, sl s ps.length)]) k_ ?_
  refine RN.fin k_ ?_
  refine J.seq ?_
  refine J.sreg ?_
  refine RN.bq (no 3) [0, 5] [] (k' := 3) (l' := [(0, sl s ps.length), (5, .bool ((((ps.length : Nat) : Int) : Int) == 0))]) k_ ?_
  refine RN.fin k_ ?_
  refine J.cond ((((ps.length : Nat) : Int) : Int) == 0) k_ (fun c2 => ?_) (fun c2 => ?_)
  · skip
    replace c2 := eq_of_beq c2
    refine J.sreg ?_
    refine RN.bq (no 1) [2] [] (k' := 1) (l' := [(2, .int .i64 10)]) k_ ?_
    refine RN.fin k_ ?_
    have e_1 : (sizeE ps.length : Int) = (10 : Int) := by unfold sizeE; first | (rw [if_pos (by omega)]; done) | (rw [if_neg (by omega), if_pos (by omega)]; done) | (rw [if_neg (by omega), if_neg (by omega)])
    refine J.ret (KR.next (KR.ret (v := .int .i64 10) (()) [none] [] [] k_ v1_ (trivial) v1_))
  · skip
    replace c2 := ne_of_beq_false c2
    refine J.skip ?_
    refine KN.next ?_
    refine J.seq ?_
    refine J.sreg ?_
    refine RN.bq (no 3) [8] [] (k' := 3) (l' := [(8, .bool (decide (((ps.length : Nat) : Int) > 1024)))]) k_ ?_
    refine RN.fin k_ ?_
    refine J.cond (decide (((ps.length : Nat) : Int) > 1024)) k_ (fun c3 => ?_) (fun c3 => ?_)
    · skip
      replace c3 := of_decide_eq_true c3
      refine J.sreg ?_
      refine RN.bq (no 1) [2] [] (k' := 1) (l' := [(2, .int .i64 2)]) k_ ?_
      refine RN.fin k_ ?_
      have e_1 : (sizeE ps.length : Int) = (2 : Int) := by unfold sizeE; first | (rw [if_pos (by omega)]; done) | (rw [if_neg (by omega), if_pos (by omega)]; done) | (rw [if_neg (by omega), if_neg (by omega)])
      refine J.ret (KR.next (KR.ret (v := .int .i64 2) (()) [none] [] [] k_ v1_ (trivial) v1_))
    · skip
      replace c3 := of_decide_eq_false c3
      refine J.skip ?_
      refine KN.next ?_
      refine J.sreg ?_
      refine RN.bq (no 1) [2] [] (k' := 1) (l' := [(2, .int .i64 0)]) k_ ?_
      refine RN.fin k_ ?_
      have e_1 : (sizeE ps.length : Int) = (0 : Int) := by unfold sizeE; first | (rw [if_pos (by omega)]; done) | (rw [if_neg (by omega), if_pos (by omega)]; done) | (rw [if_neg (by omega), if_neg (by omega)])
      refine J.ret (KR.ret (v := .int .i64 0) (()) [none] [] [] k_ v1_ (trivial) v1_)
theorem sign_le {q : Rat} (h : Int.sign q.num ≤ 0) : ¬ 0 < q := fun h' => by have := sign_gt.2 h'; omega
theorem sign_nle {q : Rat} (h : ¬ Int.sign q.num ≤ 0) : 0 < q := sign_gt.1 (by omega)
theorem mul_ne_of_pos {a b : Rat} (ha : 0 < a) (hb : 0 < b) : a * b ≠ 0 := fun h => by
  have := Rat.mul_pos ha hb
  rw [h] at this
  exact absurd this (Rat.lt_irrefl)
theorem y_r19_mean {p : Prop} (h : p := by first | assumption | exact Lb_toL _ | omega | (simp; done) | first | exact Q.le hc (by decide) | exact Q.le hs (by decide) | exact Q.le hx1 (by decide) | exact Q.le hx2 (by decide) | exact Q.le hx3 (by decide) | exact Q.le hx4 (by decide) | exact Q.le (Q_int (by omega)) (by decide) | exact Q.le (hc.mul hs) (by decide) | exact int_ne (by omega)) : p := h
theorem r19_mean (s : SA) (ps : List PR) (p : RA) (c : Raw) (u : RA) (t : Raw) (hps : ∀ i, i < ps.length → RQ 64 (ps.getD i pr0).2) (hcR : RQ 268435456 c) (htR : RQ 268435456 t) (hc : Q 64 (qv c)) (hs : Q 65536 (qv t)) (hn : ps.length ≤ 1024) (hn0 : 0 < ps.length) (hcs : (qv c) * (qv t) ≠ 0) : Spec Tryz.prog 44 #[sl s ps.length, ratV p c, ratV u t] [fRats s ps, fRat p c, fRat u t] (ι := RA) (fun y => ratV y (encQ (sumTo (meanT (qv c) (qv t)) ps ps.length / ((((ps.length : Nat) : Int)) : Rat)))) (fun y => True) (fun y => [fRat y (encQ (sumTo (meanT (qv c) (qv t)) ps ps.length / ((((ps.length : Nat) : Int)) : Rat)))]) := by
  refine Spec.of_body _ (fn := Tryz.f44) k_ rfl k_ (fun X w0 => ?_)
  refine J.fact (φ := ps.length ≤ 140737488355328) (fun w h => by have := (h _ (.head _)).1; omega) (fun hl1 => ?_)
  refine J.fact (φ := c.mag.length ≤ 140737488355328 ∧ c.den.length ≤ 140737488355328) (fun w h => by have h1 := (h _ (.tail _ ((.head _)))).1.1; have h2 := (h _ (.tail _ ((.head _)))).2.1; omega) (fun hl2 => ?_)
  refine J.fact (φ := t.mag.length ≤ 140737488355328 ∧ t.den.length ≤ 140737488355328) (fun w h => by have h1 := (h _ (.tail _ ((.tail _ ((.head _)))))).1.1; have h2 := (h _ (.tail _ ((.tail _ ((.head _)))))).2.1; omega) (fun hl3 => ?_)
  refine J.sreg ?_
  refine RN.new (fun b => pt b) (.cells (ratC p c) 27 (0, 0)) k_ k_ (fun w => by kernel_rfl) (fun b4 => ?_)
  refine RN.new (fun b => pt b) (.cells (ratC u t) 27 (0, 0)) k_ k_ (fun w => by kernel_rfl) (fun b5 => ?_)
  refine RN.new (fun b => pt b) (.cells (ratC (⟨saNil, saNil⟩ : RA) (⟨false, ([] : List Nat), ([] : List Nat)⟩ : Raw)) 27 (0, 0)) k_ k_ (fun w => by kernel_rfl) (fun b6 => ?_)
  refine RN.fin k_ ?_
  refine J.sreg ?_
  refine RN.bq (no 1) [0, 4, 5, 6, 9] [] (k' := 1) (l' := [(0, sl s ps.length), (4, pt b4), (5, pt b5), (6, pt b6), (9, ratV (⟨saNil, saNil⟩ : RA) (⟨false, ([] : List Nat), ([] : List Nat)⟩ : Raw))]) k_ ?_
  refine RN.new (fun b => pt b) (.cells (ratC (⟨saNil, saNil⟩ : RA) (⟨false, ([] : List Nat), ([] : List Nat)⟩ : Raw)) 27 (0, 0)) k_ k_ (fun w => by kernel_rfl) (fun b7 => ?_)
  refine RN.bat [some 0] [0, 4, 5, 6, 7] [b7, b7, b7] (k' := 3) (l' := [(0, sl s ps.length), (4, pt b4), (5, pt b5), (6, pt b6), (7, pt b7)]) (M' := [(b7, .cells (ratC (⟨saNil, saNil⟩ : RA) (⟨false, ([] : List Nat), ([] : List Nat)⟩ : Raw)) 27 (0, 0)), (b6, .cells (ratC (⟨saNil, saNil⟩ : RA) (⟨false, ([] : List Nat), ([] : List Nat)⟩ : Raw)) 27 (0, 0)), (b5, .cells (ratC u t) 27 (0, 0)), (b4, .cells (ratC p c) 27 (0, 0))]) k_ ?_
  refine RN.fin k_ ?_
  refine J.seq ?_
  refine J.sreg ?_
  refine RN.bq (no 1) [0, 4, 5, 6, 7, 8] [] (k' := 1) (l' := [(0, sl s ps.length), (4, pt b4), (5, pt b5), (6, pt b6), (7, pt b7), (8, .int .i64 0)]) k_ ?_
  refine RN.fin k_ ?_
  refine J.block ?_
  refine J.also (fRat (⟨saNil, saNil⟩ : RA) (encQ 0)) (fun w h => fRat_zero w) ?_
  refine J.loop (ι := (Nat) × (RA) × (Rat)) (fun x => x.1 ≤ ps.length ∧ x.2.2 = sumTo (meanT (qv c) (qv t)) ps x.1 ∧ Q (197198 * x.1 + 1) x.2.2) (fun x => ps.length - x.1) (fun x => [(0, sl s ps.length), (4, pt b4), (5, pt b5), (6, pt b6), (7, pt b7), (8, .int .i64 ((x.1 : Nat) : Int))]) (fun x => [(b7, .cells (ratC x.2.1 (encQ x.2.2)) 27 (0, 0)), (b6, .cells (ratC (⟨saNil, saNil⟩ : RA) (⟨false, ([] : List Nat), ([] : List Nat)⟩ : Raw)) 27 (0, 0)), (b5, .cells (ratC u t) 27 (0, 0)), (b4, .cells (ratC p c) 27 (0, 0))]) (fun x => [fRat x.2.1 (encQ x.2.2), fRats s ps, fRat p c, fRat u t]) (0, (⟨saNil, saNil⟩ : RA), 0) [0, 4, 5, 6, 7, 8] [0, 1, 2, 3] (⟨Nat.zero_le _, rfl, Q0⟩) k_ (by first | rfl | (simp only [encQ_zero]; done) | (simp only [encQ_zero]; rfl)) (by rfl) (fun x8 hI => ?_)
  obtain ⟨i, so, S⟩ := x8
  replace hI : i ≤ ps.length ∧ S = sumTo (meanT (qv c) (qv t)) ps i ∧ Q (197198 * i + 1) S := hI
  obtain ⟨hI1, hI2, hI3⟩ := hI
  have hSL := hI3.le (by omega : 197198 * i + 1 ≤ 268435456)
  refine J.seq ?_
  refine J.sreg ?_
  refine RN.bq (no 4) [0, 4, 5, 6, 7, 8, 13] [] (k' := 4) (l' := [(0, sl s ps.length), (4, pt b4), (5, pt b5), (6, pt b6), (7, pt b7), (8, .int .i64 ((i : Nat) : Int)), (13, .bool (decide (((i : Nat) : Int) < ((ps.length : Nat) : Int))))]) k_ ?_
  refine RN.fin k_ ?_
  refine J.cond (decide (((i : Nat) : Int) < ((ps.length : Nat) : Int))) k_ (fun c9 => ?_) (fun c9 => ?_)
  · skip
    replace c9 := of_decide_eq_true c9
    have hxr := hps i (by omega)
    have hxq := hxr.2.2.2.2
    have hxb := hxr.le (by decide : 64 ≤ 268435456)
    obtain ⟨hx1, hx2, hx3, hx4⟩ := Q_term hc hs hxq
    refine J.skip ?_
    refine KN.next ?_
    refine J.seq ?_
    refine J.block ?_
    refine J.regD k_ [16] ?_
    refine RD.bat k_ [(0, some 0), (1, none), (2, none), (5, none), (6, none), (10, some 3), (11, some 2)] [0, 4, 5, 6, 7, 8, 16, 17, 18, 21, 22, 26, 27] [b5, b5, b5, b4, b4, b4, b7, b7, b7] (L' := [11, 10, 6, 5, 2, 1, 0]) (l' := [(0, sl s ps.length), (4, pt b4), (5, pt b5), (6, pt b6), (7, pt b7), (8, .int .i64 ((i : Nat) : Int)), (16, ratV so (encQ S)), (17, sl s ps.length), (18, .int .i64 ((i : Nat) : Int)), (21, sl s ps.length), (22, .int .i64 ((i : Nat) : Int)), (26, ratV p c), (27, ratV u t)]) k_ ?_
    refine RD.val (i := 3) _ k_ k_ k_ (q_ridx (t := 22) (x := (.tmp 17)) (ix := (.tmp 18)) (K := .i64) (i0 := ((i : Nat) : Int)) (m := i) (e := 27) 1 rfl k_ k_ k_ k_ k_ (by omega) x_) ?_
    refine RD.val (i := 4) _ k_ k_ k_ (q_rload (T := 27) (x := (.tmp 19)) (m := i) (s := s) (ps := ps) 1 rfl k_ k_ k_ k_ x_) ?_
    refine RD.also (fRat ((ps.getD i pr0).1) ((ps.getD i pr0).2)) (fun w h => rat_of (h _ (.tail _ ((.head _)))) x_) k_ ?_
    refine RD.val (i := 7) _ k_ k_ k_ (q_ridx (t := 22) (x := (.tmp 21)) (ix := (.tmp 22)) (K := .i64) (i0 := ((i : Nat) : Int)) (m := i) (e := 27) 2 rfl k_ k_ k_ k_ k_ (by omega) x_) ?_
    refine RD.val (i := 8) _ k_ k_ k_ (q_rload (T := 27) (x := (.tmp 23)) (m := i) (s := s) (ps := ps) 2 rfl k_ k_ k_ k_ x_) ?_
    refine RD.also (fRat ((ps.getD i pr0).1) ((ps.getD i pr0).2)) (fun w h => rat_of (h _ (.tail _ ((.tail _ ((.head _)))))) x_) k_ ?_
    refine RD.call (i := 9) (r03_Mul ((ps.getD i pr0).1) ((ps.getD i pr0).2) ((ps.getD i pr0).1) ((ps.getD i pr0).2) y_r19_mean y_r19_mean) [0, 0] k_ k_ k_ k_ k_ rfl (fun y10 _ => ?_)
    refine RD.call (i := 12) (r03_Mul p c u t y_r19_mean y_r19_mean) [5, 6] k_ k_ k_ k_ k_ rfl (fun y11 _ => ?_)
    refine RD.call (i := 13) (r03_Quo_c y10 ((qv ((ps.getD i pr0).2)) * (qv ((ps.getD i pr0).2))) y11 ((qv c) * (qv t)) y_r19_mean y_r19_mean y_r19_mean) [1, 0] k_ k_ k_ k_ k_ rfl (fun y12 _ => ?_)
    refine RD.call (i := 14) (r19_Rho_c y12 (((qv ((ps.getD i pr0).2)) * (qv ((ps.getD i pr0).2))) / ((qv c) * (qv t))) y_r19_mean y_r19_mean) [0] k_ k_ k_ k_ k_ rfl (fun y13 _ => ?_)
    refine RD.call (i := 15) (r03_Add_c so S y13 (rhoQ (((qv ((ps.getD i pr0).2)) * (qv ((ps.getD i pr0).2))) / ((qv c) * (qv t)))) y_r19_mean y_r19_mean) [6, 0] k_ k_ k_ k_ k_ rfl (fun y14 _ => ?_)
    refine RD.last (i := 16) (some 0) [0, 4, 5, 6, 7, 8] [b7, b7, b7] k_ k_ k_ (l' := [(0, sl s ps.length), (4, pt b4), (5, pt b5), (6, pt b6), (7, pt b7), (8, .int .i64 ((i : Nat) : Int))]) (M' := [(b7, .cells (ratC y14 (encQ (S + (rhoQ (((qv ((ps.getD i pr0).2)) * (qv ((ps.getD i pr0).2))) / ((qv c) * (qv t))))))) 27 (0, 0)), (b6, .cells (ratC (⟨saNil, saNil⟩ : RA) (⟨false, ([] : List Nat), ([] : List Nat)⟩ : Raw)) 27 (0, 0)), (b5, .cells (ratC u t) 27 (0, 0)), (b4, .cells (ratC p c) 27 (0, 0))]) k_ ?_
    refine RD.done k_ ?_
    refine KN.blk ?_
    refine KN.next ?_
    refine J.regN ?_
    refine RN.bq (no 2) [0, 4, 5, 6, 7, 15] [] (k' := 2) (l' := [(0, sl s ps.length), (4, pt b4), (5, pt b5), (6, pt b6), (7, pt b7), (15, .int .i64 (IntKind.i64.wrap (((i : Nat) : Int) + 1)))]) k_ ?_
    rw [show IntKind.i64.wrap (((i : Nat) : Int) + 1) = ((i + 1 : Nat) : Int) from by rw [IntKind.wrap_i64]; omega]
    refine RN.bq (no 1) [0, 4, 5, 6, 7, 8] [] (k' := 3) (l' := [(0, sl s ps.length), (4, pt b4), (5, pt b5), (6, pt b6), (7, pt b7), (8, .int .i64 ((i + 1 : Nat) : Int))]) k_ ?_
    refine RN.done k_ ?_
    refine KN.roundE (i + 1, y14, S + (rhoQ (((qv ((ps.getD i pr0).2)) * (qv ((ps.getD i pr0).2))) / ((qv c) * (qv t))))) [0, 4, 5, 6, 7, 8] [0, 8, 9, 10] (l2 := [(0, sl s ps.length), (4, pt b4), (5, pt b5), (6, pt b6), (7, pt b7), (8, .int .i64 ((i + 1 : Nat) : Int))]) (by (try dsimp only); omega) (by (try dsimp only); exact ⟨by omega, by rw [hI2]; rfl, (hI3.add hx4).le (by omega)⟩) k_ (by rfl) (by rfl) (by rfl)
  · skip
    replace c9 := of_decide_eq_false c9
    have hi : i = ps.length := by omega
    subst hi
    refine J.exit (KX.next (KX.next (KX.hit ?_)))
    refine KN.next ?_
    refine J.seq ?_
    refine J.regD k_ [5] ?_
    refine RD.bat k_ [(0, some 0), (1, none), (2, none)] [6, 32, 34] [b7, b7, b7] (L' := [2, 1, 0]) (l' := [(6, pt b6), (32, ratV so (encQ S)), (34, .int .i64 ((ps.length : Nat) : Int))]) k_ ?_
    refine RD.call (i := 3) (r03_FromInt ((ps.length : Nat) : Int) y_r19_mean y_r19_mean) [] k_ k_ k_ k_ k_ rfl (fun y15 _ => ?_)
    refine RD.call (i := 4) (r03_Quo_c so S y15 ((((ps.length : Nat) : Int) : Int) : Rat) y_r19_mean y_r19_mean y_r19_mean) [1, 0] k_ k_ k_ k_ k_ rfl (fun y16 _ => ?_)
    refine RD.last (i := 5) (some 1) [6] [b6, b6, b6] k_ k_ k_ (l' := [(6, pt b6)]) (M' := [(b7, .cells (ratC so (encQ S)) 27 (0, 0)), (b6, .cells (ratC y16 (encQ (S / ((((ps.length : Nat) : Int) : Int) : Rat)))) 27 (0, 0)), (b5, .cells (ratC u t) 27 (0, 0)), (b4, .cells (ratC p c) 27 (0, 0))]) k_ ?_
    refine RD.done k_ ?_
    refine KN.next ?_
    have e_1 : (encQ (sumTo (meanT (qv c) (qv t)) ps ps.length / ((((ps.length : Nat) : Int)) : Rat))) = (encQ (S / ((((ps.length : Nat) : Int) : Int) : Rat))) := by rw [← hI2]
    refine J.ret (KR.ret (v := ratV y16 (encQ (S / ((((ps.length : Nat) : Int) : Int) : Rat)))) (y16) [some 1] [0] [b6, b6, b6] k_ v1_ (trivial) v1_)
theorem r19_Mean (s : SA) (ps : List PR) (p : RA) (c : Raw) (u : RA) (t : Raw) (hcR : RQ 268435456 c) (htR : RQ 268435456 t) (hps : ∀ i, i < ps.length → RQ 64 (ps.getD i pr0).2) (hc : Q 64 (qv c)) (hs : Q 65536 (qv t)) : Spec Tryz.prog 14 #[sl s ps.length, ratV p c, ratV u t] [fRats s ps, fRat p c, fRat u t] (ι := RA) (fun y => .tuple #[ratV y (encQ (meanV ps (qv c) (qv t))), .int .i64 (meanE ps.length (qv c) (qv t))]) (fun y => True) (fun y => [fRat y (encQ (meanV ps (qv c) (qv t)))]) := by
  refine Spec.of_body _ (fn := Tryz.f14) k_ rfl k_ (fun X w0 => ?_)
  refine J.fact (φ := ps.length ≤ 140737488355328) (fun w h => by have := (h _ (.head _)).1; omega) (fun hl1 => ?_)
  refine J.fact (φ := c.mag.length ≤ 140737488355328 ∧ c.den.length ≤ 140737488355328) (fun w h => by have h1 := (h _ (.tail _ ((.head _)))).1.1; have h2 := (h _ (.tail _ ((.head _)))).2.1; omega) (fun hl2 => ?_)
  refine J.fact (φ := t.mag.length ≤ 140737488355328 ∧ t.den.length ≤ 140737488355328) (fun w h => by have h1 := (h _ (.tail _ ((.tail _ ((.head _)))))).1.1; have h2 := (h _ (.tail _ ((.tail _ ((.head _)))))).2.1; omega) (fun hl3 => ?_)
  refine J.sreg ?_
  refine RN.new (fun b => pt b) (.cells (ratC p c) 27 (0, 0)) k_ k_ (fun w => by kernel_rfl) (fun b4 => ?_)
  refine RN.new (fun b => pt b) (.cells (ratC u t) 27 (0, 0)) k_ k_ (fun w => by kernel_rfl) (fun b5 => ?_)
  refine RN.new (fun b => pt b) (.cells (ratC (⟨saNil, saNil⟩ : RA) (⟨false, ([] : List Nat), ([] : List Nat)⟩ : Raw)) 27 (0, 0)) k_ k_ (fun w => by kernel_rfl) (fun b6 => ?_)
  refine RN.bq (no 1) [0, 4, 5, 6] [] (k' := 4) (l' := [(0, sl s ps.length), (4, pt b4), (5, pt b5), (6, pt b6)]) k_ ?_
  refine RN.fin k_ ?_
  refine J.seq ?_
  refine J.sreg ?_
  refine RN.bq (no 1) [0, 4, 5, 6, 9] [] (k' := 1) (l' := [(0, sl s ps.length), (4, pt b4), (5, pt b5), (6, pt b6), (9, sl s ps.length)]) k_ ?_
  refine RN.call (r19_lists s ps) [0] k_ k_ k_ rfl (fun y7 _ => ?_)
  refine RN.bq (no 1) [0, 4, 5, 6, 8] [] (k' := 3) (l' := [(0, sl s ps.length), (4, pt b4), (5, pt b5), (6, pt b6), (8, .int .i64 (sizeE ps.length))]) k_ ?_
  refine RN.fin k_ ?_
  refine J.sreg ?_
  refine RN.bq (no 2) [0, 4, 5, 6, 8, 12] [] (k' := 2) (l' := [(0, sl s ps.length), (4, pt b4), (5, pt b5), (6, pt b6), (8, .int .i64 (sizeE ps.length)), (12, .bool (((sizeE ps.length) : Int) != 0))]) k_ ?_
  refine RN.fin k_ ?_
  refine J.cond (((sizeE ps.length) : Int) != 0) k_ (fun c8 => ?_) (fun c8 => ?_)
  · skip
    replace c8 := bne_iff_ne.1 c8
    have h0 : sizeE ps.length ≠ 0 := by simpa using c8
    refine J.sreg ?_
    refine RN.bat [none, none, some 0, none] [6, 7] [b6, b6, b6] (k' := 4) (l' := [(6, pt b6), (7, .int .i64 (sizeE ps.length))]) (M' := [(b6, .cells (ratC (⟨saNil, saNil⟩ : RA) (⟨false, ([] : List Nat), ([] : List Nat)⟩ : Raw)) 27 (0, 0)), (b5, .cells (ratC u t) 27 (0, 0)), (b4, .cells (ratC p c) 27 (0, 0))]) k_ ?_
    refine RN.fin k_ ?_
    have e_1 : (encQ (meanV ps (qv c) (qv t))) = (⟨false, ([] : List Nat), ([] : List Nat)⟩ : Raw) := by first | exact meanV_bad (by rw [meanE_size h0]; exact h0) | exact meanE_size h0 | exact meanV_bad (by rw [hE]; decide) | exact hE | (rw [meanV_ok hE])
    have e_2 : (toL (((meanV ps (qv c) (qv t)).num).natAbs)) = ([] : List Nat) := congrArg Raw.mag e_1
    have e_3 : (toD ((meanV ps (qv c) (qv t)).den)) = ([] : List Nat) := congrArg Raw.den e_1
    have e_4 : (meanE ps.length (qv c) (qv t) : Int) = (sizeE ps.length : Int) := by first | exact meanV_bad (by rw [meanE_size h0]; exact h0) | exact meanE_size h0 | exact meanV_bad (by rw [hE]; decide) | exact hE | (rw [meanV_ok hE])
    refine J.also (fRat (⟨saNil, saNil⟩ : RA) (⟨false, ([] : List Nat), ([] : List Nat)⟩ : Raw)) (fun w h => ⟨fU_nil w, fU_nil w⟩) ?_
    refine J.ret (KR.next (KR.ret (v := .tuple #[ratV (⟨saNil, saNil⟩ : RA) (⟨false, ([] : List Nat), ([] : List Nat)⟩ : Raw), .int .i64 (sizeE ps.length)]) (⟨saNil, saNil⟩) [some 0, none] [0] [b6, b6, b6] k_ (by first | rfl | (rw [e_1, e_4]; done) | (simp only [e_1, e_4]; done) | (rw [e_2, e_3]; done) | (rw [e_1, e_2, e_3, e_4]; rfl) | (simp only [e_1, e_2, e_3, e_4]; done) | (simp only [e_1, e_2, e_3, e_4]; rfl)) (trivial) (by first | rfl | (rw [e_1, e_4]; done) | (simp only [e_1, e_4]; done) | (rw [e_2, e_3]; done) | (rw [e_1, e_2, e_3, e_4]; rfl) | (simp only [e_1, e_2, e_3, e_4]; done) | (simp only [e_1, e_2, e_3, e_4]; rfl))))
  · skip
    replace c8 := bne_eq_false_iff_eq.1 c8
    have h0 : sizeE ps.length = 0 := by simpa using c8
    have hn := (sizeE_0 h0).2
    have hn0 := (sizeE_0 h0).1
    refine J.skip ?_
    refine KN.next ?_
    refine J.seq ?_
    refine J.sreg ?_
    refine RN.bq [some 2] [0, 4, 5, 6, 15] [b4, b4, b4] (k' := 1) (l' := [(0, sl s ps.length), (4, pt b4), (5, pt b5), (6, pt b6), (15, ratV p c)]) k_ ?_
    refine RN.call (r03_Sign p c y_) [1] k_ k_ k_ rfl (fun y9 _ => ?_)
    refine RN.bq (no 2) [0, 4, 5, 6, 18] [] (k' := 4) (l' := [(0, sl s ps.length), (4, pt b4), (5, pt b5), (6, pt b6), (18, .bool (decide ((Int.sign ((qv c).num)) ≤ 0)))]) k_ ?_
    refine RN.split 18 (decide ((Int.sign ((qv c).num)) ≤ 0)) k_ (fun c10 => ?_) (fun c10 => ?_)
    · skip
      replace c10 := of_decide_eq_true c10
      have h1 : ¬ 0 < (qv c) := sign_le c10
      have hE := meanE_bad (s := qv t) h0 (fun h => h1 h.1)
      refine RN.bq (no 4) [0, 4, 5, 6, 22] [] (k' := 8) (l' := [(0, sl s ps.length), (4, pt b4), (5, pt b5), (6, pt b6), (22, .bool true)]) k_ ?_
      refine RN.fin k_ ?_
      refine J.condT k_ ?_
      refine J.sreg ?_
      refine RN.bat [none, some 0, none] [6, 7] [b6, b6, b6] (k' := 3) (l' := [(6, pt b6), (7, .int .i64 1)]) (M' := [(b6, .cells (ratC (⟨saNil, saNil⟩ : RA) (⟨false, ([] : List Nat), ([] : List Nat)⟩ : Raw)) 27 (0, 0)), (b5, .cells (ratC u t) 27 (0, 0)), (b4, .cells (ratC p c) 27 (0, 0))]) k_ ?_
      refine RN.fin k_ ?_
      have e_1 : (encQ (meanV ps (qv c) (qv t))) = (⟨false, ([] : List Nat), ([] : List Nat)⟩ : Raw) := by first | exact meanV_bad (by rw [meanE_size h0]; exact h0) | exact meanE_size h0 | exact meanV_bad (by rw [hE]; decide) | exact hE | (rw [meanV_ok hE])
      have e_2 : (toL (((meanV ps (qv c) (qv t)).num).natAbs)) = ([] : List Nat) := congrArg Raw.mag e_1
      have e_3 : (toD ((meanV ps (qv c) (qv t)).den)) = ([] : List Nat) := congrArg Raw.den e_1
      have e_4 : (meanE ps.length (qv c) (qv t) : Int) = (1 : Int) := by first | exact meanV_bad (by rw [meanE_size h0]; exact h0) | exact meanE_size h0 | exact meanV_bad (by rw [hE]; decide) | exact hE | (rw [meanV_ok hE])
      refine J.also (fRat (⟨saNil, saNil⟩ : RA) (⟨false, ([] : List Nat), ([] : List Nat)⟩ : Raw)) (fun w h => ⟨fU_nil w, fU_nil w⟩) ?_
      refine J.ret (KR.next (KR.ret (v := .tuple #[ratV (⟨saNil, saNil⟩ : RA) (⟨false, ([] : List Nat), ([] : List Nat)⟩ : Raw), .int .i64 1]) (⟨saNil, saNil⟩) [some 0, none] [0] [b6, b6, b6] k_ (by first | rfl | (rw [e_1, e_4]; done) | (simp only [e_1, e_4]; done) | (rw [e_2, e_3]; done) | (rw [e_1, e_2, e_3, e_4]; rfl) | (simp only [e_1, e_2, e_3, e_4]; done) | (simp only [e_1, e_2, e_3, e_4]; rfl)) (trivial) (by first | rfl | (rw [e_1, e_4]; done) | (simp only [e_1, e_4]; done) | (rw [e_2, e_3]; done) | (rw [e_1, e_2, e_3, e_4]; rfl) | (simp only [e_1, e_2, e_3, e_4]; done) | (simp only [e_1, e_2, e_3, e_4]; rfl))))
    · skip
      replace c10 := of_decide_eq_false c10
      have h1 : 0 < (qv c) := sign_nle c10
      refine RN.bq [some 1] [0, 4, 5, 6, 18, 19] [b5, b5, b5] (k' := 5) (l' := [(0, sl s ps.length), (4, pt b4), (5, pt b5), (6, pt b6), (18, .bool false), (19, ratV u t)]) k_ ?_
      refine RN.call (r03_Sign u t y_) [2] k_ k_ k_ rfl (fun y11 _ => ?_)
      refine RN.bq (no 2) [0, 4, 5, 6, 22] [] (k' := 8) (l' := [(0, sl s ps.length), (4, pt b4), (5, pt b5), (6, pt b6), (22, .bool (decide ((Int.sign ((qv t).num)) ≤ 0)))]) k_ ?_
      refine RN.fin k_ ?_
      refine J.cond (decide ((Int.sign ((qv t).num)) ≤ 0)) k_ (fun c12 => ?_) (fun c12 => ?_)
      · skip
        replace c12 := of_decide_eq_true c12
        have h2 : ¬ 0 < (qv t) := sign_le c12
        have hE := meanE_bad (c := qv c) h0 (fun h => h2 h.2)
        refine J.sreg ?_
        refine RN.bat [none, some 0, none] [6, 7] [b6, b6, b6] (k' := 3) (l' := [(6, pt b6), (7, .int .i64 1)]) (M' := [(b6, .cells (ratC (⟨saNil, saNil⟩ : RA) (⟨false, ([] : List Nat), ([] : List Nat)⟩ : Raw)) 27 (0, 0)), (b5, .cells (ratC u t) 27 (0, 0)), (b4, .cells (ratC p c) 27 (0, 0))]) k_ ?_
        refine RN.fin k_ ?_
        have e_1 : (encQ (meanV ps (qv c) (qv t))) = (⟨false, ([] : List Nat), ([] : List Nat)⟩ : Raw) := by first | exact meanV_bad (by rw [meanE_size h0]; exact h0) | exact meanE_size h0 | exact meanV_bad (by rw [hE]; decide) | exact hE | (rw [meanV_ok hE])
        have e_2 : (toL (((meanV ps (qv c) (qv t)).num).natAbs)) = ([] : List Nat) := congrArg Raw.mag e_1
        have e_3 : (toD ((meanV ps (qv c) (qv t)).den)) = ([] : List Nat) := congrArg Raw.den e_1
        have e_4 : (meanE ps.length (qv c) (qv t) : Int) = (1 : Int) := by first | exact meanV_bad (by rw [meanE_size h0]; exact h0) | exact meanE_size h0 | exact meanV_bad (by rw [hE]; decide) | exact hE | (rw [meanV_ok hE])
        refine J.also (fRat (⟨saNil, saNil⟩ : RA) (⟨false, ([] : List Nat), ([] : List Nat)⟩ : Raw)) (fun w h => ⟨fU_nil w, fU_nil w⟩) ?_
        refine J.ret (KR.next (KR.ret (v := .tuple #[ratV (⟨saNil, saNil⟩ : RA) (⟨false, ([] : List Nat), ([] : List Nat)⟩ : Raw), .int .i64 1]) (⟨saNil, saNil⟩) [some 0, none] [0] [b6, b6, b6] k_ (by first | rfl | (rw [e_1, e_4]; done) | (simp only [e_1, e_4]; done) | (rw [e_2, e_3]; done) | (rw [e_1, e_2, e_3, e_4]; rfl) | (simp only [e_1, e_2, e_3, e_4]; done) | (simp only [e_1, e_2, e_3, e_4]; rfl)) (trivial) (by first | rfl | (rw [e_1, e_4]; done) | (simp only [e_1, e_4]; done) | (rw [e_2, e_3]; done) | (rw [e_1, e_2, e_3, e_4]; rfl) | (simp only [e_1, e_2, e_3, e_4]; done) | (simp only [e_1, e_2, e_3, e_4]; rfl))))
      · skip
        replace c12 := of_decide_eq_false c12
        have h2 : 0 < (qv t) := sign_nle c12
        have hE := meanE_ok h0 h1 h2
        have hcs := mul_ne_of_pos h1 h2
        refine J.skip ?_
        refine KN.next ?_
        refine J.sreg ?_
        refine RN.bq [none, some 2, some 1] [6, 24, 25, 26] [b5, b5, b5, b4, b4, b4] (k' := 3) (l' := [(6, pt b6), (24, sl s ps.length), (25, ratV p c), (26, ratV u t)]) k_ ?_
        refine RN.call (r19_mean s ps p c u t y_ y_ y_ y_ y_ y_ y_ y_) [0, 1, 2] k_ k_ k_ rfl (fun y13 _ => ?_)
        refine RN.bat [some 0, none] [6, 7] [b6, b6, b6] (k' := 6) (l' := [(6, pt b6), (7, .int .i64 0)]) (M' := [(b6, .cells (ratC y13 (encQ (sumTo (meanT (qv c) (qv t)) ps ps.length / ((((ps.length : Nat) : Int)) : Rat)))) 27 (0, 0)), (b5, .cells (ratC u t) 27 (0, 0)), (b4, .cells (ratC p c) 27 (0, 0))]) k_ ?_
        refine RN.fin k_ ?_
        have e_1 : (encQ (meanV ps (qv c) (qv t))) = (encQ (sumTo (meanT (qv c) (qv t)) ps ps.length / ((((ps.length : Nat) : Int)) : Rat))) := by first | exact meanV_bad (by rw [meanE_size h0]; exact h0) | exact meanE_size h0 | exact meanV_bad (by rw [hE]; decide) | exact hE | (rw [meanV_ok hE])
        have e_2 : (meanE ps.length (qv c) (qv t) : Int) = (0 : Int) := by first | exact meanV_bad (by rw [meanE_size h0]; exact h0) | exact meanE_size h0 | exact meanV_bad (by rw [hE]; decide) | exact hE | (rw [meanV_ok hE])
        refine J.ret (KR.ret (v := .tuple #[ratV y13 (encQ (sumTo (meanT (qv c) (qv t)) ps ps.length / ((((ps.length : Nat) : Int)) : Rat))), .int .i64 0]) (y13) [some 0, none] [0] [b6, b6, b6] k_ v2_ (trivial) v2_)
end Go.Proofs.YtegnonhgildhoaaGreat.E
