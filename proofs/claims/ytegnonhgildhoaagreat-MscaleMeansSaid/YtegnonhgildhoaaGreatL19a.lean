import Derived.Test.YtegnonhgildhoaaGreatL19
import Derived.Test.YtegnonhgildhoaaGreatEE
import Derived.Test.YtegnonhgildhoaaGreatP2
namespace Go.Proofs.YtegnonhgildhoaaGreat.E
open Go Go.RowKit
set_option linter.unusedVariables false
set_option linter.unusedSimpArgs false
theorem small_RQ {r : Raw} (h : smallB r = true) (hl : Lb r.mag ∧ Lb r.den) : RQ 64 r := by
  unfold smallB at h
  simp only [Bool.and_eq_true, decide_eq_true_eq] at h
  exact RQ.lens hl.1 hl.2 (Nat.le_trans h.1 (by decide)) (Nat.le_trans h.2 (by decide)) (by decide)
theorem light_RQ {ps : List PR} (h : lightB ps = true) (hl : ∀ i, i < ps.length → Lb (ps.getD i pr0).2.mag ∧ Lb (ps.getD i pr0).2.den) : ∀ i, i < ps.length → RQ 64 (ps.getD i pr0).2 := fun i hi => by
  unfold lightB at h
  rw [decide_eq_true_eq] at h
  exact small_RQ (h.2 i hi) (hl i hi)
theorem Light_RQ {r : Raw} (h : (decide (r.mag.length ≤ 8) && decide (r.den.length ≤ 8)) = true) (hl : Lb r.mag ∧ Lb r.den) : RQ 64 r := by
  simp only [Bool.and_eq_true, decide_eq_true_eq] at h
  exact RQ.lens hl.1 hl.2 (Nat.le_trans h.1 (by decide)) (Nat.le_trans h.2 (by decide)) (by decide)
theorem not_f {b : Bool} (h : (!b) = false) : b = true := by simpa using h
theorem y_l19_Means {p : Prop} (h : p := by first | assumption | exact Lb_toL _ | omega | (simp; done) | first | exact Q.le ‹_› (by decide)) : p := h
theorem l19_Means (s : SA) (ps : List PR) (p : RA) (c : Raw) (u : RA) (t : Raw) (v : RA) (w : Raw) (hL : ∀ i, i < ps.length → Lb (ps.getD i pr0).2.mag ∧ Lb (ps.getD i pr0).2.den) (hLc : Lb c.mag ∧ Lb c.den) (hLt : Lb t.mag ∧ Lb t.den) (hLw : Lb w.mag ∧ Lb w.den) : Spec Tryz.prog 3 #[sl s ps.length, ratV p c, ratV u t, ratV v w] [fRats s ps, fRat p c, fRat u t, fRat v w] (ι := Unit) (fun y => .bool true) (fun y => True) (fun y => []) := by
  refine Spec.of_body _ (fn := Tryz.f3) k_ rfl k_ (fun X w0 => ?_)
  refine J.fact (φ := ps.length ≤ 140737488355328) (fun w h => by have := (h _ (.head _)).1; omega) (fun hl1 => ?_)
  refine J.fact (φ := c.mag.length ≤ 140737488355328 ∧ c.den.length ≤ 140737488355328) (fun w h => by have h1 := (h _ (.tail _ ((.head _)))).1.1; have h2 := (h _ (.tail _ ((.head _)))).2.1; omega) (fun hl2 => ?_)
  refine J.fact (φ := t.mag.length ≤ 140737488355328 ∧ t.den.length ≤ 140737488355328) (fun w h => by have h1 := (h _ (.tail _ ((.tail _ ((.head _)))))).1.1; have h2 := (h _ (.tail _ ((.tail _ ((.head _)))))).2.1; omega) (fun hl3 => ?_)
  refine J.fact (φ := w.mag.length ≤ 140737488355328 ∧ w.den.length ≤ 140737488355328) (fun w h => by have h1 := (h _ (.tail _ ((.tail _ ((.tail _ ((.head _)))))))).1.1; have h2 := (h _ (.tail _ ((.tail _ ((.tail _ ((.head _)))))))).2.1; omega) (fun hl4 => ?_)
  refine J.sreg ?_
  refine RN.new (fun b => pt b) (.cells (ratC p c) 27 (0, 0)) k_ k_ (fun w => by kernel_rfl) (fun b5 => ?_)
  refine RN.new (fun b => pt b) (.cells (ratC u t) 27 (0, 0)) k_ k_ (fun w => by kernel_rfl) (fun b6 => ?_)
  refine RN.new (fun b => pt b) (.cells (ratC v w) 27 (0, 0)) k_ k_ (fun w => by kernel_rfl) (fun b7 => ?_)
  refine RN.bq (no 1) [0, 5, 6, 7] [] (k' := 4) (l' := [(0, sl s ps.length), (5, pt b5), (6, pt b6), (7, pt b7)]) k_ ?_
  refine RN.fin k_ ?_
  refine J.seq ?_
  refine J.sreg ?_
  refine RN.bq (no 1) [0, 5, 6, 7, 13] [] (k' := 1) (l' := [(0, sl s ps.length), (5, pt b5), (6, pt b6), (7, pt b7), (13, sl s ps.length)]) k_ ?_
  refine RN.call (l19_light s ps) [0] k_ k_ k_ rfl (fun y8 _ => ?_)
  refine RN.bq (no 2) [0, 5, 6, 7, 16] [] (k' := 4) (l' := [(0, sl s ps.length), (5, pt b5), (6, pt b6), (7, pt b7), (16, .bool (!(lightB ps)))]) k_ ?_
  refine RN.split 16 (!(lightB ps)) k_ (fun c9 => ?_) (fun c9 => ?_)
  · skip
    refine RN.bq (no 14) [0, 5, 6, 7, 30] [] (k' := 18) (l' := [(0, sl s ps.length), (5, pt b5), (6, pt b6), (7, pt b7), (30, .bool true)]) k_ ?_
    refine RN.fin k_ ?_
    refine J.condT k_ ?_
    refine J.sreg ?_
    refine RN.call (l19_awake) [] k_ k_ k_ rfl (fun y10 _ => ?_)
    refine RN.bq (no 1) [8] [] (k' := 2) (l' := [(8, .bool true)]) k_ ?_
    refine RN.fin k_ ?_
    refine J.ret (KR.next (KR.ret (v := .bool true) (()) [none] [] [] k_ rfl (trivial) rfl))
  · skip
    have hps6 := light_RQ (not_f c9) hL
    refine RN.bq [some 2] [0, 5, 6, 7, 16, 17] [b5, b5, b5] (k' := 5) (l' := [(0, sl s ps.length), (5, pt b5), (6, pt b6), (7, pt b7), (16, .bool false), (17, ratV p c)]) k_ ?_
    refine RN.call (l19_small p c) [1] k_ k_ k_ rfl (fun y11 _ => ?_)
    refine RN.bq (no 3) [0, 5, 6, 7, 21] [] (k' := 9) (l' := [(0, sl s ps.length), (5, pt b5), (6, pt b6), (7, pt b7), (21, .bool (!(smallB c)))]) k_ ?_
    refine RN.split 21 (!(smallB c)) k_ (fun c12 => ?_) (fun c12 => ?_)
    · skip
      refine RN.bq (no 9) [0, 5, 6, 7, 30] [] (k' := 18) (l' := [(0, sl s ps.length), (5, pt b5), (6, pt b6), (7, pt b7), (30, .bool true)]) k_ ?_
      refine RN.fin k_ ?_
      refine J.condT k_ ?_
      refine J.sreg ?_
      refine RN.call (l19_awake) [] k_ k_ k_ rfl (fun y13 _ => ?_)
      refine RN.bq (no 1) [8] [] (k' := 2) (l' := [(8, .bool true)]) k_ ?_
      refine RN.fin k_ ?_
      refine J.ret (KR.next (KR.ret (v := .bool true) (()) [none] [] [] k_ rfl (trivial) rfl))
    · skip
      have hc6 := small_RQ (not_f c12) hLc
      refine RN.bq [some 1] [0, 5, 6, 7, 21, 22] [b6, b6, b6] (k' := 10) (l' := [(0, sl s ps.length), (5, pt b5), (6, pt b6), (7, pt b7), (21, .bool false), (22, ratV u t)]) k_ ?_
      refine RN.call (l19_small u t) [2] k_ k_ k_ rfl (fun y14 _ => ?_)
      refine RN.bq (no 3) [0, 5, 6, 7, 26] [] (k' := 14) (l' := [(0, sl s ps.length), (5, pt b5), (6, pt b6), (7, pt b7), (26, .bool (!(smallB t)))]) k_ ?_
      refine RN.split 26 (!(smallB t)) k_ (fun c15 => ?_) (fun c15 => ?_)
      · skip
        refine RN.bq (no 4) [0, 5, 6, 7, 30] [] (k' := 18) (l' := [(0, sl s ps.length), (5, pt b5), (6, pt b6), (7, pt b7), (30, .bool true)]) k_ ?_
        refine RN.fin k_ ?_
        refine J.condT k_ ?_
        refine J.sreg ?_
        refine RN.call (l19_awake) [] k_ k_ k_ rfl (fun y16 _ => ?_)
        refine RN.bq (no 1) [8] [] (k' := 2) (l' := [(8, .bool true)]) k_ ?_
        refine RN.fin k_ ?_
        refine J.ret (KR.next (KR.ret (v := .bool true) (()) [none] [] [] k_ rfl (trivial) rfl))
      · skip
        have ht6 := small_RQ (not_f c15) hLt
        refine RN.bq [some 0] [0, 5, 6, 7, 26, 27] [b7, b7, b7] (k' := 15) (l' := [(0, sl s ps.length), (5, pt b5), (6, pt b6), (7, pt b7), (26, .bool false), (27, ratV v w)]) k_ ?_
        refine RN.call (made_Light v w) [3] k_ k_ k_ rfl (fun y17 _ => ?_)
        refine RN.bq (no 2) [0, 5, 6, 7, 30] [] (k' := 18) (l' := [(0, sl s ps.length), (5, pt b5), (6, pt b6), (7, pt b7), (30, .bool (!(decide (w.mag.length ≤ 8) && decide (w.den.length ≤ 8))))]) k_ ?_
        refine RN.fin k_ ?_
        refine J.cond (!(decide (w.mag.length ≤ 8) && decide (w.den.length ≤ 8))) k_ (fun c18 => ?_) (fun c18 => ?_)
        · skip
          refine J.sreg ?_
          refine RN.call (l19_awake) [] k_ k_ k_ rfl (fun y19 _ => ?_)
          refine RN.bq (no 1) [8] [] (k' := 2) (l' := [(8, .bool true)]) k_ ?_
          refine RN.fin k_ ?_
          refine J.ret (KR.next (KR.ret (v := .bool true) (()) [none] [] [] k_ rfl (trivial) rfl))
        · skip
          have hw6 := Light_RQ (not_f c18) hLw
          have hcR := hc6.le (by decide : 64 ≤ 268435456)
          have htR := ht6.le (by decide : 64 ≤ 268435456)
          have hwR := hw6.le (by decide : 64 ≤ 268435456)
          have hcQ := hc6.2.2.2.2
          have htQ := ht6.2.2.2.2
          have hwQ := hw6.2.2.2.2
          refine J.skip ?_
          refine KN.next ?_
          refine J.sreg ?_
          refine RN.bq [none, some 2, some 1] [0, 5, 6, 7, 33, 34, 35] [b6, b6, b6, b5, b5, b5] (k' := 3) (l' := [(0, sl s ps.length), (5, pt b5), (6, pt b6), (7, pt b7), (33, sl s ps.length), (34, ratV p c), (35, ratV u t)]) k_ ?_
          refine RN.call (m19_Mean s ps p c u t y_l19_Means y_l19_Means y_l19_Means y_l19_Means y_l19_Means) [0, 1, 2] k_ k_ k_ rfl (fun y20 _ => ?_)
          refine RN.bq (no 3) [0, 5, 6, 7, 37, 38] [] (k' := 7) (l' := [(0, sl s ps.length), (5, pt b5), (6, pt b6), (7, pt b7), (37, ratV y20 (encQ (meanV ps (qv c) (qv t)))), (38, .int .i64 (meanE ps.length (qv c) (qv t)))]) k_ ?_
          refine RN.new (fun b => pt b) (.cells (ratC (⟨saNil, saNil⟩ : RA) (⟨false, ([] : List Nat), ([] : List Nat)⟩ : Raw)) 27 (0, 0)) k_ k_ (fun w => by kernel_rfl) (fun b21 => ?_)
          refine RN.bat [some 0, none] [0, 5, 6, 7, 9, 10] [b21, b21, b21] (k' := 10) (l' := [(0, sl s ps.length), (5, pt b5), (6, pt b6), (7, pt b7), (9, pt b21), (10, .int .i64 (meanE ps.length (qv c) (qv t)))]) (M' := [(b21, .cells (ratC y20 (encQ (meanV ps (qv c) (qv t)))) 27 (0, 0)), (b7, .cells (ratC v w) 27 (0, 0)), (b6, .cells (ratC u t) 27 (0, 0)), (b5, .cells (ratC p c) 27 (0, 0))]) k_ ?_
          refine RN.fin k_ ?_
          refine J.sreg ?_
          refine RN.bq [none, some 3, some 2] [7, 9, 10, 40, 41, 42] [b6, b6, b6, b5, b5, b5] (k' := 3) (l' := [(7, pt b7), (9, pt b21), (10, .int .i64 (meanE ps.length (qv c) (qv t))), (40, sl s ps.length), (41, ratV p c), (42, ratV u t)]) k_ ?_
          refine RN.call (r19_Mean s ps p c u t y_l19_Means y_l19_Means y_l19_Means y_l19_Means y_l19_Means) [1, 2, 3] k_ k_ k_ rfl (fun y22 _ => ?_)
          refine RN.bq (no 3) [7, 9, 10, 44, 45] [] (k' := 7) (l' := [(7, pt b7), (9, pt b21), (10, .int .i64 (meanE ps.length (qv c) (qv t))), (44, ratV y22 (encQ (meanV ps (qv c) (qv t)))), (45, .int .i64 (meanE ps.length (qv c) (qv t)))]) k_ ?_
          refine RN.new (fun b => pt b) (.cells (ratC (⟨saNil, saNil⟩ : RA) (⟨false, ([] : List Nat), ([] : List Nat)⟩ : Raw)) 27 (0, 0)) k_ k_ (fun w => by kernel_rfl) (fun b23 => ?_)
          refine RN.bat [some 0, none] [7, 9, 10, 11, 12] [b23, b23, b23] (k' := 10) (l' := [(7, pt b7), (9, pt b21), (10, .int .i64 (meanE ps.length (qv c) (qv t))), (11, pt b23), (12, .int .i64 (meanE ps.length (qv c) (qv t)))]) (M' := [(b23, .cells (ratC y22 (encQ (meanV ps (qv c) (qv t)))) 27 (0, 0)), (b21, .cells (ratC y20 (encQ (meanV ps (qv c) (qv t)))) 27 (0, 0)), (b7, .cells (ratC v w) 27 (0, 0)), (b6, .cells (ratC u t) 27 (0, 0)), (b5, .cells (ratC p c) 27 (0, 0))]) k_ ?_
          refine RN.fin k_ ?_
          refine J.seq ?_
          refine J.regD k_ [] ?_
          refine RD.call (i := 0) (l19_awake) [] k_ k_ k_ k_ k_ rfl (fun y24 _ => ?_)
          refine RD.bat k_ [(1, none), (2, some 2), (4, some 2)] [9, 10, 11, 12, 47, 48, 50] [b7, b7, b7, b7, b7, b7] (L' := [4, 2, 1, 0]) (l' := [(9, pt b21), (10, .int .i64 (meanE ps.length (qv c) (qv t))), (11, pt b23), (12, .int .i64 (meanE ps.length (qv c) (qv t))), (47, .bool true), (48, ratV v w), (50, ratV v w)]) k_ ?_
          refine RD.call (i := 3) (m19_Rho v w y_l19_Means y_l19_Means) [5] k_ k_ k_ k_ k_ rfl (fun y25 _ => ?_)
          refine RD.call (i := 5) (r19_Rho v w y_l19_Means y_l19_Means) [6] k_ k_ k_ k_ k_ rfl (fun y26 _ => ?_)
          refine RD.call (i := 6) (r03_Same y25 (encQ (rhoQ (qv w))) y26 (encQ (rhoQ (qv w)))) [1, 0] k_ k_ k_ k_ k_ rfl (fun y27 _ => ?_)
          rw [show (decide ((encQ (rhoQ (qv w))) = (encQ (rhoQ (qv w))))) = true from decide_eq_true rfl]
          refine RD.bat k_ [(7, none), (8, none), (9, some 1), (10, some 0)] [10, 12, 54, 55, 56] [b23, b23, b23, b21, b21, b21] (L' := [10, 9, 8, 7, 6, 5, 3, 4, 2, 1, 0]) (l' := [(10, .int .i64 (meanE ps.length (qv c) (qv t))), (12, .int .i64 (meanE ps.length (qv c) (qv t))), (54, .bool true), (55, ratV y20 (encQ (meanV ps (qv c) (qv t)))), (56, ratV y22 (encQ (meanV ps (qv c) (qv t))))]) k_ ?_
          refine RD.call (i := 11) (r03_Same y20 (encQ (meanV ps (qv c) (qv t))) y22 (encQ (meanV ps (qv c) (qv t)))) [3, 2] k_ k_ k_ k_ k_ rfl (fun y28 _ => ?_)
          rw [show (decide ((encQ (meanV ps (qv c) (qv t))) = (encQ (meanV ps (qv c) (qv t))))) = true from decide_eq_true rfl]
          refine RD.bat k_ [(12, none), (13, none), (14, none), (15, none), (16, none)] [59, 62] [] (L' := [16, 15, 14, 13, 12, 11, 10, 9, 8, 7, 6, 5, 3, 4, 2, 1, 0]) (l' := [(59, .bool true), (62, .bool (((meanE ps.length (qv c) (qv t)) : Int) == (meanE ps.length (qv c) (qv t))))]) k_ ?_
          rw [show (((meanE ps.length (qv c) (qv t)) : Int) == (meanE ps.length (qv c) (qv t))) = true from beq_self_eq_true _]
          refine RD.bat k_ [(17, none), (18, none)] [8] [] (L' := [18, 17, 16, 15, 14, 13, 12, 11, 10, 9, 8, 7, 6, 5, 3, 4, 2, 1, 0]) (l' := [(8, .bool true)]) k_ ?_
          refine RD.done k_ ?_
          refine KN.next ?_
          refine J.ret (KR.ret (v := .bool true) (()) [none] [] [] k_ rfl (trivial) rfl)
end Go.Proofs.YtegnonhgildhoaaGreat.E
