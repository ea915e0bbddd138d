import Derived.Test.YtegnonhgildhoaaGreatBase9
import Derived.Test.YtegnonhgildhoaaGreatED
namespace Go.Proofs.YtegnonhgildhoaaGreat.E
open Go Go.RowKit
set_option linter.unusedVariables false
set_option linter.unusedSimpArgs false
theorem r04_Same (p : RA) (r : Raw) (u : RA) (t : Raw) (v : RA) (k : Raw) (w : RA) (m : Raw) : Spec Tryz.prog 21 #[.agg (ivC p r u t), .agg (ivC v k w m)] [fRat p r, fRat u t, fRat v k, fRat w m] (ι := Unit) (fun y => .bool (decide (r = k) && decide (t = m))) (fun y => True) (fun y => []) := by
  refine Spec.of_body _ (fn := Tryz.f21) k_ rfl k_ (fun X w0 => ?_)
  refine J.fact (φ := r.mag.length ≤ 140737488355328 ∧ r.den.length ≤ 140737488355328) (fun w h => by have h1 := (h _ (.head _)).1.1; have h2 := (h _ (.head _)).2.1; omega) (fun hl1 => ?_)
  refine J.fact (φ := t.mag.length ≤ 140737488355328 ∧ t.den.length ≤ 140737488355328) (fun w h => by have h1 := (h _ (.tail _ ((.head _)))).1.1; have h2 := (h _ (.tail _ ((.head _)))).2.1; omega) (fun hl2 => ?_)
  refine J.fact (φ := k.mag.length ≤ 140737488355328 ∧ k.den.length ≤ 140737488355328) (fun w h => by have h1 := (h _ (.tail _ ((.tail _ ((.head _)))))).1.1; have h2 := (h _ (.tail _ ((.tail _ ((.head _)))))).2.1; omega) (fun hl3 => ?_)
  refine J.fact (φ := m.mag.length ≤ 140737488355328 ∧ m.den.length ≤ 140737488355328) (fun w h => by have h1 := (h _ (.tail _ ((.tail _ ((.tail _ ((.head _)))))))).1.1; have h2 := (h _ (.tail _ ((.tail _ ((.tail _ ((.head _)))))))).2.1; omega) (fun hl4 => ?_)
  refine J.sreg ?_
  refine RN.new (fun b => pt b) (.cells (ivC p r u t) 38 (0, 0)) k_ k_ (fun w => by kernel_rfl) (fun b5 => ?_)
  refine RN.new (fun b => pt b) (.cells (ivC v k w m) 38 (0, 0)) k_ k_ (fun w => by kernel_rfl) (fun b6 => ?_)
  refine RN.bq (no 1) [2, 3] [] (k' := 3) (l' := [(2, pt b5), (3, pt b6)]) k_ ?_
  refine RN.fin k_ ?_
  refine J.sreg ?_
  refine RN.bq [none, some 1, none, some 0] [2, 3, 6, 8] [b6, b6, b6, b5, b5, b5] (k' := 4) (l' := [(2, pt b5), (3, pt b6), (6, ratV p r), (8, ratV v k)]) k_ ?_
  refine RN.call (r03_Same p r v k) [0, 2] k_ k_ k_ rfl (fun y7 _ => ?_)
  refine RN.bq (no 1) [2, 3, 10] [] (k' := 6) (l' := [(2, pt b5), (3, pt b6), (10, .bool (decide (r = k)))]) k_ ?_
  refine RN.split 10 (decide (r = k)) k_ (fun c8 => ?_) (fun c8 => ?_)
  · skip
    replace c8 := of_decide_eq_true c8
    refine RN.bq [none, some 1, none, some 0] [10, 12, 14] [b6, b6, b6, b5, b5, b5] (k' := 10) (l' := [(10, .bool true), (12, ratV u t), (14, ratV w m)]) k_ ?_
    refine RN.call (r03_Same u t w m) [1, 3] k_ k_ k_ rfl (fun y9 _ => ?_)
    refine RN.bq (no 2) [4] [] (k' := 13) (l' := [(4, .bool (decide (t = m)))]) k_ ?_
    refine RN.fin k_ ?_
    have e_1 : (decide (r = k) && decide (t = m)) = (decide (t = m)) := by simp_all
    refine J.ret (KR.ret (v := .bool (decide (t = m))) (()) [none] [] [] k_ v1_ (trivial) v1_)
  · skip
    replace c8 := of_decide_eq_false c8
    refine RN.bq (no 7) [4] [] (k' := 13) (l' := [(4, .bool false)]) k_ ?_
    refine RN.fin k_ ?_
    have e_1 : (decide (r = k) && decide (t = m)) = false := by simp_all
    refine J.ret (KR.ret (v := .bool false) (()) [none] [] [] k_ v1_ (trivial) v1_)
theorem Q_0 {k : Nat} (h : 1 ≤ k) : Q k (0 : Rat) := Q.le ⟨by decide +kernel, by decide +kernel⟩ h
end Go.Proofs.YtegnonhgildhoaaGreat.E
