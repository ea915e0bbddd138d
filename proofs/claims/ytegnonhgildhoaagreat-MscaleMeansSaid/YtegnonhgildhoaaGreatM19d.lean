import Derived.Test.YtegnonhgildhoaaGreatM19c
import Derived.Test.YtegnonhgildhoaaGreatED
import Derived.Test.YtegnonhgildhoaaGreatP1
namespace Go.Proofs.YtegnonhgildhoaaGreat.E
open Go Go.RowKit
set_option linter.unusedVariables false
set_option linter.unusedSimpArgs false
theorem Q_sumTo {c s : Rat} (ps : List PR) (hps : ∀ i, i < ps.length → RQ 64 (ps.getD i pr0).2) (hc : Q 64 c) (hs : Q 65536 s) : ∀ k, k ≤ ps.length → Q (197198 * k + 1) (sumTo (meanT c s) ps k)
  | 0, _ => Q0
  | k + 1, h => ((Q_sumTo ps hps hc hs k (by omega)).add (Q_term hc hs (hps k (by omega)).2.2.2.2).2.2.2).le (by omega)
theorem Q_mean {c s : Rat} (ps : List PR) (hps : ∀ i, i < ps.length → RQ 64 (ps.getD i pr0).2) (hc : Q 64 c) (hs : Q 65536 s) (hn : ps.length ≤ 1024) : Q 201930760 (sumTo (meanT c s) ps ps.length / ((((ps.length : Nat) : Int)) : Rat)) :=
  ((Q_sumTo ps hps hc hs ps.length (Nat.le_refl _)).div (Q_int (by omega))).le (by omega)
theorem y_m19_above {p : Prop} (h : p := by first | assumption | exact Lb_toL _ | omega | (simp; done) | first | exact ht.le (by decide) | exact hQm) : p := h
theorem m19_above (p' : RA) (t : Rat) (b1 : Nat) (b2 : Nat) (b3 : Nat) (s : SA) (ps : List PR) (p : RA) (c : Raw) (u : RA) (b : Raw) (hps : ∀ i, i < ps.length → RQ 64 (ps.getD i pr0).2) (hcR : RQ 268435456 c) (hbR : RQ 268435456 b) (hc : Q 64 (qv c)) (hb : Q 64 (qv b)) (ht : Q 65536 t) (hn : ps.length ≤ 1024) : SpecM Tryz.prog 56 #[ratV p' (encQ t), pt b1, pt b2, pt b3] [(b3, .cells (ratC u b) 27 (0, 0)), (b2, .cells (ratC p c) 27 (0, 0)), (b1, .cells #[sl s ps.length] 22 (0, 0))] [fRat p' (encQ t), fRats s ps, fRat p c, fRat u b] (ι := Unit) (fun y => .bool (decide ((qv b) < meanN (vals ps) ps.length (qv c) t))) (fun y => True) (fun y => [(b3, .cells (ratC u b) 27 (0, 0)), (b2, .cells (ratC p c) 27 (0, 0)), (b1, .cells #[sl s ps.length] 22 (0, 0))]) (fun y => []) := by
  refine SpecM.of_body _ (fn := Tryz.f56) k_ rfl k_ (fun X w0 => ?_)
  refine J.fact (φ := (encQ t).mag.length ≤ 140737488355328 ∧ (encQ t).den.length ≤ 140737488355328) (fun w h => by have h1 := (h _ (.head _)).1.1; have h2 := (h _ (.head _)).2.1; omega) (fun hl1 => ?_)
  refine J.fact (φ := ps.length ≤ 140737488355328) (fun w h => by have := (h _ (.tail _ ((.head _)))).1; omega) (fun hl2 => ?_)
  refine J.fact (φ := c.mag.length ≤ 140737488355328 ∧ c.den.length ≤ 140737488355328) (fun w h => by have h1 := (h _ (.tail _ ((.tail _ ((.head _)))))).1.1; have h2 := (h _ (.tail _ ((.tail _ ((.head _)))))).2.1; omega) (fun hl3 => ?_)
  refine J.fact (φ := b.mag.length ≤ 140737488355328 ∧ b.den.length ≤ 140737488355328) (fun w h => by have h1 := (h _ (.tail _ ((.tail _ ((.tail _ ((.head _)))))))).1.1; have h2 := (h _ (.tail _ ((.tail _ ((.tail _ ((.head _)))))))).2.1; omega) (fun hl4 => ?_)
  have hQm := (Q_mean ps hps hc ht hn).le (by decide : 201930760 ≤ 268435456)
  refine J.sreg ?_
  refine RN.new (fun b => pt b) (.cells (ratC p' (encQ t)) 27 (0, 0)) k_ k_ (fun w => by kernel_rfl) (fun b5 => ?_)
  refine RN.bq (no 1) [1, 2, 3, 4] [] (k' := 2) (l' := [(1, pt b1), (2, pt b2), (3, pt b3), (4, pt b5)]) k_ ?_
  refine RN.fin k_ ?_
  refine J.seq ?_
  refine J.regD k_ [] ?_
  refine RD.bat k_ [(0, some 3), (1, some 2), (2, some 0), (4, some 1)] [6, 7, 8, 10] [b3, b3, b3, b5, b5, b5, b2, b2, b2, b1] (L' := [4, 2, 1, 0]) (l' := [(6, sl s ps.length), (7, ratV p c), (8, ratV p' (encQ t)), (10, ratV u b)]) k_ ?_
  refine RD.call (i := 3) (m19_mean_c2 s ps p c p' t y_m19_above y_m19_above y_m19_above y_m19_above y_m19_above y_m19_above) [1, 2, 0] k_ k_ k_ k_ k_ rfl (fun y6 _ => ?_)
  refine RD.call (i := 5) (rational_Compare_c1 y6 (sumTo (meanT (qv c) t) ps ps.length / ((((ps.length : Nat) : Int)) : Rat)) u b y_m19_above y_m19_above) [0, 4] k_ k_ k_ k_ k_ rfl (fun y7 _ => ?_)
  refine RD.bat k_ [(6, none), (7, none)] [5] [] (L' := [7, 6, 5, 3, 4, 2, 1, 0]) (l' := [(5, .bool (decide ((cmpQ (sumTo (meanT (qv c) t) ps ps.length / ((((ps.length : Nat) : Int)) : Rat)) (qv b)) > 0)))]) k_ ?_
  refine RD.done k_ ?_
  refine KN.next ?_
  refine J.dropF 1 ?_
  have e_1 : (decide ((qv b) < meanN (vals ps) ps.length (qv c) t)) = (decide ((cmpQ (sumTo (meanT (qv c) t) ps ps.length / ((((ps.length : Nat) : Int)) : Rat)) (qv b)) > 0)) := by rw [decide_eq_decide]; exact cmpQ_gt.symm
  refine J.ret (KR.retM (v := .bool (decide ((cmpQ (sumTo (meanT (qv c) t) ps ps.length / ((((ps.length : Nat) : Int)) : Rat)) (qv b)) > 0))) (()) [none] [] [] k_ v1_ (trivial) v1_ v1_)
end Go.Proofs.YtegnonhgildhoaaGreat.E
