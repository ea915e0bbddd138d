/- Lemmas and contracts of functions on the way to the law, part 6. -/
import Derived.WalkKit
import Derived.ProofKit
import Derived.OpenShut
import Derived.ChangeOld
import Derived.Below
import Derived.SizedLaws
import Derived.Test.YtegnonhgildhoaaGreatA5
namespace Go.Proofs.YtegnonhgildhoaaGreat.E
open Go Go.RowKit
set_option linter.unusedVariables false
set_option linter.unusedSimpArgs false
theorem hps_nil {k : Nat} : ∀ i, i < ([] : List PR).length → RQ k (([] : List PR).getD i pr0).2 := fun i h => absurd h (Nat.not_lt_zero _)
theorem hps_cons {k : Nat} {p : PR} {ps : List PR} (h : RQ k p.2) (t : ∀ i, i < ps.length → RQ k (ps.getD i pr0).2) : ∀ i, i < (p :: ps).length → RQ k ((p :: ps).getD i pr0).2
  | 0, _ => h
  | i + 1, hi => t i (by simpa using hi)
theorem Q_dec {k : Nat} {q : Rat} (h : (decide (q.num.natAbs < W ^ k) && decide (q.den < W ^ k)) = true) : Q k q := by
  simp only [Bool.and_eq_true, decide_eq_true_eq] at h
  exact Q_iff.2 h
theorem aw_e : meanE 2 ((1 : Int) : Rat) ((2 : Int) : Rat) = 0 := by decide +kernel
theorem aw_m (p1 p2 : RA) : meanV [(p1, encQ ((1 : Int) : Rat)), (p2, encQ (((-1) : Int) : Rat))] ((1 : Int) : Rat) ((2 : Int) : Rat) = ((7 : Int) : Rat) / ((8 : Int) : Rat) := by
  unfold meanV
  rw [if_pos (show meanE [(p1, encQ ((1 : Int) : Rat)), (p2, encQ (((-1) : Int) : Rat))].length ((1 : Int) : Rat) ((2 : Int) : Rat) = 0 from aw_e)]
  show (0 + meanT ((1 : Int) : Rat) ((2 : Int) : Rat) (qv (encQ ((1 : Int) : Rat))) + meanT ((1 : Int) : Rat) ((2 : Int) : Rat) (qv (encQ (((-1) : Int) : Rat)))) / (((2 : Nat) : Int) : Rat) = _
  rw [qv_encQ, qv_encQ]
  decide +kernel
theorem aw_c : checkE 4 ((1 : Int) : Rat) (((1 : Int) : Rat) / ((4 : Int) : Rat)) 3 = 0 := by decide +kernel
theorem aw_s (p1 p2 p3 p4 : RA) (b : Rat) (hb : b = ((1 : Int) : Rat) / ((4 : Int) : Rat)) : shareN (vals [(p1, ⟨false, [], []⟩), (p2, ⟨false, [], []⟩), (p3, ⟨false, [], []⟩), (p4, encQ ((5 : Int) : Rat))]) 4 ≤ b := by
  subst hb
  have h : ∀ i, i < 4 → vals [(p1, ⟨false, [], []⟩), (p2, ⟨false, [], []⟩), (p3, ⟨false, [], []⟩), (p4, encQ ((5 : Int) : Rat))] i = (if i = 3 then ((5 : Int) : Rat) else 0) := by
    intro i hi
    have z : qv ⟨false, [], []⟩ = 0 := by rw [← encQ_zero, qv_encQ]
    match i, hi with
    | 0, _ => exact z
    | 1, _ => exact z
    | 2, _ => exact z
    | 3, _ => exact qv_encQ _
  unfold shareN
  rw [cntN_sum, sumN_congr (g := fun i => if i = 3 then 1 else 0)]
  · decide +kernel
  · intro i hi
    show (if decide (vals _ i ≠ 0) = true then (1 : Rat) else 0) = _
    rw [h i hi]
    match i, hi with
    | 0, _ => rfl
    | 1, _ => rfl
    | 2, _ => rfl
    | 3, _ => rfl
theorem aw_r : rhoQ (((1 : Int) : Rat) / ((2 : Int) : Rat)) = ((7 : Int) : Rat) / ((8 : Int) : Rat) := by decide +kernel
theorem aw_i {x : Nat → Rat} {n : Nat} {c b : Rat} {bits : Int} {lo hi : Rat} (h : ScaleR x n c b bits lo hi) (hs : shareN x n ≤ b) : encQ lo = ⟨false, [], []⟩ ∧ encQ hi = ⟨false, [], []⟩ := by
  unfold ScaleR at h
  rw [if_pos (.inr hs)] at h
  rw [h.1, h.2, encQ_zero]; exact ⟨rfl, rfl⟩
theorem y_l19_awake {p : Prop} (h : p := by first | assumption | exact Lb_toL _ | omega | (simp; done) | first | exact Q.le (Q_int (by decide)) (by decide) | exact RQ_enc (Q.le (Q_int (by decide)) (by decide)) | exact Q.le (Q_dec (k := 2) (by decide +kernel)) (by decide) | exact RQ_enc (Q.le (Q_dec (k := 2) (by decide +kernel)) (by decide)) | ((repeat' (first | exact hps_nil | refine hps_cons ?_ ?_ | exact RQ_enc (Q.le (Q_int (by decide)) (by decide)) | (rw [← encQ_zero]; exact RQ_enc (Q_0 (by decide))))); done)) : p := h
theorem l19_awake : Spec Tryz.prog 12 #[] [] (ι := Unit) (fun y => .bool true) (fun y => True) (fun y => []) := by
 refine Spec.of_body _ (fn := Tryz.f12) k_ rfl k_ (fun X w0 => ?_)
 refine J.sreg ?_
 refine RN.bq (no 1) [] [] 1 [] k_ ?_
 refine RN.fs k_ ?_
 refine RN.call (r03_FromInt 1 y_l19_awake y_l19_awake) [] k_ k_ k_ rfl (fun y1 _ => ?_)
 refine RN.new (fun b => pt b) (.cells (ratC (⟨saNil, saNil⟩ : RA) (⟨false, ([] : List Nat), ([] : List Nat)⟩ : Raw)) 27 (0, 0)) k_ k_ (fun w => by kernel_rfl) (fun b2 => ?_)
 refine RN.bs [some 0] [1] [b2, b2, b2] 3 [(1, pt b2)] ([(b2, .cells (ratC y1 (encQ ((1 : Int) : Rat))) 27 (0, 0))]) k_ ?_
 refine RN.fin k_ ?_
 refine J.seqC (ι := (RA) × (Nat) × (RA) × (RA) × (Nat)) (fun x => True) (fun x => [(1, pt b2), (2, .pointer (some ⟨x.2.2.2.2, 0, none⟩)), (3, .int .i64 (meanE ([(y1, (encQ ((1 : Int) : Rat))), (x.1, (encQ (((-1) : Int) : Rat)))] : List PR).length ((1 : Int) : Rat) ((2 : Int) : Rat)))]) (fun x => [(x.2.2.2.2, .cells (ratC x.2.2.2.1 (encQ (meanV ([(y1, (encQ ((1 : Int) : Rat))), (x.1, (encQ (((-1) : Int) : Rat)))] : List PR) ((1 : Int) : Rat) ((2 : Int) : Rat)))) 27 (0, 0)), (b2, .cells (ratC y1 (encQ ((1 : Int) : Rat))) 27 (0, 0))]) (fun x => [fRat x.2.2.2.1 (encQ (meanV ([(y1, (encQ ((1 : Int) : Rat))), (x.1, (encQ (((-1) : Int) : Rat)))] : List PR) ((1 : Int) : Rat) ((2 : Int) : Rat))), fRats (⟨some ⟨x.2.1, 0, none⟩, 2⟩ : SA) ([(y1, (encQ ((1 : Int) : Rat))), (x.1, (encQ (((-1) : Int) : Rat)))] : List PR), allRat ([(y1, (encQ ((1 : Int) : Rat))), (x.1, (encQ (((-1) : Int) : Rat)))] : List PR), fBlk x.2.1 (.cells (encR ([(y1, (encQ ((1 : Int) : Rat))), (x.1, (encQ (((-1) : Int) : Rat)))] : List PR)) 27 (0, 0)), fRat x.2.2.1 (encQ ((2 : Int) : Rat)), fRat x.1 (encQ (((-1) : Int) : Rat)), fRat y1 (encQ ((1 : Int) : Rat))]) ?_ ?_
 ·refine J.regD k_ [10] ?_
  refine RD.bq [(0, some 0), (3, some 0)] [1, 8, 11] [b2, b2, b2, b2, b2, b2] [(1, pt b2), (8, ratV y1 (encQ ((1 : Int) : Rat))), (11, ratV y1 (encQ ((1 : Int) : Rat)))] k_ k_ ?_
  refine RD.forkL (is := [1, 9]) k_ rfl k_ ⟨?_, ?_, trivial⟩
  ·refine RDi.call (i := 1) (r03_FromInt (-1) y_l19_awake y_l19_awake) [] k_ k_ k_ k_ rfl (fun y3 _ => ?_)
   refine RD.forkL (is := [2, 4, 9]) k_ rfl k_ ⟨?_, ?_, ?_, trivial⟩
   ·refine RDi.new (i := 2) (fun b => .slice (some ⟨b, 0, none⟩) 2 2) (.cells (encR ([(y1, (encQ ((1 : Int) : Rat))), (y3, (encQ (((-1) : Int) : Rat)))] : List PR)) 27 (0, 0)) k_ k_ k_ (fun w => by kernel_rfl) (fun b4 => ?_)
    refine RD.forkL (is := [4, 9]) k_ rfl k_ ⟨?_, ?_, trivial⟩
    ·refine RDi.call (i := 4) (r03_FromInt 2 y_l19_awake y_l19_awake) [] k_ k_ k_ k_ rfl (fun y5 _ => ?_)
     refine RD.share 0 rfl rfl k_ ?_
     refine RD.also (allRat ([(y1, (encQ ((1 : Int) : Rat))), (y3, (encQ (((-1) : Int) : Rat)))] : List PR)) (fun w h => allRat_cons (h _ (.tail _ ((.tail _ ((.tail _ ((.head _)))))))) (allRat_cons (h _ (.tail _ ((.tail _ ((.head _)))))) (allRat_nil _))) k_ ?_
     refine RD.also (fRats (⟨some ⟨b4, 0, none⟩, 2⟩ : SA) ([(y1, (encQ ((1 : Int) : Rat))), (y3, (encQ (((-1) : Int) : Rat)))] : List PR)) (fun w h => fRats_own (h _ (.tail _ ((.head _)))) (h _ (.head _)) x_ x_) k_ ?_
     refine RD.turn 10 (v := .slice (some ⟨b4, 0, none⟩) 2 2) (v' := sl (⟨some ⟨b4, 0, none⟩, 2⟩ : SA) ([(y1, (encQ ((1 : Int) : Rat))), (y3, (encQ (((-1) : Int) : Rat)))] : List PR).length) k_ (sl_eq x_) ?_
     refine RD.forkL (is := [5, 9]) k_ rfl k_ ⟨?_, ?_, trivial⟩
     ·refine RDi.call (i := 5) (m19_Mean_c (⟨some ⟨b4, 0, none⟩, 2⟩ : SA) ([(y1, (encQ ((1 : Int) : Rat))), (y3, (encQ (((-1) : Int) : Rat)))] : List PR) y1 ((1 : Int) : Rat) y5 ((2 : Int) : Rat) y_l19_awake y_l19_awake y_l19_awake y_l19_awake y_l19_awake) [0, 5, 3] k_ k_ k_ k_ rfl (fun y6 _ => ?_)
      refine RD.bq (nl [6, 7, 8]) [1, 14, 15] [] [(1, pt b2), (14, ratV y6 (encQ (meanV ([(y1, (encQ ((1 : Int) : Rat))), (y3, (encQ (((-1) : Int) : Rat)))] : List PR) ((1 : Int) : Rat) ((2 : Int) : Rat)))), (15, .int .i64 (meanE ([(y1, (encQ ((1 : Int) : Rat))), (y3, (encQ (((-1) : Int) : Rat)))] : List PR).length ((1 : Int) : Rat) ((2 : Int) : Rat)))] k_ k_ ?_
      refine RD.new (i := 9) (fun b => pt b) (.cells (ratC (⟨saNil, saNil⟩ : RA) (⟨false, ([] : List Nat), ([] : List Nat)⟩ : Raw)) 27 (0, 0)) k_ k_ k_ k_ (fun w => by kernel_rfl) (fun b7 => ?_)
      refine RD.last (i := 10) (some 0) [1, 2, 15] [b7, b7, b7] k_ k_ k_ (l' := [(1, pt b2), (2, pt b7), (15, .int .i64 (meanE ([(y1, (encQ ((1 : Int) : Rat))), (y3, (encQ (((-1) : Int) : Rat)))] : List PR).length ((1 : Int) : Rat) ((2 : Int) : Rat)))]) (M' := [(b7, .cells (ratC y6 (encQ (meanV ([(y1, (encQ ((1 : Int) : Rat))), (y3, (encQ (((-1) : Int) : Rat)))] : List PR) ((1 : Int) : Rat) ((2 : Int) : Rat)))) 27 (0, 0)), (b2, .cells (ratC y1 (encQ ((1 : Int) : Rat))) 27 (0, 0))]) k_ ?_
      refine RD.bq (nl [11]) [1, 2, 3] [] [(1, pt b2), (2, pt b7), (3, .int .i64 (meanE ([(y1, (encQ ((1 : Int) : Rat))), (y3, (encQ (((-1) : Int) : Rat)))] : List PR).length ((1 : Int) : Rat) ((2 : Int) : Rat)))] k_ k_ ?_
      refine RD.done k_ ?_
      refine KN.meet (y3, b4, y5, y6, b7) [1, 2, 3] [0, 1, 2, 3, 4, 5, 6] (l2 := [(1, pt b2), (2, pt b7), (3, .int .i64 (meanE ([(y1, (encQ ((1 : Int) : Rat))), (y3, (encQ (((-1) : Int) : Rat)))] : List PR).length ((1 : Int) : Rat) ((2 : Int) : Rat)))]) (by exact trivial) k_ (by rfl) (by rfl) (by rfl)
     ·refine RDi.new (i := 9) (fun b => pt b) (.cells (ratC (⟨saNil, saNil⟩ : RA) (⟨false, ([] : List Nat), ([] : List Nat)⟩ : Raw)) 27 (0, 0)) k_ k_ k_ (fun w => by kernel_rfl) (fun b8 => ?_)
      refine RD.call (i := 5) (m19_Mean_c (⟨some ⟨b4, 0, none⟩, 2⟩ : SA) ([(y1, (encQ ((1 : Int) : Rat))), (y3, (encQ (((-1) : Int) : Rat)))] : List PR) y1 ((1 : Int) : Rat) y5 ((2 : Int) : Rat) y_l19_awake y_l19_awake y_l19_awake y_l19_awake y_l19_awake) [0, 5, 3] k_ k_ k_ k_ k_ rfl (fun y9 _ => ?_)
      refine RD.bq (nl [6, 7, 8]) [1, 2, 14, 15] [] [(1, pt b2), (2, pt b8), (14, ratV y9 (encQ (meanV ([(y1, (encQ ((1 : Int) : Rat))), (y3, (encQ (((-1) : Int) : Rat)))] : List PR) ((1 : Int) : Rat) ((2 : Int) : Rat)))), (15, .int .i64 (meanE ([(y1, (encQ ((1 : Int) : Rat))), (y3, (encQ (((-1) : Int) : Rat)))] : List PR).length ((1 : Int) : Rat) ((2 : Int) : Rat)))] k_ k_ ?_
      refine RD.last (i := 10) (some 0) [1, 2, 15] [b8, b8, b8] k_ k_ k_ (l' := [(1, pt b2), (2, pt b8), (15, .int .i64 (meanE ([(y1, (encQ ((1 : Int) : Rat))), (y3, (encQ (((-1) : Int) : Rat)))] : List PR).length ((1 : Int) : Rat) ((2 : Int) : Rat)))]) (M' := [(b8, .cells (ratC y9 (encQ (meanV ([(y1, (encQ ((1 : Int) : Rat))), (y3, (encQ (((-1) : Int) : Rat)))] : List PR) ((1 : Int) : Rat) ((2 : Int) : Rat)))) 27 (0, 0)), (b2, .cells (ratC y1 (encQ ((1 : Int) : Rat))) 27 (0, 0))]) k_ ?_
      refine RD.bq (nl [11]) [1, 2, 3] [] [(1, pt b2), (2, pt b8), (3, .int .i64 (meanE ([(y1, (encQ ((1 : Int) : Rat))), (y3, (encQ (((-1) : Int) : Rat)))] : List PR).length ((1 : Int) : Rat) ((2 : Int) : Rat)))] k_ k_ ?_
      refine RD.done k_ ?_
      refine KN.meet (y3, b4, y5, y9, b8) [1, 2, 3] [0, 1, 2, 3, 4, 5, 6] (l2 := [(1, pt b2), (2, pt b8), (3, .int .i64 (meanE ([(y1, (encQ ((1 : Int) : Rat))), (y3, (encQ (((-1) : Int) : Rat)))] : List PR).length ((1 : Int) : Rat) ((2 : Int) : Rat)))]) (by exact trivial) k_ (by rfl) (by rfl) (by rfl)
    ·refine RDi.new (i := 9) (fun b => pt b) (.cells (ratC (⟨saNil, saNil⟩ : RA) (⟨false, ([] : List Nat), ([] : List Nat)⟩ : Raw)) 27 (0, 0)) k_ k_ k_ (fun w => by kernel_rfl) (fun b10 => ?_)
     refine RD.call (i := 4) (r03_FromInt 2 y_l19_awake y_l19_awake) [] k_ k_ k_ k_ k_ rfl (fun y11 _ => ?_)
     refine RD.share 1 rfl rfl k_ ?_
     refine RD.also (allRat ([(y1, (encQ ((1 : Int) : Rat))), (y3, (encQ (((-1) : Int) : Rat)))] : List PR)) (fun w h => allRat_cons (h _ (.tail _ ((.tail _ ((.tail _ ((.head _)))))))) (allRat_cons (h _ (.tail _ ((.tail _ ((.head _)))))) (allRat_nil _))) k_ ?_
     refine RD.also (fRats (⟨some ⟨b4, 0, none⟩, 2⟩ : SA) ([(y1, (encQ ((1 : Int) : Rat))), (y3, (encQ (((-1) : Int) : Rat)))] : List PR)) (fun w h => fRats_own (h _ (.tail _ ((.head _)))) (h _ (.head _)) x_ x_) k_ ?_
     refine RD.turn 10 (v := .slice (some ⟨b4, 0, none⟩) 2 2) (v' := sl (⟨some ⟨b4, 0, none⟩, 2⟩ : SA) ([(y1, (encQ ((1 : Int) : Rat))), (y3, (encQ (((-1) : Int) : Rat)))] : List PR).length) k_ (sl_eq x_) ?_
     refine RD.call (i := 5) (m19_Mean_c (⟨some ⟨b4, 0, none⟩, 2⟩ : SA) ([(y1, (encQ ((1 : Int) : Rat))), (y3, (encQ (((-1) : Int) : Rat)))] : List PR) y1 ((1 : Int) : Rat) y11 ((2 : Int) : Rat) y_l19_awake y_l19_awake y_l19_awake y_l19_awake y_l19_awake) [0, 5, 3] k_ k_ k_ k_ k_ rfl (fun y12 _ => ?_)
     refine RD.bq (nl [6, 7, 8]) [1, 2, 14, 15] [] [(1, pt b2), (2, pt b10), (14, ratV y12 (encQ (meanV ([(y1, (encQ ((1 : Int) : Rat))), (y3, (encQ (((-1) : Int) : Rat)))] : List PR) ((1 : Int) : Rat) ((2 : Int) : Rat)))), (15, .int .i64 (meanE ([(y1, (encQ ((1 : Int) : Rat))), (y3, (encQ (((-1) : Int) : Rat)))] : List PR).length ((1 : Int) : Rat) ((2 : Int) : Rat)))] k_ k_ ?_
     refine RD.last (i := 10) (some 0) [1, 2, 15] [b10, b10, b10] k_ k_ k_ (l' := [(1, pt b2), (2, pt b10), (15, .int .i64 (meanE ([(y1, (encQ ((1 : Int) : Rat))), (y3, (encQ (((-1) : Int) : Rat)))] : List PR).length ((1 : Int) : Rat) ((2 : Int) : Rat)))]) (M' := [(b10, .cells (ratC y12 (encQ (meanV ([(y1, (encQ ((1 : Int) : Rat))), (y3, (encQ (((-1) : Int) : Rat)))] : List PR) ((1 : Int) : Rat) ((2 : Int) : Rat)))) 27 (0, 0)), (b2, .cells (ratC y1 (encQ ((1 : Int) : Rat))) 27 (0, 0))]) k_ ?_
     refine RD.bq (nl [11]) [1, 2, 3] [] [(1, pt b2), (2, pt b10), (3, .int .i64 (meanE ([(y1, (encQ ((1 : Int) : Rat))), (y3, (encQ (((-1) : Int) : Rat)))] : List PR).length ((1 : Int) : Rat) ((2 : Int) : Rat)))] k_ k_ ?_
     refine RD.done k_ ?_
     refine KN.meet (y3, b4, y11, y12, b10) [1, 2, 3] [0, 1, 2, 3, 4, 5, 6] (l2 := [(1, pt b2), (2, pt b10), (3, .int .i64 (meanE ([(y1, (encQ ((1 : Int) : Rat))), (y3, (encQ (((-1) : Int) : Rat)))] : List PR).length ((1 : Int) : Rat) ((2 : Int) : Rat)))]) (by exact trivial) k_ (by rfl) (by rfl) (by rfl)
   ·refine RDi.call (i := 4) (r03_FromInt 2 y_l19_awake y_l19_awake) [] k_ k_ k_ k_ rfl (fun y13 _ => ?_)
    refine RD.forkL (is := [2, 9]) k_ rfl k_ ⟨?_, ?_, trivial⟩
    ·refine RDi.new (i := 2) (fun b => .slice (some ⟨b, 0, none⟩) 2 2) (.cells (encR ([(y1, (encQ ((1 : Int) : Rat))), (y3, (encQ (((-1) : Int) : Rat)))] : List PR)) 27 (0, 0)) k_ k_ k_ (fun w => by kernel_rfl) (fun b14 => ?_)
     refine RD.share 0 rfl rfl k_ ?_
     refine RD.also (allRat ([(y1, (encQ ((1 : Int) : Rat))), (y3, (encQ (((-1) : Int) : Rat)))] : List PR)) (fun w h => allRat_cons (h _ (.tail _ ((.tail _ ((.tail _ ((.head _)))))))) (allRat_cons (h _ (.tail _ ((.tail _ ((.head _)))))) (allRat_nil _))) k_ ?_
     refine RD.also (fRats (⟨some ⟨b14, 0, none⟩, 2⟩ : SA) ([(y1, (encQ ((1 : Int) : Rat))), (y3, (encQ (((-1) : Int) : Rat)))] : List PR)) (fun w h => fRats_own (h _ (.tail _ ((.head _)))) (h _ (.head _)) x_ x_) k_ ?_
     refine RD.turn 10 (v := .slice (some ⟨b14, 0, none⟩) 2 2) (v' := sl (⟨some ⟨b14, 0, none⟩, 2⟩ : SA) ([(y1, (encQ ((1 : Int) : Rat))), (y3, (encQ (((-1) : Int) : Rat)))] : List PR).length) k_ (sl_eq x_) ?_
     refine RD.forkL (is := [5, 9]) k_ rfl k_ ⟨?_, ?_, trivial⟩
     ·refine RDi.call (i := 5) (m19_Mean_c (⟨some ⟨b14, 0, none⟩, 2⟩ : SA) ([(y1, (encQ ((1 : Int) : Rat))), (y3, (encQ (((-1) : Int) : Rat)))] : List PR) y1 ((1 : Int) : Rat) y13 ((2 : Int) : Rat) y_l19_awake y_l19_awake y_l19_awake y_l19_awake y_l19_awake) [0, 5, 3] k_ k_ k_ k_ rfl (fun y15 _ => ?_)
      refine RD.bq (nl [6, 7, 8]) [1, 14, 15] [] [(1, pt b2), (14, ratV y15 (encQ (meanV ([(y1, (encQ ((1 : Int) : Rat))), (y3, (encQ (((-1) : Int) : Rat)))] : List PR) ((1 : Int) : Rat) ((2 : Int) : Rat)))), (15, .int .i64 (meanE ([(y1, (encQ ((1 : Int) : Rat))), (y3, (encQ (((-1) : Int) : Rat)))] : List PR).length ((1 : Int) : Rat) ((2 : Int) : Rat)))] k_ k_ ?_
      refine RD.new (i := 9) (fun b => pt b) (.cells (ratC (⟨saNil, saNil⟩ : RA) (⟨false, ([] : List Nat), ([] : List Nat)⟩ : Raw)) 27 (0, 0)) k_ k_ k_ k_ (fun w => by kernel_rfl) (fun b16 => ?_)
      refine RD.last (i := 10) (some 0) [1, 2, 15] [b16, b16, b16] k_ k_ k_ (l' := [(1, pt b2), (2, pt b16), (15, .int .i64 (meanE ([(y1, (encQ ((1 : Int) : Rat))), (y3, (encQ (((-1) : Int) : Rat)))] : List PR).length ((1 : Int) : Rat) ((2 : Int) : Rat)))]) (M' := [(b16, .cells (ratC y15 (encQ (meanV ([(y1, (encQ ((1 : Int) : Rat))), (y3, (encQ (((-1) : Int) : Rat)))] : List PR) ((1 : Int) : Rat) ((2 : Int) : Rat)))) 27 (0, 0)), (b2, .cells (ratC y1 (encQ ((1 : Int) : Rat))) 27 (0, 0))]) k_ ?_
      refine RD.bq (nl [11]) [1, 2, 3] [] [(1, pt b2), (2, pt b16), (3, .int .i64 (meanE ([(y1, (encQ ((1 : Int) : Rat))), (y3, (encQ (((-1) : Int) : Rat)))] : List PR).length ((1 : Int) : Rat) ((2 : Int) : Rat)))] k_ k_ ?_
      refine RD.done k_ ?_
      refine KN.meet (y3, b14, y13, y15, b16) [1, 2, 3] [0, 1, 2, 3, 4, 5, 6] (l2 := [(1, pt b2), (2, pt b16), (3, .int .i64 (meanE ([(y1, (encQ ((1 : Int) : Rat))), (y3, (encQ (((-1) : Int) : Rat)))] : List PR).length ((1 : Int) : Rat) ((2 : Int) : Rat)))]) (by exact trivial) k_ (by rfl) (by rfl) (by rfl)
     ·refine RDi.new (i := 9) (fun b => pt b) (.cells (ratC (⟨saNil, saNil⟩ : RA) (⟨false, ([] : List Nat), ([] : List Nat)⟩ : Raw)) 27 (0, 0)) k_ k_ k_ (fun w => by kernel_rfl) (fun b17 => ?_)
      refine RD.call (i := 5) (m19_Mean_c (⟨some ⟨b14, 0, none⟩, 2⟩ : SA) ([(y1, (encQ ((1 : Int) : Rat))), (y3, (encQ (((-1) : Int) : Rat)))] : List PR) y1 ((1 : Int) : Rat) y13 ((2 : Int) : Rat) y_l19_awake y_l19_awake y_l19_awake y_l19_awake y_l19_awake) [0, 5, 3] k_ k_ k_ k_ k_ rfl (fun y18 _ => ?_)
      refine RD.bq (nl [6, 7, 8]) [1, 2, 14, 15] [] [(1, pt b2), (2, pt b17), (14, ratV y18 (encQ (meanV ([(y1, (encQ ((1 : Int) : Rat))), (y3, (encQ (((-1) : Int) : Rat)))] : List PR) ((1 : Int) : Rat) ((2 : Int) : Rat)))), (15, .int .i64 (meanE ([(y1, (encQ ((1 : Int) : Rat))), (y3, (encQ (((-1) : Int) : Rat)))] : List PR).length ((1 : Int) : Rat) ((2 : Int) : Rat)))] k_ k_ ?_
      refine RD.last (i := 10) (some 0) [1, 2, 15] [b17, b17, b17] k_ k_ k_ (l' := [(1, pt b2), (2, pt b17), (15, .int .i64 (meanE ([(y1, (encQ ((1 : Int) : Rat))), (y3, (encQ (((-1) : Int) : Rat)))] : List PR).length ((1 : Int) : Rat) ((2 : Int) : Rat)))]) (M' := [(b17, .cells (ratC y18 (encQ (meanV ([(y1, (encQ ((1 : Int) : Rat))), (y3, (encQ (((-1) : Int) : Rat)))] : List PR) ((1 : Int) : Rat) ((2 : Int) : Rat)))) 27 (0, 0)), (b2, .cells (ratC y1 (encQ ((1 : Int) : Rat))) 27 (0, 0))]) k_ ?_
      refine RD.bq (nl [11]) [1, 2, 3] [] [(1, pt b2), (2, pt b17), (3, .int .i64 (meanE ([(y1, (encQ ((1 : Int) : Rat))), (y3, (encQ (((-1) : Int) : Rat)))] : List PR).length ((1 : Int) : Rat) ((2 : Int) : Rat)))] k_ k_ ?_
      refine RD.done k_ ?_
      refine KN.meet (y3, b14, y13, y18, b17) [1, 2, 3] [0, 1, 2, 3, 4, 5, 6] (l2 := [(1, pt b2), (2, pt b17), (3, .int .i64 (meanE ([(y1, (encQ ((1 : Int) : Rat))), (y3, (encQ (((-1) : Int) : Rat)))] : List PR).length ((1 : Int) : Rat) ((2 : Int) : Rat)))]) (by exact trivial) k_ (by rfl) (by rfl) (by rfl)
    ·refine RDi.new (i := 9) (fun b => pt b) (.cells (ratC (⟨saNil, saNil⟩ : RA) (⟨false, ([] : List Nat), ([] : List Nat)⟩ : Raw)) 27 (0, 0)) k_ k_ k_ (fun w => by kernel_rfl) (fun b19 => ?_)
     refine RD.new (i := 2) (fun b => .slice (some ⟨b, 0, none⟩) 2 2) (.cells (encR ([(y1, (encQ ((1 : Int) : Rat))), (y3, (encQ (((-1) : Int) : Rat)))] : List PR)) 27 (0, 0)) k_ k_ k_ k_ (fun w => by kernel_rfl) (fun b20 => ?_)
     refine RD.share 0 rfl rfl k_ ?_
     refine RD.also (allRat ([(y1, (encQ ((1 : Int) : Rat))), (y3, (encQ (((-1) : Int) : Rat)))] : List PR)) (fun w h => allRat_cons (h _ (.tail _ ((.tail _ ((.tail _ ((.head _)))))))) (allRat_cons (h _ (.tail _ ((.tail _ ((.head _)))))) (allRat_nil _))) k_ ?_
     refine RD.also (fRats (⟨some ⟨b20, 0, none⟩, 2⟩ : SA) ([(y1, (encQ ((1 : Int) : Rat))), (y3, (encQ (((-1) : Int) : Rat)))] : List PR)) (fun w h => fRats_own (h _ (.tail _ ((.head _)))) (h _ (.head _)) x_ x_) k_ ?_
     refine RD.turn 10 (v := .slice (some ⟨b20, 0, none⟩) 2 2) (v' := sl (⟨some ⟨b20, 0, none⟩, 2⟩ : SA) ([(y1, (encQ ((1 : Int) : Rat))), (y3, (encQ (((-1) : Int) : Rat)))] : List PR).length) k_ (sl_eq x_) ?_
     refine RD.call (i := 5) (m19_Mean_c (⟨some ⟨b20, 0, none⟩, 2⟩ : SA) ([(y1, (encQ ((1 : Int) : Rat))), (y3, (encQ (((-1) : Int) : Rat)))] : List PR) y1 ((1 : Int) : Rat) y13 ((2 : Int) : Rat) y_l19_awake y_l19_awake y_l19_awake y_l19_awake y_l19_awake) [0, 5, 3] k_ k_ k_ k_ k_ rfl (fun y21 _ => ?_)
     refine RD.bq (nl [6, 7, 8]) [1, 2, 14, 15] [] [(1, pt b2), (2, pt b19), (14, ratV y21 (encQ (meanV ([(y1, (encQ ((1 : Int) : Rat))), (y3, (encQ (((-1) : Int) : Rat)))] : List PR) ((1 : Int) : Rat) ((2 : Int) : Rat)))), (15, .int .i64 (meanE ([(y1, (encQ ((1 : Int) : Rat))), (y3, (encQ (((-1) : Int) : Rat)))] : List PR).length ((1 : Int) : Rat) ((2 : Int) : Rat)))] k_ k_ ?_
     refine RD.last (i := 10) (some 0) [1, 2, 15] [b19, b19, b19] k_ k_ k_ (l' := [(1, pt b2), (2, pt b19), (15, .int .i64 (meanE ([(y1, (encQ ((1 : Int) : Rat))), (y3, (encQ (((-1) : Int) : Rat)))] : List PR).length ((1 : Int) : Rat) ((2 : Int) : Rat)))]) (M' := [(b19, .cells (ratC y21 (encQ (meanV ([(y1, (encQ ((1 : Int) : Rat))), (y3, (encQ (((-1) : Int) : Rat)))] : List PR) ((1 : Int) : Rat) ((2 : Int) : Rat)))) 27 (0, 0)), (b2, .cells (ratC y1 (encQ ((1 : Int) : Rat))) 27 (0, 0))]) k_ ?_
     refine RD.bq (nl [11]) [1, 2, 3] [] [(1, pt b2), (2, pt b19), (3, .int .i64 (meanE ([(y1, (encQ ((1 : Int) : Rat))), (y3, (encQ (((-1) : Int) : Rat)))] : List PR).length ((1 : Int) : Rat) ((2 : Int) : Rat)))] k_ k_ ?_
     refine RD.done k_ ?_
     refine KN.meet (y3, b20, y13, y21, b19) [1, 2, 3] [0, 1, 2, 3, 4, 5, 6] (l2 := [(1, pt b2), (2, pt b19), (3, .int .i64 (meanE ([(y1, (encQ ((1 : Int) : Rat))), (y3, (encQ (((-1) : Int) : Rat)))] : List PR).length ((1 : Int) : Rat) ((2 : Int) : Rat)))]) (by exact trivial) k_ (by rfl) (by rfl) (by rfl)
   ·refine RDi.new (i := 9) (fun b => pt b) (.cells (ratC (⟨saNil, saNil⟩ : RA) (⟨false, ([] : List Nat), ([] : List Nat)⟩ : Raw)) 27 (0, 0)) k_ k_ k_ (fun w => by kernel_rfl) (fun b22 => ?_)
    refine RD.forkL (is := [2, 4]) k_ rfl k_ ⟨?_, ?_, trivial⟩
    ·refine RDi.new (i := 2) (fun b => .slice (some ⟨b, 0, none⟩) 2 2) (.cells (encR ([(y1, (encQ ((1 : Int) : Rat))), (y3, (encQ (((-1) : Int) : Rat)))] : List PR)) 27 (0, 0)) k_ k_ k_ (fun w => by kernel_rfl) (fun b23 => ?_)
     refine RD.call (i := 4) (r03_FromInt 2 y_l19_awake y_l19_awake) [] k_ k_ k_ k_ k_ rfl (fun y24 _ => ?_)
     refine RD.share 0 rfl rfl k_ ?_
     refine RD.also (allRat ([(y1, (encQ ((1 : Int) : Rat))), (y3, (encQ (((-1) : Int) : Rat)))] : List PR)) (fun w h => allRat_cons (h _ (.tail _ ((.tail _ ((.tail _ ((.head _)))))))) (allRat_cons (h _ (.tail _ ((.tail _ ((.head _)))))) (allRat_nil _))) k_ ?_
     refine RD.also (fRats (⟨some ⟨b23, 0, none⟩, 2⟩ : SA) ([(y1, (encQ ((1 : Int) : Rat))), (y3, (encQ (((-1) : Int) : Rat)))] : List PR)) (fun w h => fRats_own (h _ (.tail _ ((.head _)))) (h _ (.head _)) x_ x_) k_ ?_
     refine RD.turn 10 (v := .slice (some ⟨b23, 0, none⟩) 2 2) (v' := sl (⟨some ⟨b23, 0, none⟩, 2⟩ : SA) ([(y1, (encQ ((1 : Int) : Rat))), (y3, (encQ (((-1) : Int) : Rat)))] : List PR).length) k_ (sl_eq x_) ?_
     refine RD.call (i := 5) (m19_Mean_c (⟨some ⟨b23, 0, none⟩, 2⟩ : SA) ([(y1, (encQ ((1 : Int) : Rat))), (y3, (encQ (((-1) : Int) : Rat)))] : List PR) y1 ((1 : Int) : Rat) y24 ((2 : Int) : Rat) y_l19_awake y_l19_awake y_l19_awake y_l19_awake y_l19_awake) [0, 5, 3] k_ k_ k_ k_ k_ rfl (fun y25 _ => ?_)
     refine RD.bq (nl [6, 7, 8]) [1, 2, 14, 15] [] [(1, pt b2), (2, pt b22), (14, ratV y25 (encQ (meanV ([(y1, (encQ ((1 : Int) : Rat))), (y3, (encQ (((-1) : Int) : Rat)))] : List PR) ((1 : Int) : Rat) ((2 : Int) : Rat)))), (15, .int .i64 (meanE ([(y1, (encQ ((1 : Int) : Rat))), (y3, (encQ (((-1) : Int) : Rat)))] : List PR).length ((1 : Int) : Rat) ((2 : Int) : Rat)))] k_ k_ ?_
     refine RD.last (i := 10) (some 0) [1, 2, 15] [b22, b22, b22] k_ k_ k_ (l' := [(1, pt b2), (2, pt b22), (15, .int .i64 (meanE ([(y1, (encQ ((1 : Int) : Rat))), (y3, (encQ (((-1) : Int) : Rat)))] : List PR).length ((1 : Int) : Rat) ((2 : Int) : Rat)))]) (M' := [(b22, .cells (ratC y25 (encQ (meanV ([(y1, (encQ ((1 : Int) : Rat))), (y3, (encQ (((-1) : Int) : Rat)))] : List PR) ((1 : Int) : Rat) ((2 : Int) : Rat)))) 27 (0, 0)), (b2, .cells (ratC y1 (encQ ((1 : Int) : Rat))) 27 (0, 0))]) k_ ?_
     refine RD.bq (nl [11]) [1, 2, 3] [] [(1, pt b2), (2, pt b22), (3, .int .i64 (meanE ([(y1, (encQ ((1 : Int) : Rat))), (y3, (encQ (((-1) : Int) : Rat)))] : List PR).length ((1 : Int) : Rat) ((2 : Int) : Rat)))] k_ k_ ?_
     refine RD.done k_ ?_
     refine KN.meet (y3, b23, y24, y25, b22) [1, 2, 3] [0, 1, 2, 3, 4, 5, 6] (l2 := [(1, pt b2), (2, pt b22), (3, .int .i64 (meanE ([(y1, (encQ ((1 : Int) : Rat))), (y3, (encQ (((-1) : Int) : Rat)))] : List PR).length ((1 : Int) : Rat) ((2 : Int) : Rat)))]) (by exact trivial) k_ (by rfl) (by rfl) (by rfl)
    ·refine RDi.call (i := 4) (r03_FromInt 2 y_l19_awake y_l19_awake) [] k_ k_ k_ k_ rfl (fun y26 _ => ?_)
     refine RD.new (i := 2) (fun b => .slice (some ⟨b, 0, none⟩) 2 2) (.cells (encR ([(y1, (encQ ((1 : Int) : Rat))), (y3, (encQ (((-1) : Int) : Rat)))] : List PR)) 27 (0, 0)) k_ k_ k_ k_ (fun w => by kernel_rfl) (fun b27 => ?_)
     refine RD.share 0 rfl rfl k_ ?_
     refine RD.also (allRat ([(y1, (encQ ((1 : Int) : Rat))), (y3, (encQ (((-1) : Int) : Rat)))] : List PR)) (fun w h => allRat_cons (h _ (.tail _ ((.tail _ ((.tail _ ((.head _)))))))) (allRat_cons (h _ (.tail _ ((.tail _ ((.head _)))))) (allRat_nil _))) k_ ?_
     refine RD.also (fRats (⟨some ⟨b27, 0, none⟩, 2⟩ : SA) ([(y1, (encQ ((1 : Int) : Rat))), (y3, (encQ (((-1) : Int) : Rat)))] : List PR)) (fun w h => fRats_own (h _ (.tail _ ((.head _)))) (h _ (.head _)) x_ x_) k_ ?_
     refine RD.turn 10 (v := .slice (some ⟨b27, 0, none⟩) 2 2) (v' := sl (⟨some ⟨b27, 0, none⟩, 2⟩ : SA) ([(y1, (encQ ((1 : Int) : Rat))), (y3, (encQ (((-1) : Int) : Rat)))] : List PR).length) k_ (sl_eq x_) ?_
     refine RD.call (i := 5) (m19_Mean_c (⟨some ⟨b27, 0, none⟩, 2⟩ : SA) ([(y1, (encQ ((1 : Int) : Rat))), (y3, (encQ (((-1) : Int) : Rat)))] : List PR) y1 ((1 : Int) : Rat) y26 ((2 : Int) : Rat) y_l19_awake y_l19_awake y_l19_awake y_l19_awake y_l19_awake) [0, 5, 3] k_ k_ k_ k_ k_ rfl (fun y28 _ => ?_)
     refine RD.bq (nl [6, 7, 8]) [1, 2, 14, 15] [] [(1, pt b2), (2, pt b22), (14, ratV y28 (encQ (meanV ([(y1, (encQ ((1 : Int) : Rat))), (y3, (encQ (((-1) : Int) : Rat)))] : List PR) ((1 : Int) : Rat) ((2 : Int) : Rat)))), (15, .int .i64 (meanE ([(y1, (encQ ((1 : Int) : Rat))), (y3, (encQ (((-1) : Int) : Rat)))] : List PR).length ((1 : Int) : Rat) ((2 : Int) : Rat)))] k_ k_ ?_
     refine RD.last (i := 10) (some 0) [1, 2, 15] [b22, b22, b22] k_ k_ k_ (l' := [(1, pt b2), (2, pt b22), (15, .int .i64 (meanE ([(y1, (encQ ((1 : Int) : Rat))), (y3, (encQ (((-1) : Int) : Rat)))] : List PR).length ((1 : Int) : Rat) ((2 : Int) : Rat)))]) (M' := [(b22, .cells (ratC y28 (encQ (meanV ([(y1, (encQ ((1 : Int) : Rat))), (y3, (encQ (((-1) : Int) : Rat)))] : List PR) ((1 : Int) : Rat) ((2 : Int) : Rat)))) 27 (0, 0)), (b2, .cells (ratC y1 (encQ ((1 : Int) : Rat))) 27 (0, 0))]) k_ ?_
     refine RD.bq (nl [11]) [1, 2, 3] [] [(1, pt b2), (2, pt b22), (3, .int .i64 (meanE ([(y1, (encQ ((1 : Int) : Rat))), (y3, (encQ (((-1) : Int) : Rat)))] : List PR).length ((1 : Int) : Rat) ((2 : Int) : Rat)))] k_ k_ ?_
     refine RD.done k_ ?_
     refine KN.meet (y3, b27, y26, y28, b22) [1, 2, 3] [0, 1, 2, 3, 4, 5, 6] (l2 := [(1, pt b2), (2, pt b22), (3, .int .i64 (meanE ([(y1, (encQ ((1 : Int) : Rat))), (y3, (encQ (((-1) : Int) : Rat)))] : List PR).length ((1 : Int) : Rat) ((2 : Int) : Rat)))]) (by exact trivial) k_ (by rfl) (by rfl) (by rfl)
  ·refine RDi.new (i := 9) (fun b => pt b) (.cells (ratC (⟨saNil, saNil⟩ : RA) (⟨false, ([] : List Nat), ([] : List Nat)⟩ : Raw)) 27 (0, 0)) k_ k_ k_ (fun w => by kernel_rfl) (fun b29 => ?_)
   refine RD.call (i := 1) (r03_FromInt (-1) y_l19_awake y_l19_awake) [] k_ k_ k_ k_ k_ rfl (fun y30 _ => ?_)
   refine RD.forkL (is := [2, 4]) k_ rfl k_ ⟨?_, ?_, trivial⟩
   ·refine RDi.new (i := 2) (fun b => .slice (some ⟨b, 0, none⟩) 2 2) (.cells (encR ([(y1, (encQ ((1 : Int) : Rat))), (y30, (encQ (((-1) : Int) : Rat)))] : List PR)) 27 (0, 0)) k_ k_ k_ (fun w => by kernel_rfl) (fun b31 => ?_)
    refine RD.call (i := 4) (r03_FromInt 2 y_l19_awake y_l19_awake) [] k_ k_ k_ k_ k_ rfl (fun y32 _ => ?_)
    refine RD.share 0 rfl rfl k_ ?_
    refine RD.also (allRat ([(y1, (encQ ((1 : Int) : Rat))), (y30, (encQ (((-1) : Int) : Rat)))] : List PR)) (fun w h => allRat_cons (h _ (.tail _ ((.tail _ ((.tail _ ((.head _)))))))) (allRat_cons (h _ (.tail _ ((.tail _ ((.head _)))))) (allRat_nil _))) k_ ?_
    refine RD.also (fRats (⟨some ⟨b31, 0, none⟩, 2⟩ : SA) ([(y1, (encQ ((1 : Int) : Rat))), (y30, (encQ (((-1) : Int) : Rat)))] : List PR)) (fun w h => fRats_own (h _ (.tail _ ((.head _)))) (h _ (.head _)) x_ x_) k_ ?_
    refine RD.turn 10 (v := .slice (some ⟨b31, 0, none⟩) 2 2) (v' := sl (⟨some ⟨b31, 0, none⟩, 2⟩ : SA) ([(y1, (encQ ((1 : Int) : Rat))), (y30, (encQ (((-1) : Int) : Rat)))] : List PR).length) k_ (sl_eq x_) ?_
    refine RD.call (i := 5) (m19_Mean_c (⟨some ⟨b31, 0, none⟩, 2⟩ : SA) ([(y1, (encQ ((1 : Int) : Rat))), (y30, (encQ (((-1) : Int) : Rat)))] : List PR) y1 ((1 : Int) : Rat) y32 ((2 : Int) : Rat) y_l19_awake y_l19_awake y_l19_awake y_l19_awake y_l19_awake) [0, 5, 3] k_ k_ k_ k_ k_ rfl (fun y33 _ => ?_)
    refine RD.bq (nl [6, 7, 8]) [1, 2, 14, 15] [] [(1, pt b2), (2, pt b29), (14, ratV y33 (encQ (meanV ([(y1, (encQ ((1 : Int) : Rat))), (y30, (encQ (((-1) : Int) : Rat)))] : List PR) ((1 : Int) : Rat) ((2 : Int) : Rat)))), (15, .int .i64 (meanE ([(y1, (encQ ((1 : Int) : Rat))), (y30, (encQ (((-1) : Int) : Rat)))] : List PR).length ((1 : Int) : Rat) ((2 : Int) : Rat)))] k_ k_ ?_
    refine RD.last (i := 10) (some 0) [1, 2, 15] [b29, b29, b29] k_ k_ k_ (l' := [(1, pt b2), (2, pt b29), (15, .int .i64 (meanE ([(y1, (encQ ((1 : Int) : Rat))), (y30, (encQ (((-1) : Int) : Rat)))] : List PR).length ((1 : Int) : Rat) ((2 : Int) : Rat)))]) (M' := [(b29, .cells (ratC y33 (encQ (meanV ([(y1, (encQ ((1 : Int) : Rat))), (y30, (encQ (((-1) : Int) : Rat)))] : List PR) ((1 : Int) : Rat) ((2 : Int) : Rat)))) 27 (0, 0)), (b2, .cells (ratC y1 (encQ ((1 : Int) : Rat))) 27 (0, 0))]) k_ ?_
    refine RD.bq (nl [11]) [1, 2, 3] [] [(1, pt b2), (2, pt b29), (3, .int .i64 (meanE ([(y1, (encQ ((1 : Int) : Rat))), (y30, (encQ (((-1) : Int) : Rat)))] : List PR).length ((1 : Int) : Rat) ((2 : Int) : Rat)))] k_ k_ ?_
    refine RD.done k_ ?_
    refine KN.meet (y30, b31, y32, y33, b29) [1, 2, 3] [0, 1, 2, 3, 4, 5, 6] (l2 := [(1, pt b2), (2, pt b29), (3, .int .i64 (meanE ([(y1, (encQ ((1 : Int) : Rat))), (y30, (encQ (((-1) : Int) : Rat)))] : List PR).length ((1 : Int) : Rat) ((2 : Int) : Rat)))]) (by exact trivial) k_ (by rfl) (by rfl) (by rfl)
   ·refine RDi.call (i := 4) (r03_FromInt 2 y_l19_awake y_l19_awake) [] k_ k_ k_ k_ rfl (fun y34 _ => ?_)
    refine RD.new (i := 2) (fun b => .slice (some ⟨b, 0, none⟩) 2 2) (.cells (encR ([(y1, (encQ ((1 : Int) : Rat))), (y30, (encQ (((-1) : Int) : Rat)))] : List PR)) 27 (0, 0)) k_ k_ k_ k_ (fun w => by kernel_rfl) (fun b35 => ?_)
    refine RD.share 0 rfl rfl k_ ?_
    refine RD.also (allRat ([(y1, (encQ ((1 : Int) : Rat))), (y30, (encQ (((-1) : Int) : Rat)))] : List PR)) (fun w h => allRat_cons (h _ (.tail _ ((.tail _ ((.tail _ ((.head _)))))))) (allRat_cons (h _ (.tail _ ((.tail _ ((.head _)))))) (allRat_nil _))) k_ ?_
    refine RD.also (fRats (⟨some ⟨b35, 0, none⟩, 2⟩ : SA) ([(y1, (encQ ((1 : Int) : Rat))), (y30, (encQ (((-1) : Int) : Rat)))] : List PR)) (fun w h => fRats_own (h _ (.tail _ ((.head _)))) (h _ (.head _)) x_ x_) k_ ?_
    refine RD.turn 10 (v := .slice (some ⟨b35, 0, none⟩) 2 2) (v' := sl (⟨some ⟨b35, 0, none⟩, 2⟩ : SA) ([(y1, (encQ ((1 : Int) : Rat))), (y30, (encQ (((-1) : Int) : Rat)))] : List PR).length) k_ (sl_eq x_) ?_
    refine RD.call (i := 5) (m19_Mean_c (⟨some ⟨b35, 0, none⟩, 2⟩ : SA) ([(y1, (encQ ((1 : Int) : Rat))), (y30, (encQ (((-1) : Int) : Rat)))] : List PR) y1 ((1 : Int) : Rat) y34 ((2 : Int) : Rat) y_l19_awake y_l19_awake y_l19_awake y_l19_awake y_l19_awake) [0, 5, 3] k_ k_ k_ k_ k_ rfl (fun y36 _ => ?_)
    refine RD.bq (nl [6, 7, 8]) [1, 2, 14, 15] [] [(1, pt b2), (2, pt b29), (14, ratV y36 (encQ (meanV ([(y1, (encQ ((1 : Int) : Rat))), (y30, (encQ (((-1) : Int) : Rat)))] : List PR) ((1 : Int) : Rat) ((2 : Int) : Rat)))), (15, .int .i64 (meanE ([(y1, (encQ ((1 : Int) : Rat))), (y30, (encQ (((-1) : Int) : Rat)))] : List PR).length ((1 : Int) : Rat) ((2 : Int) : Rat)))] k_ k_ ?_
    refine RD.last (i := 10) (some 0) [1, 2, 15] [b29, b29, b29] k_ k_ k_ (l' := [(1, pt b2), (2, pt b29), (15, .int .i64 (meanE ([(y1, (encQ ((1 : Int) : Rat))), (y30, (encQ (((-1) : Int) : Rat)))] : List PR).length ((1 : Int) : Rat) ((2 : Int) : Rat)))]) (M' := [(b29, .cells (ratC y36 (encQ (meanV ([(y1, (encQ ((1 : Int) : Rat))), (y30, (encQ (((-1) : Int) : Rat)))] : List PR) ((1 : Int) : Rat) ((2 : Int) : Rat)))) 27 (0, 0)), (b2, .cells (ratC y1 (encQ ((1 : Int) : Rat))) 27 (0, 0))]) k_ ?_
    refine RD.bq (nl [11]) [1, 2, 3] [] [(1, pt b2), (2, pt b29), (3, .int .i64 (meanE ([(y1, (encQ ((1 : Int) : Rat))), (y30, (encQ (((-1) : Int) : Rat)))] : List PR).length ((1 : Int) : Rat) ((2 : Int) : Rat)))] k_ k_ ?_
    refine RD.done k_ ?_
    refine KN.meet (y30, b35, y34, y36, b29) [1, 2, 3] [0, 1, 2, 3, 4, 5, 6] (l2 := [(1, pt b2), (2, pt b29), (3, .int .i64 (meanE ([(y1, (encQ ((1 : Int) : Rat))), (y30, (encQ (((-1) : Int) : Rat)))] : List PR).length ((1 : Int) : Rat) ((2 : Int) : Rat)))]) (by exact trivial) k_ (by rfl) (by rfl) (by rfl)
 ·intro x37 hx38
  obtain ⟨y3, b4, y5, y6, b7⟩ := x37
  replace hx38 : True := hx38
  refine J.seqC (ι := (RA) × (Nat) × (RA) × (RA × RA × Rat × Rat) × (Nat)) (fun x => (ScaleR (vals ([((⟨saNil, saNil⟩ : RA), (⟨false, ([] : List Nat), ([] : List Nat)⟩ : Raw)), ((⟨saNil, saNil⟩ : RA), (⟨false, ([] : List Nat), ([] : List Nat)⟩ : Raw)), ((⟨saNil, saNil⟩ : RA), (⟨false, ([] : List Nat), ([] : List Nat)⟩ : Raw)), (x.1, (encQ ((5 : Int) : Rat)))] : List PR)) ([((⟨saNil, saNil⟩ : RA), (⟨false, ([] : List Nat), ([] : List Nat)⟩ : Raw)), ((⟨saNil, saNil⟩ : RA), (⟨false, ([] : List Nat), ([] : List Nat)⟩ : Raw)), ((⟨saNil, saNil⟩ : RA), (⟨false, ([] : List Nat), ([] : List Nat)⟩ : Raw)), (x.1, (encQ ((5 : Int) : Rat)))] : List PR).length ((1 : Int) : Rat) (((1 : Int) : Rat) / ((4 : Int) : Rat)) 3 x.2.2.2.1.2.2.1 x.2.2.2.1.2.2.2)) (fun x => [(2, pt b7), (3, .int .i64 (meanE ([(y1, (encQ ((1 : Int) : Rat))), (y3, (encQ (((-1) : Int) : Rat)))] : List PR).length ((1 : Int) : Rat) ((2 : Int) : Rat))), (4, .pointer (some ⟨x.2.2.2.2, 0, none⟩)), (5, .int .i64 (checkE ([((⟨saNil, saNil⟩ : RA), (⟨false, ([] : List Nat), ([] : List Nat)⟩ : Raw)), ((⟨saNil, saNil⟩ : RA), (⟨false, ([] : List Nat), ([] : List Nat)⟩ : Raw)), ((⟨saNil, saNil⟩ : RA), (⟨false, ([] : List Nat), ([] : List Nat)⟩ : Raw)), (x.1, (encQ ((5 : Int) : Rat)))] : List PR).length ((1 : Int) : Rat) (((1 : Int) : Rat) / ((4 : Int) : Rat)) 3))]) (fun x => [(x.2.2.2.2, .cells (ivC x.2.2.2.1.1 (encQ x.2.2.2.1.2.2.1) x.2.2.2.1.2.1 (encQ x.2.2.2.1.2.2.2)) 38 (0, 0)), (b7, .cells (ratC y6 (encQ (meanV ([(y1, (encQ ((1 : Int) : Rat))), (y3, (encQ (((-1) : Int) : Rat)))] : List PR) ((1 : Int) : Rat) ((2 : Int) : Rat)))) 27 (0, 0)), (b2, .cells (ratC y1 (encQ ((1 : Int) : Rat))) 27 (0, 0))]) (fun x => [fRat x.2.2.2.1.1 (encQ x.2.2.2.1.2.2.1), fRat x.2.2.2.1.2.1 (encQ x.2.2.2.1.2.2.2), fRats (⟨some ⟨x.2.1, 0, none⟩, 4⟩ : SA) ([((⟨saNil, saNil⟩ : RA), (⟨false, ([] : List Nat), ([] : List Nat)⟩ : Raw)), ((⟨saNil, saNil⟩ : RA), (⟨false, ([] : List Nat), ([] : List Nat)⟩ : Raw)), ((⟨saNil, saNil⟩ : RA), (⟨false, ([] : List Nat), ([] : List Nat)⟩ : Raw)), (x.1, (encQ ((5 : Int) : Rat)))] : List PR), allRat ([((⟨saNil, saNil⟩ : RA), (⟨false, ([] : List Nat), ([] : List Nat)⟩ : Raw)), ((⟨saNil, saNil⟩ : RA), (⟨false, ([] : List Nat), ([] : List Nat)⟩ : Raw)), ((⟨saNil, saNil⟩ : RA), (⟨false, ([] : List Nat), ([] : List Nat)⟩ : Raw)), (x.1, (encQ ((5 : Int) : Rat)))] : List PR), fRat (⟨saNil, saNil⟩ : RA) (⟨false, ([] : List Nat), ([] : List Nat)⟩ : Raw), fBlk x.2.1 (.cells (encR ([((⟨saNil, saNil⟩ : RA), (⟨false, ([] : List Nat), ([] : List Nat)⟩ : Raw)), ((⟨saNil, saNil⟩ : RA), (⟨false, ([] : List Nat), ([] : List Nat)⟩ : Raw)), ((⟨saNil, saNil⟩ : RA), (⟨false, ([] : List Nat), ([] : List Nat)⟩ : Raw)), (x.1, (encQ ((5 : Int) : Rat)))] : List PR)) 27 (0, 0)), fRat x.2.2.1 (encQ (((1 : Int) : Rat) / ((4 : Int) : Rat))), fRat x.1 (encQ ((5 : Int) : Rat)), fRat y6 (encQ (meanV ([(y1, (encQ ((1 : Int) : Rat))), (y3, (encQ (((-1) : Int) : Rat)))] : List PR) ((1 : Int) : Rat) ((2 : Int) : Rat))), fRats (⟨some ⟨b4, 0, none⟩, 2⟩ : SA) ([(y1, (encQ ((1 : Int) : Rat))), (y3, (encQ (((-1) : Int) : Rat)))] : List PR), allRat ([(y1, (encQ ((1 : Int) : Rat))), (y3, (encQ (((-1) : Int) : Rat)))] : List PR), fBlk b4 (.cells (encR ([(y1, (encQ ((1 : Int) : Rat))), (y3, (encQ (((-1) : Int) : Rat)))] : List PR)) 27 (0, 0)), fRat y5 (encQ ((2 : Int) : Rat)), fRat y3 (encQ (((-1) : Int) : Rat)), fRat y1 (encQ ((1 : Int) : Rat))]) ?_ ?_
  ·refine J.regD k_ [12] ?_
   refine RD.bq [(0, none), (1, none), (2, none), (5, some 1)] [2, 3, 17, 18, 19, 22] [b2, b2, b2] [(2, pt b7), (3, .int .i64 (meanE ([(y1, (encQ ((1 : Int) : Rat))), (y3, (encQ (((-1) : Int) : Rat)))] : List PR).length ((1 : Int) : Rat) ((2 : Int) : Rat))), (17, ratV (⟨saNil, saNil⟩ : RA) (⟨false, ([] : List Nat), ([] : List Nat)⟩ : Raw)), (18, ratV (⟨saNil, saNil⟩ : RA) (⟨false, ([] : List Nat), ([] : List Nat)⟩ : Raw)), (19, ratV (⟨saNil, saNil⟩ : RA) (⟨false, ([] : List Nat), ([] : List Nat)⟩ : Raw)), (22, ratV y1 (encQ ((1 : Int) : Rat)))] k_ k_ ?_
   refine RD.forkL (is := [3, 11]) k_ rfl k_ ⟨?_, ?_, trivial⟩
   ·refine RDi.call (i := 3) (r03_FromInt 5 y_l19_awake y_l19_awake) [] k_ k_ k_ k_ rfl (fun y39 _ => ?_)
    refine RD.forkL (is := [4, 6, 11]) k_ rfl k_ ⟨?_, ?_, ?_, trivial⟩
    ·refine RDi.new (i := 4) (fun b => .slice (some ⟨b, 0, none⟩) 4 4) (.cells (encR ([((⟨saNil, saNil⟩ : RA), (⟨false, ([] : List Nat), ([] : List Nat)⟩ : Raw)), ((⟨saNil, saNil⟩ : RA), (⟨false, ([] : List Nat), ([] : List Nat)⟩ : Raw)), ((⟨saNil, saNil⟩ : RA), (⟨false, ([] : List Nat), ([] : List Nat)⟩ : Raw)), (y39, (encQ ((5 : Int) : Rat)))] : List PR)) 27 (0, 0)) k_ k_ k_ (fun w => by kernel_rfl) (fun b40 => ?_)
     refine RD.forkL (is := [6, 11]) k_ rfl k_ ⟨?_, ?_, trivial⟩
     ·refine RDi.call (i := 6) (r03_Fraction 1 4 y_l19_awake y_l19_awake y_l19_awake y_l19_awake y_l19_awake) [] k_ k_ k_ k_ rfl (fun y41 _ => ?_)
      refine RD.share 0 rfl rfl k_ ?_
      refine RD.also (fRat (⟨saNil, saNil⟩ : RA) (⟨false, ([] : List Nat), ([] : List Nat)⟩ : Raw)) (fun w h => ⟨fU_nil w, fU_nil w⟩) k_ ?_
      refine RD.also (allRat ([((⟨saNil, saNil⟩ : RA), (⟨false, ([] : List Nat), ([] : List Nat)⟩ : Raw)), ((⟨saNil, saNil⟩ : RA), (⟨false, ([] : List Nat), ([] : List Nat)⟩ : Raw)), ((⟨saNil, saNil⟩ : RA), (⟨false, ([] : List Nat), ([] : List Nat)⟩ : Raw)), (y39, (encQ ((5 : Int) : Rat)))] : List PR)) (fun w h => allRat_cons (h _ (.head _)) (allRat_cons (h _ (.head _)) (allRat_cons (h _ (.head _)) (allRat_cons (h _ (.tail _ ((.tail _ ((.tail _ ((.head _)))))))) (allRat_nil _))))) k_ ?_
      refine RD.also (fRats (⟨some ⟨b40, 0, none⟩, 4⟩ : SA) ([((⟨saNil, saNil⟩ : RA), (⟨false, ([] : List Nat), ([] : List Nat)⟩ : Raw)), ((⟨saNil, saNil⟩ : RA), (⟨false, ([] : List Nat), ([] : List Nat)⟩ : Raw)), ((⟨saNil, saNil⟩ : RA), (⟨false, ([] : List Nat), ([] : List Nat)⟩ : Raw)), (y39, (encQ ((5 : Int) : Rat)))] : List PR)) (fun w h => fRats_own (h _ (.tail _ ((.tail _ ((.head _)))))) (h _ (.head _)) x_ x_) k_ ?_
      refine RD.turn 21 (v := .slice (some ⟨b40, 0, none⟩) 4 4) (v' := sl (⟨some ⟨b40, 0, none⟩, 4⟩ : SA) ([((⟨saNil, saNil⟩ : RA), (⟨false, ([] : List Nat), ([] : List Nat)⟩ : Raw)), ((⟨saNil, saNil⟩ : RA), (⟨false, ([] : List Nat), ([] : List Nat)⟩ : Raw)), ((⟨saNil, saNil⟩ : RA), (⟨false, ([] : List Nat), ([] : List Nat)⟩ : Raw)), (y39, (encQ ((5 : Int) : Rat)))] : List PR).length) k_ (sl_eq x_) ?_
      refine RD.forkL (is := [7, 11]) k_ rfl k_ ⟨?_, ?_, trivial⟩
      ·refine RDi.call (i := 7) (m19_Scale_c (⟨some ⟨b40, 0, none⟩, 4⟩ : SA) ([((⟨saNil, saNil⟩ : RA), (⟨false, ([] : List Nat), ([] : List Nat)⟩ : Raw)), ((⟨saNil, saNil⟩ : RA), (⟨false, ([] : List Nat), ([] : List Nat)⟩ : Raw)), ((⟨saNil, saNil⟩ : RA), (⟨false, ([] : List Nat), ([] : List Nat)⟩ : Raw)), (y39, (encQ ((5 : Int) : Rat)))] : List PR) y1 ((1 : Int) : Rat) y41 (((1 : Int) : Rat) / ((4 : Int) : Rat)) 3 y_l19_awake y_l19_awake y_l19_awake y_l19_awake y_l19_awake) [0, 12, 4] k_ k_ k_ k_ rfl (fun y42 h43 => ?_)
       refine RD.bq (nl [8, 9, 10]) [2, 3, 25, 26] [] [(2, pt b7), (3, .int .i64 (meanE ([(y1, (encQ ((1 : Int) : Rat))), (y3, (encQ (((-1) : Int) : Rat)))] : List PR).length ((1 : Int) : Rat) ((2 : Int) : Rat))), (25, .agg (ivC y42.1 (encQ y42.2.2.1) y42.2.1 (encQ y42.2.2.2))), (26, .int .i64 (checkE ([((⟨saNil, saNil⟩ : RA), (⟨false, ([] : List Nat), ([] : List Nat)⟩ : Raw)), ((⟨saNil, saNil⟩ : RA), (⟨false, ([] : List Nat), ([] : List Nat)⟩ : Raw)), ((⟨saNil, saNil⟩ : RA), (⟨false, ([] : List Nat), ([] : List Nat)⟩ : Raw)), (y39, (encQ ((5 : Int) : Rat)))] : List PR).length ((1 : Int) : Rat) (((1 : Int) : Rat) / ((4 : Int) : Rat)) 3))] k_ k_ ?_
       refine RD.new (i := 11) (fun b => pt b) (.cells (ivC (⟨saNil, saNil⟩ : RA) (⟨false, ([] : List Nat), ([] : List Nat)⟩ : Raw) (⟨saNil, saNil⟩ : RA) (⟨false, ([] : List Nat), ([] : List Nat)⟩ : Raw)) 38 (0, 0)) k_ k_ k_ k_ (fun w => by kernel_rfl) (fun b44 => ?_)
       refine RD.last (i := 12) (some 0) [2, 3, 4, 26] [b44, b44, b44, b44, b44, b44] k_ k_ k_ (l' := [(2, pt b7), (3, .int .i64 (meanE ([(y1, (encQ ((1 : Int) : Rat))), (y3, (encQ (((-1) : Int) : Rat)))] : List PR).length ((1 : Int) : Rat) ((2 : Int) : Rat))), (4, pt b44), (26, .int .i64 (checkE ([((⟨saNil, saNil⟩ : RA), (⟨false, ([] : List Nat), ([] : List Nat)⟩ : Raw)), ((⟨saNil, saNil⟩ : RA), (⟨false, ([] : List Nat), ([] : List Nat)⟩ : Raw)), ((⟨saNil, saNil⟩ : RA), (⟨false, ([] : List Nat), ([] : List Nat)⟩ : Raw)), (y39, (encQ ((5 : Int) : Rat)))] : List PR).length ((1 : Int) : Rat) (((1 : Int) : Rat) / ((4 : Int) : Rat)) 3))]) (M' := [(b44, .cells (ivC y42.1 (encQ y42.2.2.1) y42.2.1 (encQ y42.2.2.2)) 38 (0, 0)), (b7, .cells (ratC y6 (encQ (meanV ([(y1, (encQ ((1 : Int) : Rat))), (y3, (encQ (((-1) : Int) : Rat)))] : List PR) ((1 : Int) : Rat) ((2 : Int) : Rat)))) 27 (0, 0)), (b2, .cells (ratC y1 (encQ ((1 : Int) : Rat))) 27 (0, 0))]) k_ ?_
       refine RD.bq (nl [13]) [2, 3, 4, 5] [] [(2, pt b7), (3, .int .i64 (meanE ([(y1, (encQ ((1 : Int) : Rat))), (y3, (encQ (((-1) : Int) : Rat)))] : List PR).length ((1 : Int) : Rat) ((2 : Int) : Rat))), (4, pt b44), (5, .int .i64 (checkE ([((⟨saNil, saNil⟩ : RA), (⟨false, ([] : List Nat), ([] : List Nat)⟩ : Raw)), ((⟨saNil, saNil⟩ : RA), (⟨false, ([] : List Nat), ([] : List Nat)⟩ : Raw)), ((⟨saNil, saNil⟩ : RA), (⟨false, ([] : List Nat), ([] : List Nat)⟩ : Raw)), (y39, (encQ ((5 : Int) : Rat)))] : List PR).length ((1 : Int) : Rat) (((1 : Int) : Rat) / ((4 : Int) : Rat)) 3))] k_ k_ ?_
       refine RD.done k_ ?_
       refine KN.meet (y39, b40, y41, y42, b44) [2, 3, 4, 5] [0, 1, 2, 3, 4, 5, 6, 7, 8, 9, 10, 11, 12, 13, 14] (l2 := [(2, pt b7), (3, .int .i64 (meanE ([(y1, (encQ ((1 : Int) : Rat))), (y3, (encQ (((-1) : Int) : Rat)))] : List PR).length ((1 : Int) : Rat) ((2 : Int) : Rat))), (4, pt b44), (5, .int .i64 (checkE ([((⟨saNil, saNil⟩ : RA), (⟨false, ([] : List Nat), ([] : List Nat)⟩ : Raw)), ((⟨saNil, saNil⟩ : RA), (⟨false, ([] : List Nat), ([] : List Nat)⟩ : Raw)), ((⟨saNil, saNil⟩ : RA), (⟨false, ([] : List Nat), ([] : List Nat)⟩ : Raw)), (y39, (encQ ((5 : Int) : Rat)))] : List PR).length ((1 : Int) : Rat) (((1 : Int) : Rat) / ((4 : Int) : Rat)) 3))]) (by exact h43) k_ (by rfl) (by rfl) (by rfl)
      ·refine RDi.new (i := 11) (fun b => pt b) (.cells (ivC (⟨saNil, saNil⟩ : RA) (⟨false, ([] : List Nat), ([] : List Nat)⟩ : Raw) (⟨saNil, saNil⟩ : RA) (⟨false, ([] : List Nat), ([] : List Nat)⟩ : Raw)) 38 (0, 0)) k_ k_ k_ (fun w => by kernel_rfl) (fun b45 => ?_)
       refine RD.call (i := 7) (m19_Scale_c (⟨some ⟨b40, 0, none⟩, 4⟩ : SA) ([((⟨saNil, saNil⟩ : RA), (⟨false, ([] : List Nat), ([] : List Nat)⟩ : Raw)), ((⟨saNil, saNil⟩ : RA), (⟨false, ([] : List Nat), ([] : List Nat)⟩ : Raw)), ((⟨saNil, saNil⟩ : RA), (⟨false, ([] : List Nat), ([] : List Nat)⟩ : Raw)), (y39, (encQ ((5 : Int) : Rat)))] : List PR) y1 ((1 : Int) : Rat) y41 (((1 : Int) : Rat) / ((4 : Int) : Rat)) 3 y_l19_awake y_l19_awake y_l19_awake y_l19_awake y_l19_awake) [0, 12, 4] k_ k_ k_ k_ k_ rfl (fun y46 h47 => ?_)
       refine RD.bq (nl [8, 9, 10]) [2, 3, 4, 25, 26] [] [(2, pt b7), (3, .int .i64 (meanE ([(y1, (encQ ((1 : Int) : Rat))), (y3, (encQ (((-1) : Int) : Rat)))] : List PR).length ((1 : Int) : Rat) ((2 : Int) : Rat))), (4, pt b45), (25, .agg (ivC y46.1 (encQ y46.2.2.1) y46.2.1 (encQ y46.2.2.2))), (26, .int .i64 (checkE ([((⟨saNil, saNil⟩ : RA), (⟨false, ([] : List Nat), ([] : List Nat)⟩ : Raw)), ((⟨saNil, saNil⟩ : RA), (⟨false, ([] : List Nat), ([] : List Nat)⟩ : Raw)), ((⟨saNil, saNil⟩ : RA), (⟨false, ([] : List Nat), ([] : List Nat)⟩ : Raw)), (y39, (encQ ((5 : Int) : Rat)))] : List PR).length ((1 : Int) : Rat) (((1 : Int) : Rat) / ((4 : Int) : Rat)) 3))] k_ k_ ?_
       refine RD.last (i := 12) (some 0) [2, 3, 4, 26] [b45, b45, b45, b45, b45, b45] k_ k_ k_ (l' := [(2, pt b7), (3, .int .i64 (meanE ([(y1, (encQ ((1 : Int) : Rat))), (y3, (encQ (((-1) : Int) : Rat)))] : List PR).length ((1 : Int) : Rat) ((2 : Int) : Rat))), (4, pt b45), (26, .int .i64 (checkE ([((⟨saNil, saNil⟩ : RA), (⟨false, ([] : List Nat), ([] : List Nat)⟩ : Raw)), ((⟨saNil, saNil⟩ : RA), (⟨false, ([] : List Nat), ([] : List Nat)⟩ : Raw)), ((⟨saNil, saNil⟩ : RA), (⟨false, ([] : List Nat), ([] : List Nat)⟩ : Raw)), (y39, (encQ ((5 : Int) : Rat)))] : List PR).length ((1 : Int) : Rat) (((1 : Int) : Rat) / ((4 : Int) : Rat)) 3))]) (M' := [(b45, .cells (ivC y46.1 (encQ y46.2.2.1) y46.2.1 (encQ y46.2.2.2)) 38 (0, 0)), (b7, .cells (ratC y6 (encQ (meanV ([(y1, (encQ ((1 : Int) : Rat))), (y3, (encQ (((-1) : Int) : Rat)))] : List PR) ((1 : Int) : Rat) ((2 : Int) : Rat)))) 27 (0, 0)), (b2, .cells (ratC y1 (encQ ((1 : Int) : Rat))) 27 (0, 0))]) k_ ?_
       refine RD.bq (nl [13]) [2, 3, 4, 5] [] [(2, pt b7), (3, .int .i64 (meanE ([(y1, (encQ ((1 : Int) : Rat))), (y3, (encQ (((-1) : Int) : Rat)))] : List PR).length ((1 : Int) : Rat) ((2 : Int) : Rat))), (4, pt b45), (5, .int .i64 (checkE ([((⟨saNil, saNil⟩ : RA), (⟨false, ([] : List Nat), ([] : List Nat)⟩ : Raw)), ((⟨saNil, saNil⟩ : RA), (⟨false, ([] : List Nat), ([] : List Nat)⟩ : Raw)), ((⟨saNil, saNil⟩ : RA), (⟨false, ([] : List Nat), ([] : List Nat)⟩ : Raw)), (y39, (encQ ((5 : Int) : Rat)))] : List PR).length ((1 : Int) : Rat) (((1 : Int) : Rat) / ((4 : Int) : Rat)) 3))] k_ k_ ?_
       refine RD.done k_ ?_
       refine KN.meet (y39, b40, y41, y46, b45) [2, 3, 4, 5] [0, 1, 2, 3, 4, 5, 6, 7, 8, 9, 10, 11, 12, 13, 14] (l2 := [(2, pt b7), (3, .int .i64 (meanE ([(y1, (encQ ((1 : Int) : Rat))), (y3, (encQ (((-1) : Int) : Rat)))] : List PR).length ((1 : Int) : Rat) ((2 : Int) : Rat))), (4, pt b45), (5, .int .i64 (checkE ([((⟨saNil, saNil⟩ : RA), (⟨false, ([] : List Nat), ([] : List Nat)⟩ : Raw)), ((⟨saNil, saNil⟩ : RA), (⟨false, ([] : List Nat), ([] : List Nat)⟩ : Raw)), ((⟨saNil, saNil⟩ : RA), (⟨false, ([] : List Nat), ([] : List Nat)⟩ : Raw)), (y39, (encQ ((5 : Int) : Rat)))] : List PR).length ((1 : Int) : Rat) (((1 : Int) : Rat) / ((4 : Int) : Rat)) 3))]) (by exact h47) k_ (by rfl) (by rfl) (by rfl)
     ·refine RDi.new (i := 11) (fun b => pt b) (.cells (ivC (⟨saNil, saNil⟩ : RA) (⟨false, ([] : List Nat), ([] : List Nat)⟩ : Raw) (⟨saNil, saNil⟩ : RA) (⟨false, ([] : List Nat), ([] : List Nat)⟩ : Raw)) 38 (0, 0)) k_ k_ k_ (fun w => by kernel_rfl) (fun b48 => ?_)
      refine RD.call (i := 6) (r03_Fraction 1 4 y_l19_awake y_l19_awake y_l19_awake y_l19_awake y_l19_awake) [] k_ k_ k_ k_ k_ rfl (fun y49 _ => ?_)
      refine RD.share 1 rfl rfl k_ ?_
      refine RD.also (fRat (⟨saNil, saNil⟩ : RA) (⟨false, ([] : List Nat), ([] : List Nat)⟩ : Raw)) (fun w h => ⟨fU_nil w, fU_nil w⟩) k_ ?_
      refine RD.also (allRat ([((⟨saNil, saNil⟩ : RA), (⟨false, ([] : List Nat), ([] : List Nat)⟩ : Raw)), ((⟨saNil, saNil⟩ : RA), (⟨false, ([] : List Nat), ([] : List Nat)⟩ : Raw)), ((⟨saNil, saNil⟩ : RA), (⟨false, ([] : List Nat), ([] : List Nat)⟩ : Raw)), (y39, (encQ ((5 : Int) : Rat)))] : List PR)) (fun w h => allRat_cons (h _ (.head _)) (allRat_cons (h _ (.head _)) (allRat_cons (h _ (.head _)) (allRat_cons (h _ (.tail _ ((.tail _ ((.tail _ ((.head _)))))))) (allRat_nil _))))) k_ ?_
      refine RD.also (fRats (⟨some ⟨b40, 0, none⟩, 4⟩ : SA) ([((⟨saNil, saNil⟩ : RA), (⟨false, ([] : List Nat), ([] : List Nat)⟩ : Raw)), ((⟨saNil, saNil⟩ : RA), (⟨false, ([] : List Nat), ([] : List Nat)⟩ : Raw)), ((⟨saNil, saNil⟩ : RA), (⟨false, ([] : List Nat), ([] : List Nat)⟩ : Raw)), (y39, (encQ ((5 : Int) : Rat)))] : List PR)) (fun w h => fRats_own (h _ (.tail _ ((.tail _ ((.head _)))))) (h _ (.head _)) x_ x_) k_ ?_
      refine RD.turn 21 (v := .slice (some ⟨b40, 0, none⟩) 4 4) (v' := sl (⟨some ⟨b40, 0, none⟩, 4⟩ : SA) ([((⟨saNil, saNil⟩ : RA), (⟨false, ([] : List Nat), ([] : List Nat)⟩ : Raw)), ((⟨saNil, saNil⟩ : RA), (⟨false, ([] : List Nat), ([] : List Nat)⟩ : Raw)), ((⟨saNil, saNil⟩ : RA), (⟨false, ([] : List Nat), ([] : List Nat)⟩ : Raw)), (y39, (encQ ((5 : Int) : Rat)))] : List PR).length) k_ (sl_eq x_) ?_
      refine RD.call (i := 7) (m19_Scale_c (⟨some ⟨b40, 0, none⟩, 4⟩ : SA) ([((⟨saNil, saNil⟩ : RA), (⟨false, ([] : List Nat), ([] : List Nat)⟩ : Raw)), ((⟨saNil, saNil⟩ : RA), (⟨false, ([] : List Nat), ([] : List Nat)⟩ : Raw)), ((⟨saNil, saNil⟩ : RA), (⟨false, ([] : List Nat), ([] : List Nat)⟩ : Raw)), (y39, (encQ ((5 : Int) : Rat)))] : List PR) y1 ((1 : Int) : Rat) y49 (((1 : Int) : Rat) / ((4 : Int) : Rat)) 3 y_l19_awake y_l19_awake y_l19_awake y_l19_awake y_l19_awake) [0, 12, 4] k_ k_ k_ k_ k_ rfl (fun y50 h51 => ?_)
      refine RD.bq (nl [8, 9, 10]) [2, 3, 4, 25, 26] [] [(2, pt b7), (3, .int .i64 (meanE ([(y1, (encQ ((1 : Int) : Rat))), (y3, (encQ (((-1) : Int) : Rat)))] : List PR).length ((1 : Int) : Rat) ((2 : Int) : Rat))), (4, pt b48), (25, .agg (ivC y50.1 (encQ y50.2.2.1) y50.2.1 (encQ y50.2.2.2))), (26, .int .i64 (checkE ([((⟨saNil, saNil⟩ : RA), (⟨false, ([] : List Nat), ([] : List Nat)⟩ : Raw)), ((⟨saNil, saNil⟩ : RA), (⟨false, ([] : List Nat), ([] : List Nat)⟩ : Raw)), ((⟨saNil, saNil⟩ : RA), (⟨false, ([] : List Nat), ([] : List Nat)⟩ : Raw)), (y39, (encQ ((5 : Int) : Rat)))] : List PR).length ((1 : Int) : Rat) (((1 : Int) : Rat) / ((4 : Int) : Rat)) 3))] k_ k_ ?_
      refine RD.last (i := 12) (some 0) [2, 3, 4, 26] [b48, b48, b48, b48, b48, b48] k_ k_ k_ (l' := [(2, pt b7), (3, .int .i64 (meanE ([(y1, (encQ ((1 : Int) : Rat))), (y3, (encQ (((-1) : Int) : Rat)))] : List PR).length ((1 : Int) : Rat) ((2 : Int) : Rat))), (4, pt b48), (26, .int .i64 (checkE ([((⟨saNil, saNil⟩ : RA), (⟨false, ([] : List Nat), ([] : List Nat)⟩ : Raw)), ((⟨saNil, saNil⟩ : RA), (⟨false, ([] : List Nat), ([] : List Nat)⟩ : Raw)), ((⟨saNil, saNil⟩ : RA), (⟨false, ([] : List Nat), ([] : List Nat)⟩ : Raw)), (y39, (encQ ((5 : Int) : Rat)))] : List PR).length ((1 : Int) : Rat) (((1 : Int) : Rat) / ((4 : Int) : Rat)) 3))]) (M' := [(b48, .cells (ivC y50.1 (encQ y50.2.2.1) y50.2.1 (encQ y50.2.2.2)) 38 (0, 0)), (b7, .cells (ratC y6 (encQ (meanV ([(y1, (encQ ((1 : Int) : Rat))), (y3, (encQ (((-1) : Int) : Rat)))] : List PR) ((1 : Int) : Rat) ((2 : Int) : Rat)))) 27 (0, 0)), (b2, .cells (ratC y1 (encQ ((1 : Int) : Rat))) 27 (0, 0))]) k_ ?_
      refine RD.bq (nl [13]) [2, 3, 4, 5] [] [(2, pt b7), (3, .int .i64 (meanE ([(y1, (encQ ((1 : Int) : Rat))), (y3, (encQ (((-1) : Int) : Rat)))] : List PR).length ((1 : Int) : Rat) ((2 : Int) : Rat))), (4, pt b48), (5, .int .i64 (checkE ([((⟨saNil, saNil⟩ : RA), (⟨false, ([] : List Nat), ([] : List Nat)⟩ : Raw)), ((⟨saNil, saNil⟩ : RA), (⟨false, ([] : List Nat), ([] : List Nat)⟩ : Raw)), ((⟨saNil, saNil⟩ : RA), (⟨false, ([] : List Nat), ([] : List Nat)⟩ : Raw)), (y39, (encQ ((5 : Int) : Rat)))] : List PR).length ((1 : Int) : Rat) (((1 : Int) : Rat) / ((4 : Int) : Rat)) 3))] k_ k_ ?_
      refine RD.done k_ ?_
      refine KN.meet (y39, b40, y49, y50, b48) [2, 3, 4, 5] [0, 1, 2, 3, 4, 5, 6, 7, 8, 9, 10, 11, 12, 13, 14] (l2 := [(2, pt b7), (3, .int .i64 (meanE ([(y1, (encQ ((1 : Int) : Rat))), (y3, (encQ (((-1) : Int) : Rat)))] : List PR).length ((1 : Int) : Rat) ((2 : Int) : Rat))), (4, pt b48), (5, .int .i64 (checkE ([((⟨saNil, saNil⟩ : RA), (⟨false, ([] : List Nat), ([] : List Nat)⟩ : Raw)), ((⟨saNil, saNil⟩ : RA), (⟨false, ([] : List Nat), ([] : List Nat)⟩ : Raw)), ((⟨saNil, saNil⟩ : RA), (⟨false, ([] : List Nat), ([] : List Nat)⟩ : Raw)), (y39, (encQ ((5 : Int) : Rat)))] : List PR).length ((1 : Int) : Rat) (((1 : Int) : Rat) / ((4 : Int) : Rat)) 3))]) (by exact h51) k_ (by rfl) (by rfl) (by rfl)
    ·refine RDi.call (i := 6) (r03_Fraction 1 4 y_l19_awake y_l19_awake y_l19_awake y_l19_awake y_l19_awake) [] k_ k_ k_ k_ rfl (fun y52 _ => ?_)
     refine RD.forkL (is := [4, 11]) k_ rfl k_ ⟨?_, ?_, trivial⟩
     ·refine RDi.new (i := 4) (fun b => .slice (some ⟨b, 0, none⟩) 4 4) (.cells (encR ([((⟨saNil, saNil⟩ : RA), (⟨false, ([] : List Nat), ([] : List Nat)⟩ : Raw)), ((⟨saNil, saNil⟩ : RA), (⟨false, ([] : List Nat), ([] : List Nat)⟩ : Raw)), ((⟨saNil, saNil⟩ : RA), (⟨false, ([] : List Nat), ([] : List Nat)⟩ : Raw)), (y39, (encQ ((5 : Int) : Rat)))] : List PR)) 27 (0, 0)) k_ k_ k_ (fun w => by kernel_rfl) (fun b53 => ?_)
      refine RD.share 0 rfl rfl k_ ?_
      refine RD.also (fRat (⟨saNil, saNil⟩ : RA) (⟨false, ([] : List Nat), ([] : List Nat)⟩ : Raw)) (fun w h => ⟨fU_nil w, fU_nil w⟩) k_ ?_
      refine RD.also (allRat ([((⟨saNil, saNil⟩ : RA), (⟨false, ([] : List Nat), ([] : List Nat)⟩ : Raw)), ((⟨saNil, saNil⟩ : RA), (⟨false, ([] : List Nat), ([] : List Nat)⟩ : Raw)), ((⟨saNil, saNil⟩ : RA), (⟨false, ([] : List Nat), ([] : List Nat)⟩ : Raw)), (y39, (encQ ((5 : Int) : Rat)))] : List PR)) (fun w h => allRat_cons (h _ (.head _)) (allRat_cons (h _ (.head _)) (allRat_cons (h _ (.head _)) (allRat_cons (h _ (.tail _ ((.tail _ ((.tail _ ((.head _)))))))) (allRat_nil _))))) k_ ?_
      refine RD.also (fRats (⟨some ⟨b53, 0, none⟩, 4⟩ : SA) ([((⟨saNil, saNil⟩ : RA), (⟨false, ([] : List Nat), ([] : List Nat)⟩ : Raw)), ((⟨saNil, saNil⟩ : RA), (⟨false, ([] : List Nat), ([] : List Nat)⟩ : Raw)), ((⟨saNil, saNil⟩ : RA), (⟨false, ([] : List Nat), ([] : List Nat)⟩ : Raw)), (y39, (encQ ((5 : Int) : Rat)))] : List PR)) (fun w h => fRats_own (h _ (.tail _ ((.tail _ ((.head _)))))) (h _ (.head _)) x_ x_) k_ ?_
      refine RD.turn 21 (v := .slice (some ⟨b53, 0, none⟩) 4 4) (v' := sl (⟨some ⟨b53, 0, none⟩, 4⟩ : SA) ([((⟨saNil, saNil⟩ : RA), (⟨false, ([] : List Nat), ([] : List Nat)⟩ : Raw)), ((⟨saNil, saNil⟩ : RA), (⟨false, ([] : List Nat), ([] : List Nat)⟩ : Raw)), ((⟨saNil, saNil⟩ : RA), (⟨false, ([] : List Nat), ([] : List Nat)⟩ : Raw)), (y39, (encQ ((5 : Int) : Rat)))] : List PR).length) k_ (sl_eq x_) ?_
      refine RD.forkL (is := [7, 11]) k_ rfl k_ ⟨?_, ?_, trivial⟩
      ·refine RDi.call (i := 7) (m19_Scale_c (⟨some ⟨b53, 0, none⟩, 4⟩ : SA) ([((⟨saNil, saNil⟩ : RA), (⟨false, ([] : List Nat), ([] : List Nat)⟩ : Raw)), ((⟨saNil, saNil⟩ : RA), (⟨false, ([] : List Nat), ([] : List Nat)⟩ : Raw)), ((⟨saNil, saNil⟩ : RA), (⟨false, ([] : List Nat), ([] : List Nat)⟩ : Raw)), (y39, (encQ ((5 : Int) : Rat)))] : List PR) y1 ((1 : Int) : Rat) y52 (((1 : Int) : Rat) / ((4 : Int) : Rat)) 3 y_l19_awake y_l19_awake y_l19_awake y_l19_awake y_l19_awake) [0, 12, 4] k_ k_ k_ k_ rfl (fun y54 h55 => ?_)
       refine RD.bq (nl [8, 9, 10]) [2, 3, 25, 26] [] [(2, pt b7), (3, .int .i64 (meanE ([(y1, (encQ ((1 : Int) : Rat))), (y3, (encQ (((-1) : Int) : Rat)))] : List PR).length ((1 : Int) : Rat) ((2 : Int) : Rat))), (25, .agg (ivC y54.1 (encQ y54.2.2.1) y54.2.1 (encQ y54.2.2.2))), (26, .int .i64 (checkE ([((⟨saNil, saNil⟩ : RA), (⟨false, ([] : List Nat), ([] : List Nat)⟩ : Raw)), ((⟨saNil, saNil⟩ : RA), (⟨false, ([] : List Nat), ([] : List Nat)⟩ : Raw)), ((⟨saNil, saNil⟩ : RA), (⟨false, ([] : List Nat), ([] : List Nat)⟩ : Raw)), (y39, (encQ ((5 : Int) : Rat)))] : List PR).length ((1 : Int) : Rat) (((1 : Int) : Rat) / ((4 : Int) : Rat)) 3))] k_ k_ ?_
       refine RD.new (i := 11) (fun b => pt b) (.cells (ivC (⟨saNil, saNil⟩ : RA) (⟨false, ([] : List Nat), ([] : List Nat)⟩ : Raw) (⟨saNil, saNil⟩ : RA) (⟨false, ([] : List Nat), ([] : List Nat)⟩ : Raw)) 38 (0, 0)) k_ k_ k_ k_ (fun w => by kernel_rfl) (fun b56 => ?_)
       refine RD.last (i := 12) (some 0) [2, 3, 4, 26] [b56, b56, b56, b56, b56, b56] k_ k_ k_ (l' := [(2, pt b7), (3, .int .i64 (meanE ([(y1, (encQ ((1 : Int) : Rat))), (y3, (encQ (((-1) : Int) : Rat)))] : List PR).length ((1 : Int) : Rat) ((2 : Int) : Rat))), (4, pt b56), (26, .int .i64 (checkE ([((⟨saNil, saNil⟩ : RA), (⟨false, ([] : List Nat), ([] : List Nat)⟩ : Raw)), ((⟨saNil, saNil⟩ : RA), (⟨false, ([] : List Nat), ([] : List Nat)⟩ : Raw)), ((⟨saNil, saNil⟩ : RA), (⟨false, ([] : List Nat), ([] : List Nat)⟩ : Raw)), (y39, (encQ ((5 : Int) : Rat)))] : List PR).length ((1 : Int) : Rat) (((1 : Int) : Rat) / ((4 : Int) : Rat)) 3))]) (M' := [(b56, .cells (ivC y54.1 (encQ y54.2.2.1) y54.2.1 (encQ y54.2.2.2)) 38 (0, 0)), (b7, .cells (ratC y6 (encQ (meanV ([(y1, (encQ ((1 : Int) : Rat))), (y3, (encQ (((-1) : Int) : Rat)))] : List PR) ((1 : Int) : Rat) ((2 : Int) : Rat)))) 27 (0, 0)), (b2, .cells (ratC y1 (encQ ((1 : Int) : Rat))) 27 (0, 0))]) k_ ?_
       refine RD.bq (nl [13]) [2, 3, 4, 5] [] [(2, pt b7), (3, .int .i64 (meanE ([(y1, (encQ ((1 : Int) : Rat))), (y3, (encQ (((-1) : Int) : Rat)))] : List PR).length ((1 : Int) : Rat) ((2 : Int) : Rat))), (4, pt b56), (5, .int .i64 (checkE ([((⟨saNil, saNil⟩ : RA), (⟨false, ([] : List Nat), ([] : List Nat)⟩ : Raw)), ((⟨saNil, saNil⟩ : RA), (⟨false, ([] : List Nat), ([] : List Nat)⟩ : Raw)), ((⟨saNil, saNil⟩ : RA), (⟨false, ([] : List Nat), ([] : List Nat)⟩ : Raw)), (y39, (encQ ((5 : Int) : Rat)))] : List PR).length ((1 : Int) : Rat) (((1 : Int) : Rat) / ((4 : Int) : Rat)) 3))] k_ k_ ?_
       refine RD.done k_ ?_
       refine KN.meet (y39, b53, y52, y54, b56) [2, 3, 4, 5] [0, 1, 2, 3, 4, 5, 6, 7, 8, 9, 10, 11, 12, 13, 14] (l2 := [(2, pt b7), (3, .int .i64 (meanE ([(y1, (encQ ((1 : Int) : Rat))), (y3, (encQ (((-1) : Int) : Rat)))] : List PR).length ((1 : Int) : Rat) ((2 : Int) : Rat))), (4, pt b56), (5, .int .i64 (checkE ([((⟨saNil, saNil⟩ : RA), (⟨false, ([] : List Nat), ([] : List Nat)⟩ : Raw)), ((⟨saNil, saNil⟩ : RA), (⟨false, ([] : List Nat), ([] : List Nat)⟩ : Raw)), ((⟨saNil, saNil⟩ : RA), (⟨false, ([] : List Nat), ([] : List Nat)⟩ : Raw)), (y39, (encQ ((5 : Int) : Rat)))] : List PR).length ((1 : Int) : Rat) (((1 : Int) : Rat) / ((4 : Int) : Rat)) 3))]) (by exact h55) k_ (by rfl) (by rfl) (by rfl)
      ·refine RDi.new (i := 11) (fun b => pt b) (.cells (ivC (⟨saNil, saNil⟩ : RA) (⟨false, ([] : List Nat), ([] : List Nat)⟩ : Raw) (⟨saNil, saNil⟩ : RA) (⟨false, ([] : List Nat), ([] : List Nat)⟩ : Raw)) 38 (0, 0)) k_ k_ k_ (fun w => by kernel_rfl) (fun b57 => ?_)
       refine RD.call (i := 7) (m19_Scale_c (⟨some ⟨b53, 0, none⟩, 4⟩ : SA) ([((⟨saNil, saNil⟩ : RA), (⟨false, ([] : List Nat), ([] : List Nat)⟩ : Raw)), ((⟨saNil, saNil⟩ : RA), (⟨false, ([] : List Nat), ([] : List Nat)⟩ : Raw)), ((⟨saNil, saNil⟩ : RA), (⟨false, ([] : List Nat), ([] : List Nat)⟩ : Raw)), (y39, (encQ ((5 : Int) : Rat)))] : List PR) y1 ((1 : Int) : Rat) y52 (((1 : Int) : Rat) / ((4 : Int) : Rat)) 3 y_l19_awake y_l19_awake y_l19_awake y_l19_awake y_l19_awake) [0, 12, 4] k_ k_ k_ k_ k_ rfl (fun y58 h59 => ?_)
       refine RD.bq (nl [8, 9, 10]) [2, 3, 4, 25, 26] [] [(2, pt b7), (3, .int .i64 (meanE ([(y1, (encQ ((1 : Int) : Rat))), (y3, (encQ (((-1) : Int) : Rat)))] : List PR).length ((1 : Int) : Rat) ((2 : Int) : Rat))), (4, pt b57), (25, .agg (ivC y58.1 (encQ y58.2.2.1) y58.2.1 (encQ y58.2.2.2))), (26, .int .i64 (checkE ([((⟨saNil, saNil⟩ : RA), (⟨false, ([] : List Nat), ([] : List Nat)⟩ : Raw)), ((⟨saNil, saNil⟩ : RA), (⟨false, ([] : List Nat), ([] : List Nat)⟩ : Raw)), ((⟨saNil, saNil⟩ : RA), (⟨false, ([] : List Nat), ([] : List Nat)⟩ : Raw)), (y39, (encQ ((5 : Int) : Rat)))] : List PR).length ((1 : Int) : Rat) (((1 : Int) : Rat) / ((4 : Int) : Rat)) 3))] k_ k_ ?_
       refine RD.last (i := 12) (some 0) [2, 3, 4, 26] [b57, b57, b57, b57, b57, b57] k_ k_ k_ (l' := [(2, pt b7), (3, .int .i64 (meanE ([(y1, (encQ ((1 : Int) : Rat))), (y3, (encQ (((-1) : Int) : Rat)))] : List PR).length ((1 : Int) : Rat) ((2 : Int) : Rat))), (4, pt b57), (26, .int .i64 (checkE ([((⟨saNil, saNil⟩ : RA), (⟨false, ([] : List Nat), ([] : List Nat)⟩ : Raw)), ((⟨saNil, saNil⟩ : RA), (⟨false, ([] : List Nat), ([] : List Nat)⟩ : Raw)), ((⟨saNil, saNil⟩ : RA), (⟨false, ([] : List Nat), ([] : List Nat)⟩ : Raw)), (y39, (encQ ((5 : Int) : Rat)))] : List PR).length ((1 : Int) : Rat) (((1 : Int) : Rat) / ((4 : Int) : Rat)) 3))]) (M' := [(b57, .cells (ivC y58.1 (encQ y58.2.2.1) y58.2.1 (encQ y58.2.2.2)) 38 (0, 0)), (b7, .cells (ratC y6 (encQ (meanV ([(y1, (encQ ((1 : Int) : Rat))), (y3, (encQ (((-1) : Int) : Rat)))] : List PR) ((1 : Int) : Rat) ((2 : Int) : Rat)))) 27 (0, 0)), (b2, .cells (ratC y1 (encQ ((1 : Int) : Rat))) 27 (0, 0))]) k_ ?_
       refine RD.bq (nl [13]) [2, 3, 4, 5] [] [(2, pt b7), (3, .int .i64 (meanE ([(y1, (encQ ((1 : Int) : Rat))), (y3, (encQ (((-1) : Int) : Rat)))] : List PR).length ((1 : Int) : Rat) ((2 : Int) : Rat))), (4, pt b57), (5, .int .i64 (checkE ([((⟨saNil, saNil⟩ : RA), (⟨false, ([] : List Nat), ([] : List Nat)⟩ : Raw)), ((⟨saNil, saNil⟩ : RA), (⟨false, ([] : List Nat), ([] : List Nat)⟩ : Raw)), ((⟨saNil, saNil⟩ : RA), (⟨false, ([] : List Nat), ([] : List Nat)⟩ : Raw)), (y39, (encQ ((5 : Int) : Rat)))] : List PR).length ((1 : Int) : Rat) (((1 : Int) : Rat) / ((4 : Int) : Rat)) 3))] k_ k_ ?_
       refine RD.done k_ ?_
       refine KN.meet (y39, b53, y52, y58, b57) [2, 3, 4, 5] [0, 1, 2, 3, 4, 5, 6, 7, 8, 9, 10, 11, 12, 13, 14] (l2 := [(2, pt b7), (3, .int .i64 (meanE ([(y1, (encQ ((1 : Int) : Rat))), (y3, (encQ (((-1) : Int) : Rat)))] : List PR).length ((1 : Int) : Rat) ((2 : Int) : Rat))), (4, pt b57), (5, .int .i64 (checkE ([((⟨saNil, saNil⟩ : RA), (⟨false, ([] : List Nat), ([] : List Nat)⟩ : Raw)), ((⟨saNil, saNil⟩ : RA), (⟨false, ([] : List Nat), ([] : List Nat)⟩ : Raw)), ((⟨saNil, saNil⟩ : RA), (⟨false, ([] : List Nat), ([] : List Nat)⟩ : Raw)), (y39, (encQ ((5 : Int) : Rat)))] : List PR).length ((1 : Int) : Rat) (((1 : Int) : Rat) / ((4 : Int) : Rat)) 3))]) (by exact h59) k_ (by rfl) (by rfl) (by rfl)
     ·refine RDi.new (i := 11) (fun b => pt b) (.cells (ivC (⟨saNil, saNil⟩ : RA) (⟨false, ([] : List Nat), ([] : List Nat)⟩ : Raw) (⟨saNil, saNil⟩ : RA) (⟨false, ([] : List Nat), ([] : List Nat)⟩ : Raw)) 38 (0, 0)) k_ k_ k_ (fun w => by kernel_rfl) (fun b60 => ?_)
      refine RD.new (i := 4) (fun b => .slice (some ⟨b, 0, none⟩) 4 4) (.cells (encR ([((⟨saNil, saNil⟩ : RA), (⟨false, ([] : List Nat), ([] : List Nat)⟩ : Raw)), ((⟨saNil, saNil⟩ : RA), (⟨false, ([] : List Nat), ([] : List Nat)⟩ : Raw)), ((⟨saNil, saNil⟩ : RA), (⟨false, ([] : List Nat), ([] : List Nat)⟩ : Raw)), (y39, (encQ ((5 : Int) : Rat)))] : List PR)) 27 (0, 0)) k_ k_ k_ k_ (fun w => by kernel_rfl) (fun b61 => ?_)
      refine RD.share 0 rfl rfl k_ ?_
      refine RD.also (fRat (⟨saNil, saNil⟩ : RA) (⟨false, ([] : List Nat), ([] : List Nat)⟩ : Raw)) (fun w h => ⟨fU_nil w, fU_nil w⟩) k_ ?_
      refine RD.also (allRat ([((⟨saNil, saNil⟩ : RA), (⟨false, ([] : List Nat), ([] : List Nat)⟩ : Raw)), ((⟨saNil, saNil⟩ : RA), (⟨false, ([] : List Nat), ([] : List Nat)⟩ : Raw)), ((⟨saNil, saNil⟩ : RA), (⟨false, ([] : List Nat), ([] : List Nat)⟩ : Raw)), (y39, (encQ ((5 : Int) : Rat)))] : List PR)) (fun w h => allRat_cons (h _ (.head _)) (allRat_cons (h _ (.head _)) (allRat_cons (h _ (.head _)) (allRat_cons (h _ (.tail _ ((.tail _ ((.tail _ ((.head _)))))))) (allRat_nil _))))) k_ ?_
      refine RD.also (fRats (⟨some ⟨b61, 0, none⟩, 4⟩ : SA) ([((⟨saNil, saNil⟩ : RA), (⟨false, ([] : List Nat), ([] : List Nat)⟩ : Raw)), ((⟨saNil, saNil⟩ : RA), (⟨false, ([] : List Nat), ([] : List Nat)⟩ : Raw)), ((⟨saNil, saNil⟩ : RA), (⟨false, ([] : List Nat), ([] : List Nat)⟩ : Raw)), (y39, (encQ ((5 : Int) : Rat)))] : List PR)) (fun w h => fRats_own (h _ (.tail _ ((.tail _ ((.head _)))))) (h _ (.head _)) x_ x_) k_ ?_
      refine RD.turn 21 (v := .slice (some ⟨b61, 0, none⟩) 4 4) (v' := sl (⟨some ⟨b61, 0, none⟩, 4⟩ : SA) ([((⟨saNil, saNil⟩ : RA), (⟨false, ([] : List Nat), ([] : List Nat)⟩ : Raw)), ((⟨saNil, saNil⟩ : RA), (⟨false, ([] : List Nat), ([] : List Nat)⟩ : Raw)), ((⟨saNil, saNil⟩ : RA), (⟨false, ([] : List Nat), ([] : List Nat)⟩ : Raw)), (y39, (encQ ((5 : Int) : Rat)))] : List PR).length) k_ (sl_eq x_) ?_
      refine RD.call (i := 7) (m19_Scale_c (⟨some ⟨b61, 0, none⟩, 4⟩ : SA) ([((⟨saNil, saNil⟩ : RA), (⟨false, ([] : List Nat), ([] : List Nat)⟩ : Raw)), ((⟨saNil, saNil⟩ : RA), (⟨false, ([] : List Nat), ([] : List Nat)⟩ : Raw)), ((⟨saNil, saNil⟩ : RA), (⟨false, ([] : List Nat), ([] : List Nat)⟩ : Raw)), (y39, (encQ ((5 : Int) : Rat)))] : List PR) y1 ((1 : Int) : Rat) y52 (((1 : Int) : Rat) / ((4 : Int) : Rat)) 3 y_l19_awake y_l19_awake y_l19_awake y_l19_awake y_l19_awake) [0, 12, 4] k_ k_ k_ k_ k_ rfl (fun y62 h63 => ?_)
      refine RD.bq (nl [8, 9, 10]) [2, 3, 4, 25, 26] [] [(2, pt b7), (3, .int .i64 (meanE ([(y1, (encQ ((1 : Int) : Rat))), (y3, (encQ (((-1) : Int) : Rat)))] : List PR).length ((1 : Int) : Rat) ((2 : Int) : Rat))), (4, pt b60), (25, .agg (ivC y62.1 (encQ y62.2.2.1) y62.2.1 (encQ y62.2.2.2))), (26, .int .i64 (checkE ([((⟨saNil, saNil⟩ : RA), (⟨false, ([] : List Nat), ([] : List Nat)⟩ : Raw)), ((⟨saNil, saNil⟩ : RA), (⟨false, ([] : List Nat), ([] : List Nat)⟩ : Raw)), ((⟨saNil, saNil⟩ : RA), (⟨false, ([] : List Nat), ([] : List Nat)⟩ : Raw)), (y39, (encQ ((5 : Int) : Rat)))] : List PR).length ((1 : Int) : Rat) (((1 : Int) : Rat) / ((4 : Int) : Rat)) 3))] k_ k_ ?_
      refine RD.last (i := 12) (some 0) [2, 3, 4, 26] [b60, b60, b60, b60, b60, b60] k_ k_ k_ (l' := [(2, pt b7), (3, .int .i64 (meanE ([(y1, (encQ ((1 : Int) : Rat))), (y3, (encQ (((-1) : Int) : Rat)))] : List PR).length ((1 : Int) : Rat) ((2 : Int) : Rat))), (4, pt b60), (26, .int .i64 (checkE ([((⟨saNil, saNil⟩ : RA), (⟨false, ([] : List Nat), ([] : List Nat)⟩ : Raw)), ((⟨saNil, saNil⟩ : RA), (⟨false, ([] : List Nat), ([] : List Nat)⟩ : Raw)), ((⟨saNil, saNil⟩ : RA), (⟨false, ([] : List Nat), ([] : List Nat)⟩ : Raw)), (y39, (encQ ((5 : Int) : Rat)))] : List PR).length ((1 : Int) : Rat) (((1 : Int) : Rat) / ((4 : Int) : Rat)) 3))]) (M' := [(b60, .cells (ivC y62.1 (encQ y62.2.2.1) y62.2.1 (encQ y62.2.2.2)) 38 (0, 0)), (b7, .cells (ratC y6 (encQ (meanV ([(y1, (encQ ((1 : Int) : Rat))), (y3, (encQ (((-1) : Int) : Rat)))] : List PR) ((1 : Int) : Rat) ((2 : Int) : Rat)))) 27 (0, 0)), (b2, .cells (ratC y1 (encQ ((1 : Int) : Rat))) 27 (0, 0))]) k_ ?_
      refine RD.bq (nl [13]) [2, 3, 4, 5] [] [(2, pt b7), (3, .int .i64 (meanE ([(y1, (encQ ((1 : Int) : Rat))), (y3, (encQ (((-1) : Int) : Rat)))] : List PR).length ((1 : Int) : Rat) ((2 : Int) : Rat))), (4, pt b60), (5, .int .i64 (checkE ([((⟨saNil, saNil⟩ : RA), (⟨false, ([] : List Nat), ([] : List Nat)⟩ : Raw)), ((⟨saNil, saNil⟩ : RA), (⟨false, ([] : List Nat), ([] : List Nat)⟩ : Raw)), ((⟨saNil, saNil⟩ : RA), (⟨false, ([] : List Nat), ([] : List Nat)⟩ : Raw)), (y39, (encQ ((5 : Int) : Rat)))] : List PR).length ((1 : Int) : Rat) (((1 : Int) : Rat) / ((4 : Int) : Rat)) 3))] k_ k_ ?_
      refine RD.done k_ ?_
      refine KN.meet (y39, b61, y52, y62, b60) [2, 3, 4, 5] [0, 1, 2, 3, 4, 5, 6, 7, 8, 9, 10, 11, 12, 13, 14] (l2 := [(2, pt b7), (3, .int .i64 (meanE ([(y1, (encQ ((1 : Int) : Rat))), (y3, (encQ (((-1) : Int) : Rat)))] : List PR).length ((1 : Int) : Rat) ((2 : Int) : Rat))), (4, pt b60), (5, .int .i64 (checkE ([((⟨saNil, saNil⟩ : RA), (⟨false, ([] : List Nat), ([] : List Nat)⟩ : Raw)), ((⟨saNil, saNil⟩ : RA), (⟨false, ([] : List Nat), ([] : List Nat)⟩ : Raw)), ((⟨saNil, saNil⟩ : RA), (⟨false, ([] : List Nat), ([] : List Nat)⟩ : Raw)), (y39, (encQ ((5 : Int) : Rat)))] : List PR).length ((1 : Int) : Rat) (((1 : Int) : Rat) / ((4 : Int) : Rat)) 3))]) (by exact h63) k_ (by rfl) (by rfl) (by rfl)
    ·refine RDi.new (i := 11) (fun b => pt b) (.cells (ivC (⟨saNil, saNil⟩ : RA) (⟨false, ([] : List Nat), ([] : List Nat)⟩ : Raw) (⟨saNil, saNil⟩ : RA) (⟨false, ([] : List Nat), ([] : List Nat)⟩ : Raw)) 38 (0, 0)) k_ k_ k_ (fun w => by kernel_rfl) (fun b64 => ?_)
     refine RD.forkL (is := [4, 6]) k_ rfl k_ ⟨?_, ?_, trivial⟩
     ·refine RDi.new (i := 4) (fun b => .slice (some ⟨b, 0, none⟩) 4 4) (.cells (encR ([((⟨saNil, saNil⟩ : RA), (⟨false, ([] : List Nat), ([] : List Nat)⟩ : Raw)), ((⟨saNil, saNil⟩ : RA), (⟨false, ([] : List Nat), ([] : List Nat)⟩ : Raw)), ((⟨saNil, saNil⟩ : RA), (⟨false, ([] : List Nat), ([] : List Nat)⟩ : Raw)), (y39, (encQ ((5 : Int) : Rat)))] : List PR)) 27 (0, 0)) k_ k_ k_ (fun w => by kernel_rfl) (fun b65 => ?_)
      refine RD.call (i := 6) (r03_Fraction 1 4 y_l19_awake y_l19_awake y_l19_awake y_l19_awake y_l19_awake) [] k_ k_ k_ k_ k_ rfl (fun y66 _ => ?_)
      refine RD.share 0 rfl rfl k_ ?_
      refine RD.also (fRat (⟨saNil, saNil⟩ : RA) (⟨false, ([] : List Nat), ([] : List Nat)⟩ : Raw)) (fun w h => ⟨fU_nil w, fU_nil w⟩) k_ ?_
      refine RD.also (allRat ([((⟨saNil, saNil⟩ : RA), (⟨false, ([] : List Nat), ([] : List Nat)⟩ : Raw)), ((⟨saNil, saNil⟩ : RA), (⟨false, ([] : List Nat), ([] : List Nat)⟩ : Raw)), ((⟨saNil, saNil⟩ : RA), (⟨false, ([] : List Nat), ([] : List Nat)⟩ : Raw)), (y39, (encQ ((5 : Int) : Rat)))] : List PR)) (fun w h => allRat_cons (h _ (.head _)) (allRat_cons (h _ (.head _)) (allRat_cons (h _ (.head _)) (allRat_cons (h _ (.tail _ ((.tail _ ((.tail _ ((.head _)))))))) (allRat_nil _))))) k_ ?_
      refine RD.also (fRats (⟨some ⟨b65, 0, none⟩, 4⟩ : SA) ([((⟨saNil, saNil⟩ : RA), (⟨false, ([] : List Nat), ([] : List Nat)⟩ : Raw)), ((⟨saNil, saNil⟩ : RA), (⟨false, ([] : List Nat), ([] : List Nat)⟩ : Raw)), ((⟨saNil, saNil⟩ : RA), (⟨false, ([] : List Nat), ([] : List Nat)⟩ : Raw)), (y39, (encQ ((5 : Int) : Rat)))] : List PR)) (fun w h => fRats_own (h _ (.tail _ ((.tail _ ((.head _)))))) (h _ (.head _)) x_ x_) k_ ?_
      refine RD.turn 21 (v := .slice (some ⟨b65, 0, none⟩) 4 4) (v' := sl (⟨some ⟨b65, 0, none⟩, 4⟩ : SA) ([((⟨saNil, saNil⟩ : RA), (⟨false, ([] : List Nat), ([] : List Nat)⟩ : Raw)), ((⟨saNil, saNil⟩ : RA), (⟨false, ([] : List Nat), ([] : List Nat)⟩ : Raw)), ((⟨saNil, saNil⟩ : RA), (⟨false, ([] : List Nat), ([] : List Nat)⟩ : Raw)), (y39, (encQ ((5 : Int) : Rat)))] : List PR).length) k_ (sl_eq x_) ?_
      refine RD.call (i := 7) (m19_Scale_c (⟨some ⟨b65, 0, none⟩, 4⟩ : SA) ([((⟨saNil, saNil⟩ : RA), (⟨false, ([] : List Nat), ([] : List Nat)⟩ : Raw)), ((⟨saNil, saNil⟩ : RA), (⟨false, ([] : List Nat), ([] : List Nat)⟩ : Raw)), ((⟨saNil, saNil⟩ : RA), (⟨false, ([] : List Nat), ([] : List Nat)⟩ : Raw)), (y39, (encQ ((5 : Int) : Rat)))] : List PR) y1 ((1 : Int) : Rat) y66 (((1 : Int) : Rat) / ((4 : Int) : Rat)) 3 y_l19_awake y_l19_awake y_l19_awake y_l19_awake y_l19_awake) [0, 12, 4] k_ k_ k_ k_ k_ rfl (fun y67 h68 => ?_)
      refine RD.bq (nl [8, 9, 10]) [2, 3, 4, 25, 26] [] [(2, pt b7), (3, .int .i64 (meanE ([(y1, (encQ ((1 : Int) : Rat))), (y3, (encQ (((-1) : Int) : Rat)))] : List PR).length ((1 : Int) : Rat) ((2 : Int) : Rat))), (4, pt b64), (25, .agg (ivC y67.1 (encQ y67.2.2.1) y67.2.1 (encQ y67.2.2.2))), (26, .int .i64 (checkE ([((⟨saNil, saNil⟩ : RA), (⟨false, ([] : List Nat), ([] : List Nat)⟩ : Raw)), ((⟨saNil, saNil⟩ : RA), (⟨false, ([] : List Nat), ([] : List Nat)⟩ : Raw)), ((⟨saNil, saNil⟩ : RA), (⟨false, ([] : List Nat), ([] : List Nat)⟩ : Raw)), (y39, (encQ ((5 : Int) : Rat)))] : List PR).length ((1 : Int) : Rat) (((1 : Int) : Rat) / ((4 : Int) : Rat)) 3))] k_ k_ ?_
      refine RD.last (i := 12) (some 0) [2, 3, 4, 26] [b64, b64, b64, b64, b64, b64] k_ k_ k_ (l' := [(2, pt b7), (3, .int .i64 (meanE ([(y1, (encQ ((1 : Int) : Rat))), (y3, (encQ (((-1) : Int) : Rat)))] : List PR).length ((1 : Int) : Rat) ((2 : Int) : Rat))), (4, pt b64), (26, .int .i64 (checkE ([((⟨saNil, saNil⟩ : RA), (⟨false, ([] : List Nat), ([] : List Nat)⟩ : Raw)), ((⟨saNil, saNil⟩ : RA), (⟨false, ([] : List Nat), ([] : List Nat)⟩ : Raw)), ((⟨saNil, saNil⟩ : RA), (⟨false, ([] : List Nat), ([] : List Nat)⟩ : Raw)), (y39, (encQ ((5 : Int) : Rat)))] : List PR).length ((1 : Int) : Rat) (((1 : Int) : Rat) / ((4 : Int) : Rat)) 3))]) (M' := [(b64, .cells (ivC y67.1 (encQ y67.2.2.1) y67.2.1 (encQ y67.2.2.2)) 38 (0, 0)), (b7, .cells (ratC y6 (encQ (meanV ([(y1, (encQ ((1 : Int) : Rat))), (y3, (encQ (((-1) : Int) : Rat)))] : List PR) ((1 : Int) : Rat) ((2 : Int) : Rat)))) 27 (0, 0)), (b2, .cells (ratC y1 (encQ ((1 : Int) : Rat))) 27 (0, 0))]) k_ ?_
      refine RD.bq (nl [13]) [2, 3, 4, 5] [] [(2, pt b7), (3, .int .i64 (meanE ([(y1, (encQ ((1 : Int) : Rat))), (y3, (encQ (((-1) : Int) : Rat)))] : List PR).length ((1 : Int) : Rat) ((2 : Int) : Rat))), (4, pt b64), (5, .int .i64 (checkE ([((⟨saNil, saNil⟩ : RA), (⟨false, ([] : List Nat), ([] : List Nat)⟩ : Raw)), ((⟨saNil, saNil⟩ : RA), (⟨false, ([] : List Nat), ([] : List Nat)⟩ : Raw)), ((⟨saNil, saNil⟩ : RA), (⟨false, ([] : List Nat), ([] : List Nat)⟩ : Raw)), (y39, (encQ ((5 : Int) : Rat)))] : List PR).length ((1 : Int) : Rat) (((1 : Int) : Rat) / ((4 : Int) : Rat)) 3))] k_ k_ ?_
      refine RD.done k_ ?_
      refine KN.meet (y39, b65, y66, y67, b64) [2, 3, 4, 5] [0, 1, 2, 3, 4, 5, 6, 7, 8, 9, 10, 11, 12, 13, 14] (l2 := [(2, pt b7), (3, .int .i64 (meanE ([(y1, (encQ ((1 : Int) : Rat))), (y3, (encQ (((-1) : Int) : Rat)))] : List PR).length ((1 : Int) : Rat) ((2 : Int) : Rat))), (4, pt b64), (5, .int .i64 (checkE ([((⟨saNil, saNil⟩ : RA), (⟨false, ([] : List Nat), ([] : List Nat)⟩ : Raw)), ((⟨saNil, saNil⟩ : RA), (⟨false, ([] : List Nat), ([] : List Nat)⟩ : Raw)), ((⟨saNil, saNil⟩ : RA), (⟨false, ([] : List Nat), ([] : List Nat)⟩ : Raw)), (y39, (encQ ((5 : Int) : Rat)))] : List PR).length ((1 : Int) : Rat) (((1 : Int) : Rat) / ((4 : Int) : Rat)) 3))]) (by exact h68) k_ (by rfl) (by rfl) (by rfl)
     ·refine RDi.call (i := 6) (r03_Fraction 1 4 y_l19_awake y_l19_awake y_l19_awake y_l19_awake y_l19_awake) [] k_ k_ k_ k_ rfl (fun y69 _ => ?_)
      refine RD.new (i := 4) (fun b => .slice (some ⟨b, 0, none⟩) 4 4) (.cells (encR ([((⟨saNil, saNil⟩ : RA), (⟨false, ([] : List Nat), ([] : List Nat)⟩ : Raw)), ((⟨saNil, saNil⟩ : RA), (⟨false, ([] : List Nat), ([] : List Nat)⟩ : Raw)), ((⟨saNil, saNil⟩ : RA), (⟨false, ([] : List Nat), ([] : List Nat)⟩ : Raw)), (y39, (encQ ((5 : Int) : Rat)))] : List PR)) 27 (0, 0)) k_ k_ k_ k_ (fun w => by kernel_rfl) (fun b70 => ?_)
      refine RD.share 0 rfl rfl k_ ?_
      refine RD.also (fRat (⟨saNil, saNil⟩ : RA) (⟨false, ([] : List Nat), ([] : List Nat)⟩ : Raw)) (fun w h => ⟨fU_nil w, fU_nil w⟩) k_ ?_
      refine RD.also (allRat ([((⟨saNil, saNil⟩ : RA), (⟨false, ([] : List Nat), ([] : List Nat)⟩ : Raw)), ((⟨saNil, saNil⟩ : RA), (⟨false, ([] : List Nat), ([] : List Nat)⟩ : Raw)), ((⟨saNil, saNil⟩ : RA), (⟨false, ([] : List Nat), ([] : List Nat)⟩ : Raw)), (y39, (encQ ((5 : Int) : Rat)))] : List PR)) (fun w h => allRat_cons (h _ (.head _)) (allRat_cons (h _ (.head _)) (allRat_cons (h _ (.head _)) (allRat_cons (h _ (.tail _ ((.tail _ ((.tail _ ((.head _)))))))) (allRat_nil _))))) k_ ?_
      refine RD.also (fRats (⟨some ⟨b70, 0, none⟩, 4⟩ : SA) ([((⟨saNil, saNil⟩ : RA), (⟨false, ([] : List Nat), ([] : List Nat)⟩ : Raw)), ((⟨saNil, saNil⟩ : RA), (⟨false, ([] : List Nat), ([] : List Nat)⟩ : Raw)), ((⟨saNil, saNil⟩ : RA), (⟨false, ([] : List Nat), ([] : List Nat)⟩ : Raw)), (y39, (encQ ((5 : Int) : Rat)))] : List PR)) (fun w h => fRats_own (h _ (.tail _ ((.tail _ ((.head _)))))) (h _ (.head _)) x_ x_) k_ ?_
      refine RD.turn 21 (v := .slice (some ⟨b70, 0, none⟩) 4 4) (v' := sl (⟨some ⟨b70, 0, none⟩, 4⟩ : SA) ([((⟨saNil, saNil⟩ : RA), (⟨false, ([] : List Nat), ([] : List Nat)⟩ : Raw)), ((⟨saNil, saNil⟩ : RA), (⟨false, ([] : List Nat), ([] : List Nat)⟩ : Raw)), ((⟨saNil, saNil⟩ : RA), (⟨false, ([] : List Nat), ([] : List Nat)⟩ : Raw)), (y39, (encQ ((5 : Int) : Rat)))] : List PR).length) k_ (sl_eq x_) ?_
      refine RD.call (i := 7) (m19_Scale_c (⟨some ⟨b70, 0, none⟩, 4⟩ : SA) ([((⟨saNil, saNil⟩ : RA), (⟨false, ([] : List Nat), ([] : List Nat)⟩ : Raw)), ((⟨saNil, saNil⟩ : RA), (⟨false, ([] : List Nat), ([] : List Nat)⟩ : Raw)), ((⟨saNil, saNil⟩ : RA), (⟨false, ([] : List Nat), ([] : List Nat)⟩ : Raw)), (y39, (encQ ((5 : Int) : Rat)))] : List PR) y1 ((1 : Int) : Rat) y69 (((1 : Int) : Rat) / ((4 : Int) : Rat)) 3 y_l19_awake y_l19_awake y_l19_awake y_l19_awake y_l19_awake) [0, 12, 4] k_ k_ k_ k_ k_ rfl (fun y71 h72 => ?_)
      refine RD.bq (nl [8, 9, 10]) [2, 3, 4, 25, 26] [] [(2, pt b7), (3, .int .i64 (meanE ([(y1, (encQ ((1 : Int) : Rat))), (y3, (encQ (((-1) : Int) : Rat)))] : List PR).length ((1 : Int) : Rat) ((2 : Int) : Rat))), (4, pt b64), (25, .agg (ivC y71.1 (encQ y71.2.2.1) y71.2.1 (encQ y71.2.2.2))), (26, .int .i64 (checkE ([((⟨saNil, saNil⟩ : RA), (⟨false, ([] : List Nat), ([] : List Nat)⟩ : Raw)), ((⟨saNil, saNil⟩ : RA), (⟨false, ([] : List Nat), ([] : List Nat)⟩ : Raw)), ((⟨saNil, saNil⟩ : RA), (⟨false, ([] : List Nat), ([] : List Nat)⟩ : Raw)), (y39, (encQ ((5 : Int) : Rat)))] : List PR).length ((1 : Int) : Rat) (((1 : Int) : Rat) / ((4 : Int) : Rat)) 3))] k_ k_ ?_
      refine RD.last (i := 12) (some 0) [2, 3, 4, 26] [b64, b64, b64, b64, b64, b64] k_ k_ k_ (l' := [(2, pt b7), (3, .int .i64 (meanE ([(y1, (encQ ((1 : Int) : Rat))), (y3, (encQ (((-1) : Int) : Rat)))] : List PR).length ((1 : Int) : Rat) ((2 : Int) : Rat))), (4, pt b64), (26, .int .i64 (checkE ([((⟨saNil, saNil⟩ : RA), (⟨false, ([] : List Nat), ([] : List Nat)⟩ : Raw)), ((⟨saNil, saNil⟩ : RA), (⟨false, ([] : List Nat), ([] : List Nat)⟩ : Raw)), ((⟨saNil, saNil⟩ : RA), (⟨false, ([] : List Nat), ([] : List Nat)⟩ : Raw)), (y39, (encQ ((5 : Int) : Rat)))] : List PR).length ((1 : Int) : Rat) (((1 : Int) : Rat) / ((4 : Int) : Rat)) 3))]) (M' := [(b64, .cells (ivC y71.1 (encQ y71.2.2.1) y71.2.1 (encQ y71.2.2.2)) 38 (0, 0)), (b7, .cells (ratC y6 (encQ (meanV ([(y1, (encQ ((1 : Int) : Rat))), (y3, (encQ (((-1) : Int) : Rat)))] : List PR) ((1 : Int) : Rat) ((2 : Int) : Rat)))) 27 (0, 0)), (b2, .cells (ratC y1 (encQ ((1 : Int) : Rat))) 27 (0, 0))]) k_ ?_
      refine RD.bq (nl [13]) [2, 3, 4, 5] [] [(2, pt b7), (3, .int .i64 (meanE ([(y1, (encQ ((1 : Int) : Rat))), (y3, (encQ (((-1) : Int) : Rat)))] : List PR).length ((1 : Int) : Rat) ((2 : Int) : Rat))), (4, pt b64), (5, .int .i64 (checkE ([((⟨saNil, saNil⟩ : RA), (⟨false, ([] : List Nat), ([] : List Nat)⟩ : Raw)), ((⟨saNil, saNil⟩ : RA), (⟨false, ([] : List Nat), ([] : List Nat)⟩ : Raw)), ((⟨saNil, saNil⟩ : RA), (⟨false, ([] : List Nat), ([] : List Nat)⟩ : Raw)), (y39, (encQ ((5 : Int) : Rat)))] : List PR).length ((1 : Int) : Rat) (((1 : Int) : Rat) / ((4 : Int) : Rat)) 3))] k_ k_ ?_
      refine RD.done k_ ?_
      refine KN.meet (y39, b70, y69, y71, b64) [2, 3, 4, 5] [0, 1, 2, 3, 4, 5, 6, 7, 8, 9, 10, 11, 12, 13, 14] (l2 := [(2, pt b7), (3, .int .i64 (meanE ([(y1, (encQ ((1 : Int) : Rat))), (y3, (encQ (((-1) : Int) : Rat)))] : List PR).length ((1 : Int) : Rat) ((2 : Int) : Rat))), (4, pt b64), (5, .int .i64 (checkE ([((⟨saNil, saNil⟩ : RA), (⟨false, ([] : List Nat), ([] : List Nat)⟩ : Raw)), ((⟨saNil, saNil⟩ : RA), (⟨false, ([] : List Nat), ([] : List Nat)⟩ : Raw)), ((⟨saNil, saNil⟩ : RA), (⟨false, ([] : List Nat), ([] : List Nat)⟩ : Raw)), (y39, (encQ ((5 : Int) : Rat)))] : List PR).length ((1 : Int) : Rat) (((1 : Int) : Rat) / ((4 : Int) : Rat)) 3))]) (by exact h72) k_ (by rfl) (by rfl) (by rfl)
   ·refine RDi.new (i := 11) (fun b => pt b) (.cells (ivC (⟨saNil, saNil⟩ : RA) (⟨false, ([] : List Nat), ([] : List Nat)⟩ : Raw) (⟨saNil, saNil⟩ : RA) (⟨false, ([] : List Nat), ([] : List Nat)⟩ : Raw)) 38 (0, 0)) k_ k_ k_ (fun w => by kernel_rfl) (fun b73 => ?_)
    refine RD.call (i := 3) (r03_FromInt 5 y_l19_awake y_l19_awake) [] k_ k_ k_ k_ k_ rfl (fun y74 _ => ?_)
    refine RD.forkL (is := [4, 6]) k_ rfl k_ ⟨?_, ?_, trivial⟩
    ·refine RDi.new (i := 4) (fun b => .slice (some ⟨b, 0, none⟩) 4 4) (.cells (encR ([((⟨saNil, saNil⟩ : RA), (⟨false, ([] : List Nat), ([] : List Nat)⟩ : Raw)), ((⟨saNil, saNil⟩ : RA), (⟨false, ([] : List Nat), ([] : List Nat)⟩ : Raw)), ((⟨saNil, saNil⟩ : RA), (⟨false, ([] : List Nat), ([] : List Nat)⟩ : Raw)), (y74, (encQ ((5 : Int) : Rat)))] : List PR)) 27 (0, 0)) k_ k_ k_ (fun w => by kernel_rfl) (fun b75 => ?_)
     refine RD.call (i := 6) (r03_Fraction 1 4 y_l19_awake y_l19_awake y_l19_awake y_l19_awake y_l19_awake) [] k_ k_ k_ k_ k_ rfl (fun y76 _ => ?_)
     refine RD.share 0 rfl rfl k_ ?_
     refine RD.also (fRat (⟨saNil, saNil⟩ : RA) (⟨false, ([] : List Nat), ([] : List Nat)⟩ : Raw)) (fun w h => ⟨fU_nil w, fU_nil w⟩) k_ ?_
     refine RD.also (allRat ([((⟨saNil, saNil⟩ : RA), (⟨false, ([] : List Nat), ([] : List Nat)⟩ : Raw)), ((⟨saNil, saNil⟩ : RA), (⟨false, ([] : List Nat), ([] : List Nat)⟩ : Raw)), ((⟨saNil, saNil⟩ : RA), (⟨false, ([] : List Nat), ([] : List Nat)⟩ : Raw)), (y74, (encQ ((5 : Int) : Rat)))] : List PR)) (fun w h => allRat_cons (h _ (.head _)) (allRat_cons (h _ (.head _)) (allRat_cons (h _ (.head _)) (allRat_cons (h _ (.tail _ ((.tail _ ((.tail _ ((.head _)))))))) (allRat_nil _))))) k_ ?_
     refine RD.also (fRats (⟨some ⟨b75, 0, none⟩, 4⟩ : SA) ([((⟨saNil, saNil⟩ : RA), (⟨false, ([] : List Nat), ([] : List Nat)⟩ : Raw)), ((⟨saNil, saNil⟩ : RA), (⟨false, ([] : List Nat), ([] : List Nat)⟩ : Raw)), ((⟨saNil, saNil⟩ : RA), (⟨false, ([] : List Nat), ([] : List Nat)⟩ : Raw)), (y74, (encQ ((5 : Int) : Rat)))] : List PR)) (fun w h => fRats_own (h _ (.tail _ ((.tail _ ((.head _)))))) (h _ (.head _)) x_ x_) k_ ?_
     refine RD.turn 21 (v := .slice (some ⟨b75, 0, none⟩) 4 4) (v' := sl (⟨some ⟨b75, 0, none⟩, 4⟩ : SA) ([((⟨saNil, saNil⟩ : RA), (⟨false, ([] : List Nat), ([] : List Nat)⟩ : Raw)), ((⟨saNil, saNil⟩ : RA), (⟨false, ([] : List Nat), ([] : List Nat)⟩ : Raw)), ((⟨saNil, saNil⟩ : RA), (⟨false, ([] : List Nat), ([] : List Nat)⟩ : Raw)), (y74, (encQ ((5 : Int) : Rat)))] : List PR).length) k_ (sl_eq x_) ?_
     refine RD.call (i := 7) (m19_Scale_c (⟨some ⟨b75, 0, none⟩, 4⟩ : SA) ([((⟨saNil, saNil⟩ : RA), (⟨false, ([] : List Nat), ([] : List Nat)⟩ : Raw)), ((⟨saNil, saNil⟩ : RA), (⟨false, ([] : List Nat), ([] : List Nat)⟩ : Raw)), ((⟨saNil, saNil⟩ : RA), (⟨false, ([] : List Nat), ([] : List Nat)⟩ : Raw)), (y74, (encQ ((5 : Int) : Rat)))] : List PR) y1 ((1 : Int) : Rat) y76 (((1 : Int) : Rat) / ((4 : Int) : Rat)) 3 y_l19_awake y_l19_awake y_l19_awake y_l19_awake y_l19_awake) [0, 12, 4] k_ k_ k_ k_ k_ rfl (fun y77 h78 => ?_)
     refine RD.bq (nl [8, 9, 10]) [2, 3, 4, 25, 26] [] [(2, pt b7), (3, .int .i64 (meanE ([(y1, (encQ ((1 : Int) : Rat))), (y3, (encQ (((-1) : Int) : Rat)))] : List PR).length ((1 : Int) : Rat) ((2 : Int) : Rat))), (4, pt b73), (25, .agg (ivC y77.1 (encQ y77.2.2.1) y77.2.1 (encQ y77.2.2.2))), (26, .int .i64 (checkE ([((⟨saNil, saNil⟩ : RA), (⟨false, ([] : List Nat), ([] : List Nat)⟩ : Raw)), ((⟨saNil, saNil⟩ : RA), (⟨false, ([] : List Nat), ([] : List Nat)⟩ : Raw)), ((⟨saNil, saNil⟩ : RA), (⟨false, ([] : List Nat), ([] : List Nat)⟩ : Raw)), (y74, (encQ ((5 : Int) : Rat)))] : List PR).length ((1 : Int) : Rat) (((1 : Int) : Rat) / ((4 : Int) : Rat)) 3))] k_ k_ ?_
     refine RD.last (i := 12) (some 0) [2, 3, 4, 26] [b73, b73, b73, b73, b73, b73] k_ k_ k_ (l' := [(2, pt b7), (3, .int .i64 (meanE ([(y1, (encQ ((1 : Int) : Rat))), (y3, (encQ (((-1) : Int) : Rat)))] : List PR).length ((1 : Int) : Rat) ((2 : Int) : Rat))), (4, pt b73), (26, .int .i64 (checkE ([((⟨saNil, saNil⟩ : RA), (⟨false, ([] : List Nat), ([] : List Nat)⟩ : Raw)), ((⟨saNil, saNil⟩ : RA), (⟨false, ([] : List Nat), ([] : List Nat)⟩ : Raw)), ((⟨saNil, saNil⟩ : RA), (⟨false, ([] : List Nat), ([] : List Nat)⟩ : Raw)), (y74, (encQ ((5 : Int) : Rat)))] : List PR).length ((1 : Int) : Rat) (((1 : Int) : Rat) / ((4 : Int) : Rat)) 3))]) (M' := [(b73, .cells (ivC y77.1 (encQ y77.2.2.1) y77.2.1 (encQ y77.2.2.2)) 38 (0, 0)), (b7, .cells (ratC y6 (encQ (meanV ([(y1, (encQ ((1 : Int) : Rat))), (y3, (encQ (((-1) : Int) : Rat)))] : List PR) ((1 : Int) : Rat) ((2 : Int) : Rat)))) 27 (0, 0)), (b2, .cells (ratC y1 (encQ ((1 : Int) : Rat))) 27 (0, 0))]) k_ ?_
     refine RD.bq (nl [13]) [2, 3, 4, 5] [] [(2, pt b7), (3, .int .i64 (meanE ([(y1, (encQ ((1 : Int) : Rat))), (y3, (encQ (((-1) : Int) : Rat)))] : List PR).length ((1 : Int) : Rat) ((2 : Int) : Rat))), (4, pt b73), (5, .int .i64 (checkE ([((⟨saNil, saNil⟩ : RA), (⟨false, ([] : List Nat), ([] : List Nat)⟩ : Raw)), ((⟨saNil, saNil⟩ : RA), (⟨false, ([] : List Nat), ([] : List Nat)⟩ : Raw)), ((⟨saNil, saNil⟩ : RA), (⟨false, ([] : List Nat), ([] : List Nat)⟩ : Raw)), (y74, (encQ ((5 : Int) : Rat)))] : List PR).length ((1 : Int) : Rat) (((1 : Int) : Rat) / ((4 : Int) : Rat)) 3))] k_ k_ ?_
     refine RD.done k_ ?_
     refine KN.meet (y74, b75, y76, y77, b73) [2, 3, 4, 5] [0, 1, 2, 3, 4, 5, 6, 7, 8, 9, 10, 11, 12, 13, 14] (l2 := [(2, pt b7), (3, .int .i64 (meanE ([(y1, (encQ ((1 : Int) : Rat))), (y3, (encQ (((-1) : Int) : Rat)))] : List PR).length ((1 : Int) : Rat) ((2 : Int) : Rat))), (4, pt b73), (5, .int .i64 (checkE ([((⟨saNil, saNil⟩ : RA), (⟨false, ([] : List Nat), ([] : List Nat)⟩ : Raw)), ((⟨saNil, saNil⟩ : RA), (⟨false, ([] : List Nat), ([] : List Nat)⟩ : Raw)), ((⟨saNil, saNil⟩ : RA), (⟨false, ([] : List Nat), ([] : List Nat)⟩ : Raw)), (y74, (encQ ((5 : Int) : Rat)))] : List PR).length ((1 : Int) : Rat) (((1 : Int) : Rat) / ((4 : Int) : Rat)) 3))]) (by exact h78) k_ (by rfl) (by rfl) (by rfl)
    ·refine RDi.call (i := 6) (r03_Fraction 1 4 y_l19_awake y_l19_awake y_l19_awake y_l19_awake y_l19_awake) [] k_ k_ k_ k_ rfl (fun y79 _ => ?_)
     refine RD.new (i := 4) (fun b => .slice (some ⟨b, 0, none⟩) 4 4) (.cells (encR ([((⟨saNil, saNil⟩ : RA), (⟨false, ([] : List Nat), ([] : List Nat)⟩ : Raw)), ((⟨saNil, saNil⟩ : RA), (⟨false, ([] : List Nat), ([] : List Nat)⟩ : Raw)), ((⟨saNil, saNil⟩ : RA), (⟨false, ([] : List Nat), ([] : List Nat)⟩ : Raw)), (y74, (encQ ((5 : Int) : Rat)))] : List PR)) 27 (0, 0)) k_ k_ k_ k_ (fun w => by kernel_rfl) (fun b80 => ?_)
     refine RD.share 0 rfl rfl k_ ?_
     refine RD.also (fRat (⟨saNil, saNil⟩ : RA) (⟨false, ([] : List Nat), ([] : List Nat)⟩ : Raw)) (fun w h => ⟨fU_nil w, fU_nil w⟩) k_ ?_
     refine RD.also (allRat ([((⟨saNil, saNil⟩ : RA), (⟨false, ([] : List Nat), ([] : List Nat)⟩ : Raw)), ((⟨saNil, saNil⟩ : RA), (⟨false, ([] : List Nat), ([] : List Nat)⟩ : Raw)), ((⟨saNil, saNil⟩ : RA), (⟨false, ([] : List Nat), ([] : List Nat)⟩ : Raw)), (y74, (encQ ((5 : Int) : Rat)))] : List PR)) (fun w h => allRat_cons (h _ (.head _)) (allRat_cons (h _ (.head _)) (allRat_cons (h _ (.head _)) (allRat_cons (h _ (.tail _ ((.tail _ ((.tail _ ((.head _)))))))) (allRat_nil _))))) k_ ?_
     refine RD.also (fRats (⟨some ⟨b80, 0, none⟩, 4⟩ : SA) ([((⟨saNil, saNil⟩ : RA), (⟨false, ([] : List Nat), ([] : List Nat)⟩ : Raw)), ((⟨saNil, saNil⟩ : RA), (⟨false, ([] : List Nat), ([] : List Nat)⟩ : Raw)), ((⟨saNil, saNil⟩ : RA), (⟨false, ([] : List Nat), ([] : List Nat)⟩ : Raw)), (y74, (encQ ((5 : Int) : Rat)))] : List PR)) (fun w h => fRats_own (h _ (.tail _ ((.tail _ ((.head _)))))) (h _ (.head _)) x_ x_) k_ ?_
     refine RD.turn 21 (v := .slice (some ⟨b80, 0, none⟩) 4 4) (v' := sl (⟨some ⟨b80, 0, none⟩, 4⟩ : SA) ([((⟨saNil, saNil⟩ : RA), (⟨false, ([] : List Nat), ([] : List Nat)⟩ : Raw)), ((⟨saNil, saNil⟩ : RA), (⟨false, ([] : List Nat), ([] : List Nat)⟩ : Raw)), ((⟨saNil, saNil⟩ : RA), (⟨false, ([] : List Nat), ([] : List Nat)⟩ : Raw)), (y74, (encQ ((5 : Int) : Rat)))] : List PR).length) k_ (sl_eq x_) ?_
     refine RD.call (i := 7) (m19_Scale_c (⟨some ⟨b80, 0, none⟩, 4⟩ : SA) ([((⟨saNil, saNil⟩ : RA), (⟨false, ([] : List Nat), ([] : List Nat)⟩ : Raw)), ((⟨saNil, saNil⟩ : RA), (⟨false, ([] : List Nat), ([] : List Nat)⟩ : Raw)), ((⟨saNil, saNil⟩ : RA), (⟨false, ([] : List Nat), ([] : List Nat)⟩ : Raw)), (y74, (encQ ((5 : Int) : Rat)))] : List PR) y1 ((1 : Int) : Rat) y79 (((1 : Int) : Rat) / ((4 : Int) : Rat)) 3 y_l19_awake y_l19_awake y_l19_awake y_l19_awake y_l19_awake) [0, 12, 4] k_ k_ k_ k_ k_ rfl (fun y81 h82 => ?_)
     refine RD.bq (nl [8, 9, 10]) [2, 3, 4, 25, 26] [] [(2, pt b7), (3, .int .i64 (meanE ([(y1, (encQ ((1 : Int) : Rat))), (y3, (encQ (((-1) : Int) : Rat)))] : List PR).length ((1 : Int) : Rat) ((2 : Int) : Rat))), (4, pt b73), (25, .agg (ivC y81.1 (encQ y81.2.2.1) y81.2.1 (encQ y81.2.2.2))), (26, .int .i64 (checkE ([((⟨saNil, saNil⟩ : RA), (⟨false, ([] : List Nat), ([] : List Nat)⟩ : Raw)), ((⟨saNil, saNil⟩ : RA), (⟨false, ([] : List Nat), ([] : List Nat)⟩ : Raw)), ((⟨saNil, saNil⟩ : RA), (⟨false, ([] : List Nat), ([] : List Nat)⟩ : Raw)), (y74, (encQ ((5 : Int) : Rat)))] : List PR).length ((1 : Int) : Rat) (((1 : Int) : Rat) / ((4 : Int) : Rat)) 3))] k_ k_ ?_
     refine RD.last (i := 12) (some 0) [2, 3, 4, 26] [b73, b73, b73, b73, b73, b73] k_ k_ k_ (l' := [(2, pt b7), (3, .int .i64 (meanE ([(y1, (encQ ((1 : Int) : Rat))), (y3, (encQ (((-1) : Int) : Rat)))] : List PR).length ((1 : Int) : Rat) ((2 : Int) : Rat))), (4, pt b73), (26, .int .i64 (checkE ([((⟨saNil, saNil⟩ : RA), (⟨false, ([] : List Nat), ([] : List Nat)⟩ : Raw)), ((⟨saNil, saNil⟩ : RA), (⟨false, ([] : List Nat), ([] : List Nat)⟩ : Raw)), ((⟨saNil, saNil⟩ : RA), (⟨false, ([] : List Nat), ([] : List Nat)⟩ : Raw)), (y74, (encQ ((5 : Int) : Rat)))] : List PR).length ((1 : Int) : Rat) (((1 : Int) : Rat) / ((4 : Int) : Rat)) 3))]) (M' := [(b73, .cells (ivC y81.1 (encQ y81.2.2.1) y81.2.1 (encQ y81.2.2.2)) 38 (0, 0)), (b7, .cells (ratC y6 (encQ (meanV ([(y1, (encQ ((1 : Int) : Rat))), (y3, (encQ (((-1) : Int) : Rat)))] : List PR) ((1 : Int) : Rat) ((2 : Int) : Rat)))) 27 (0, 0)), (b2, .cells (ratC y1 (encQ ((1 : Int) : Rat))) 27 (0, 0))]) k_ ?_
     refine RD.bq (nl [13]) [2, 3, 4, 5] [] [(2, pt b7), (3, .int .i64 (meanE ([(y1, (encQ ((1 : Int) : Rat))), (y3, (encQ (((-1) : Int) : Rat)))] : List PR).length ((1 : Int) : Rat) ((2 : Int) : Rat))), (4, pt b73), (5, .int .i64 (checkE ([((⟨saNil, saNil⟩ : RA), (⟨false, ([] : List Nat), ([] : List Nat)⟩ : Raw)), ((⟨saNil, saNil⟩ : RA), (⟨false, ([] : List Nat), ([] : List Nat)⟩ : Raw)), ((⟨saNil, saNil⟩ : RA), (⟨false, ([] : List Nat), ([] : List Nat)⟩ : Raw)), (y74, (encQ ((5 : Int) : Rat)))] : List PR).length ((1 : Int) : Rat) (((1 : Int) : Rat) / ((4 : Int) : Rat)) 3))] k_ k_ ?_
     refine RD.done k_ ?_
     refine KN.meet (y74, b80, y79, y81, b73) [2, 3, 4, 5] [0, 1, 2, 3, 4, 5, 6, 7, 8, 9, 10, 11, 12, 13, 14] (l2 := [(2, pt b7), (3, .int .i64 (meanE ([(y1, (encQ ((1 : Int) : Rat))), (y3, (encQ (((-1) : Int) : Rat)))] : List PR).length ((1 : Int) : Rat) ((2 : Int) : Rat))), (4, pt b73), (5, .int .i64 (checkE ([((⟨saNil, saNil⟩ : RA), (⟨false, ([] : List Nat), ([] : List Nat)⟩ : Raw)), ((⟨saNil, saNil⟩ : RA), (⟨false, ([] : List Nat), ([] : List Nat)⟩ : Raw)), ((⟨saNil, saNil⟩ : RA), (⟨false, ([] : List Nat), ([] : List Nat)⟩ : Raw)), (y74, (encQ ((5 : Int) : Rat)))] : List PR).length ((1 : Int) : Rat) (((1 : Int) : Rat) / ((4 : Int) : Rat)) 3))]) (by exact h82) k_ (by rfl) (by rfl) (by rfl)
  ·intro x83 hx84
   obtain ⟨y39, b40, y41, y42, b44⟩ := x83
   replace hx84 : (ScaleR (vals ([((⟨saNil, saNil⟩ : RA), (⟨false, ([] : List Nat), ([] : List Nat)⟩ : Raw)), ((⟨saNil, saNil⟩ : RA), (⟨false, ([] : List Nat), ([] : List Nat)⟩ : Raw)), ((⟨saNil, saNil⟩ : RA), (⟨false, ([] : List Nat), ([] : List Nat)⟩ : Raw)), (y39, (encQ ((5 : Int) : Rat)))] : List PR)) ([((⟨saNil, saNil⟩ : RA), (⟨false, ([] : List Nat), ([] : List Nat)⟩ : Raw)), ((⟨saNil, saNil⟩ : RA), (⟨false, ([] : List Nat), ([] : List Nat)⟩ : Raw)), ((⟨saNil, saNil⟩ : RA), (⟨false, ([] : List Nat), ([] : List Nat)⟩ : Raw)), (y39, (encQ ((5 : Int) : Rat)))] : List PR).length ((1 : Int) : Rat) (((1 : Int) : Rat) / ((4 : Int) : Rat)) 3 y42.2.2.1 y42.2.2.2) := hx84
   have h43 := hx84
   refine J.seq ?_
   refine J.regD k_ [] ?_
   refine RD.bq (nl [0, 1, 2]) [2, 4, 5, 29] [] [(2, pt b7), (4, pt b44), (5, .int .i64 (checkE ([((⟨saNil, saNil⟩ : RA), (⟨false, ([] : List Nat), ([] : List Nat)⟩ : Raw)), ((⟨saNil, saNil⟩ : RA), (⟨false, ([] : List Nat), ([] : List Nat)⟩ : Raw)), ((⟨saNil, saNil⟩ : RA), (⟨false, ([] : List Nat), ([] : List Nat)⟩ : Raw)), (y39, (encQ ((5 : Int) : Rat)))] : List PR).length ((1 : Int) : Rat) (((1 : Int) : Rat) / ((4 : Int) : Rat)) 3)), (29, .bool (((meanE ([(y1, (encQ ((1 : Int) : Rat))), (y3, (encQ (((-1) : Int) : Rat)))] : List PR).length ((1 : Int) : Rat) ((2 : Int) : Rat)) : Int) == 0))] k_ k_ ?_
   refine RD.split (t := 29) (((meanE ([(y1, (encQ ((1 : Int) : Rat))), (y3, (encQ (((-1) : Int) : Rat)))] : List PR).length ((1 : Int) : Rat) ((2 : Int) : Rat)) : Int) == 0) k_ (fun c85 => ?_) (fun c85 => ?_)
   ·replace c85 := eq_of_beq c85
    refine RD.bq (nl [3, 4, 5, 6]) [2, 4, 33] [] [(2, pt b7), (4, pt b44), (33, .bool (((checkE ([((⟨saNil, saNil⟩ : RA), (⟨false, ([] : List Nat), ([] : List Nat)⟩ : Raw)), ((⟨saNil, saNil⟩ : RA), (⟨false, ([] : List Nat), ([] : List Nat)⟩ : Raw)), ((⟨saNil, saNil⟩ : RA), (⟨false, ([] : List Nat), ([] : List Nat)⟩ : Raw)), (y39, (encQ ((5 : Int) : Rat)))] : List PR).length ((1 : Int) : Rat) (((1 : Int) : Rat) / ((4 : Int) : Rat)) 3) : Int) == 0))] k_ k_ ?_
    refine RD.split (t := 33) (((checkE ([((⟨saNil, saNil⟩ : RA), (⟨false, ([] : List Nat), ([] : List Nat)⟩ : Raw)), ((⟨saNil, saNil⟩ : RA), (⟨false, ([] : List Nat), ([] : List Nat)⟩ : Raw)), ((⟨saNil, saNil⟩ : RA), (⟨false, ([] : List Nat), ([] : List Nat)⟩ : Raw)), (y39, (encQ ((5 : Int) : Rat)))] : List PR).length ((1 : Int) : Rat) (((1 : Int) : Rat) / ((4 : Int) : Rat)) 3) : Int) == 0) k_ (fun c86 => ?_) (fun c86 => ?_)
    ·replace c86 := eq_of_beq c86
     refine RD.bq [(7, some 1)] [4, 33, 34] [b7, b7, b7] [(4, pt b44), (33, .bool true), (34, ratV y6 (encQ (meanV ([(y1, (encQ ((1 : Int) : Rat))), (y3, (encQ (((-1) : Int) : Rat)))] : List PR) ((1 : Int) : Rat) ((2 : Int) : Rat))))] k_ k_ ?_
     refine RD.call (i := 8) (r03_Fraction 7 8 y_l19_awake y_l19_awake y_l19_awake y_l19_awake y_l19_awake) [] k_ k_ k_ k_ k_ rfl (fun y87 _ => ?_)
     refine RD.call (i := 9) (r03_Same y6 (encQ (meanV ([(y1, (encQ ((1 : Int) : Rat))), (y3, (encQ (((-1) : Int) : Rat)))] : List PR) ((1 : Int) : Rat) ((2 : Int) : Rat))) y87 (encQ (((7 : Int) : Rat) / ((8 : Int) : Rat)))) [9, 0] k_ k_ k_ k_ k_ rfl (fun y88 _ => ?_)
     refine RD.bq (nl [10, 11]) [4, 38] [] [(4, pt b44), (38, .bool (decide ((encQ (meanV ([(y1, (encQ ((1 : Int) : Rat))), (y3, (encQ (((-1) : Int) : Rat)))] : List PR) ((1 : Int) : Rat) ((2 : Int) : Rat))) = (encQ (((7 : Int) : Rat) / ((8 : Int) : Rat))))))] k_ k_ ?_
     refine RD.split (t := 38) (decide ((encQ (meanV ([(y1, (encQ ((1 : Int) : Rat))), (y3, (encQ (((-1) : Int) : Rat)))] : List PR) ((1 : Int) : Rat) ((2 : Int) : Rat))) = (encQ (((7 : Int) : Rat) / ((8 : Int) : Rat))))) k_ (fun c89 => ?_) (fun c89 => ?_)
     ·replace c89 := of_decide_eq_true c89
      refine RD.bq [(12, some 0), (13, none)] [38, 39, 40] [b44, b44, b44, b44, b44, b44] [(38, .bool true), (39, .agg (ivC y42.1 (encQ y42.2.2.1) y42.2.1 (encQ y42.2.2.2))), (40, .agg (ivC (⟨saNil, saNil⟩ : RA) (⟨false, ([] : List Nat), ([] : List Nat)⟩ : Raw) (⟨saNil, saNil⟩ : RA) (⟨false, ([] : List Nat), ([] : List Nat)⟩ : Raw)))] k_ k_ ?_
      refine RD.call (i := 14) (r04_Same y42.1 (encQ y42.2.2.1) y42.2.1 (encQ y42.2.2.2) ⟨saNil, saNil⟩ ⟨false, ([] : List Nat), ([] : List Nat)⟩ ⟨saNil, saNil⟩ ⟨false, ([] : List Nat), ([] : List Nat)⟩) [1, 2, 5, 5] k_ k_ k_ k_ k_ rfl (fun y90 _ => ?_)
      refine RD.bq (nl [15, 16]) [43] [] [(43, .bool (decide ((encQ y42.2.2.1) = (⟨false, ([] : List Nat), ([] : List Nat)⟩ : Raw)) && decide ((encQ y42.2.2.2) = (⟨false, ([] : List Nat), ([] : List Nat)⟩ : Raw))))] k_ k_ ?_
      refine RD.split (t := 43) ((decide ((encQ y42.2.2.1) = (⟨false, ([] : List Nat), ([] : List Nat)⟩ : Raw)) && decide ((encQ y42.2.2.2) = (⟨false, ([] : List Nat), ([] : List Nat)⟩ : Raw)))) k_ (fun c91 => ?_) (fun c91 => ?_)
      ·refine RD.call (i := 17) (r03_Fraction 1 2 y_l19_awake y_l19_awake y_l19_awake y_l19_awake y_l19_awake) [] k_ k_ k_ k_ k_ rfl (fun y92 _ => ?_)
       refine RD.call (i := 18) (m19_Rho_c y92 (((1 : Int) : Rat) / ((2 : Int) : Rat)) y_l19_awake y_l19_awake) [0] k_ k_ k_ k_ k_ rfl (fun y93 _ => ?_)
       refine RD.call (i := 19) (r03_Fraction 7 8 y_l19_awake y_l19_awake y_l19_awake y_l19_awake y_l19_awake) [] k_ k_ k_ k_ k_ rfl (fun y94 _ => ?_)
       refine RD.call (i := 20) (r03_Same y93 (encQ (rhoQ (((1 : Int) : Rat) / ((2 : Int) : Rat)))) y94 (encQ (((7 : Int) : Rat) / ((8 : Int) : Rat)))) [1, 0] k_ k_ k_ k_ k_ rfl (fun y95 _ => ?_)
       refine RD.bq (nl [21, 22]) [0] [] [(0, .bool (decide ((encQ (rhoQ (((1 : Int) : Rat) / ((2 : Int) : Rat)))) = (encQ (((7 : Int) : Rat) / ((8 : Int) : Rat))))))] k_ k_ ?_
       refine RD.done k_ ?_
       refine KN.next ?_
       have e_1 : true = (decide ((encQ (rhoQ (((1 : Int) : Rat) / ((2 : Int) : Rat)))) = (encQ (((7 : Int) : Rat) / ((8 : Int) : Rat))))) := by exact (decide_eq_true (congrArg encQ aw_r)).symm
       refine J.ret (KR.ret (v := .bool (decide ((encQ (rhoQ (((1 : Int) : Rat) / ((2 : Int) : Rat)))) = (encQ (((7 : Int) : Rat) / ((8 : Int) : Rat)))))) (()) [none] [] [] k_ v1_ (trivial) v1_)
      ·exact absurd c91 (by obtain ⟨e1, e2⟩ := aw_i ‹ScaleR _ _ _ _ _ _ _› (aw_s _ _ _ _ _ rfl); simp [e1, e2])
     ·replace c89 := of_decide_eq_false c89
      exact absurd c89 (by exact fun h => h (congrArg encQ (aw_m _ _)))
    ·replace c86 := ne_of_beq_false c86
     exact absurd c86 (by exact fun h => h aw_c)
   ·replace c85 := ne_of_beq_false c85
    exact absurd c85 (by exact fun h => h aw_e)
end Go.Proofs.YtegnonhgildhoaaGreat.E
namespace Go.Proofs.YtegnonhgildhoaaGreat.E
open Go Go.RowKit
set_option linter.unusedVariables false
set_option linter.unusedSimpArgs false
end Go.Proofs.YtegnonhgildhoaaGreat.E
namespace Go.Proofs.YtegnonhgildhoaaGreat.E
open Go Go.RowKit
set_option linter.unusedVariables false
set_option linter.unusedSimpArgs false
theorem bits_pow {bits : Int} (h : 0 ≤ bits) : P2 (-bits) = 1 / two bits.toNat := by
  unfold P2
  by_cases hb : bits = 0
  · subst hb; decide +kernel
  · rw [if_pos (by omega), show (-(-bits)).toNat = bits.toNat by omega]
theorem ScaleR.cases' {x : Nat → Rat} {n : Nat} {c b : Rat} {bits : Int} {lo hi : Rat} (h : ScaleR x n c b bits lo hi) (he : checkE n c b bits = 0) : (shareN x n ≤ b ∧ lo = 0 ∧ hi = 0) ∨ (b < shareN x n ∧ ScaleOk x n c b bits lo hi) := by
  unfold ScaleR at h
  by_cases hs : shareN x n ≤ b
  · rw [if_pos (.inr hs)] at h; exact .inl ⟨hs, h⟩
  · rw [if_neg (by simp [he, hs])] at h; exact .inr ⟨Rat.not_le.1 hs, h⟩
theorem narrow_zero (bits : Int) : narrowB bits 0 0 = true := by
  unfold narrowB; simp
theorem narrow_ok {bits : Int} {lo hi : Rat} (h0 : 0 ≤ bits) (hp : 0 < lo) (hlt : lo < hi) (hn : hi - lo ≤ P2 (-bits) * hi) : narrowB bits lo hi = true := by
  unfold narrowB
  rw [if_neg (by grind), if_neg (by grind)]
  rw [Bool.and_eq_true, decide_eq_true_eq, Bool.not_eq_true', decide_eq_false_iff_not]
  refine ⟨hp, Rat.not_lt.2 ?_⟩
  rw [bits_pow h0] at hn
  have ht := two_pos bits.toNat
  have := Rat.mul_le_mul_of_nonneg_right hn (Rat.le_of_lt ht)
  have e : 1 / two bits.toNat * hi * two bits.toNat = hi := by grind
  rw [e] at this
  exact this
theorem least_zero {x : Nat → Rat} {n : Nat} {c b : Rat} : atLeastB x n c b 0 = true := by unfold atLeastB; simp
theorem least_ok {x : Nat → Rat} {n : Nat} {c b v : Rat} (hs : b < shareN x n) (h : b ≤ meanN x n c v) : atLeastB x n c b v = true := by
  unfold atLeastB nullB
  split
  · rfl
  · simp [Rat.not_le.2 hs, Rat.not_lt.2 h]
theorem most_zero {x : Nat → Rat} {n : Nat} {c b : Rat} (hs : shareN x n ≤ b) : atMostB x n c b 0 = true := by unfold atMostB nullB; simp [hs]
theorem most_ok {x : Nat → Rat} {n : Nat} {c b v : Rat} (hs : b < shareN x n) (hv : 0 < v) (h : meanN x n c v ≤ b) : atMostB x n c b v = true := by
  unfold atMostB nullB; simp [Rat.not_le.2 hs, hv, Rat.not_lt.2 h]
end Go.Proofs.YtegnonhgildhoaaGreat.E
namespace Go.Proofs.YtegnonhgildhoaaGreat.E
open Go Go.RowKit
set_option linter.unusedVariables false
set_option linter.unusedSimpArgs false
def cQ (c : Int) : Rat := ((1 + c % 9 : Int) : Rat) / ((2 : Int) : Rat)
theorem Q_num {v : Int} : Q 64 (numQ v) := by
  have h1 := emod_b (k := v) (n := 61) (by decide)
  have h2 := emod_b (k := Int.tdiv v 61) (n := 4) (by decide)
  exact ((Q_int (v := v % 61 - 30) (by omega)).div (Q_int (v := 1 + Int.tdiv v 61 % 4) (by omega))).le (by decide)
theorem Q_c {v : Int} : Q 64 (cQ v) := by
  have h1 := emod_b (k := v) (n := 9) (by decide)
  exact ((Q_int (v := 1 + v % 9) (by omega)).div (Q_int (v := 2) (by decide))).le (by decide)
theorem Q_lev {v : Int} : Q 64 (levQ v) := by
  have h1 := emod_b (k := v) (n := 11) (by decide)
  exact ((Q_int (v := 1 + v % 11) (by omega)).div (Q_int (v := 12) (by decide))).le (by decide)
theorem cast_pos {v : Int} (h : 0 < v) : (0 : Rat) < (v : Rat) := by
  have : ((0 : Int) : Rat) < (v : Rat) := Rat.intCast_lt_intCast.2 h
  simpa using this
theorem cQ_pos (v : Int) : 0 < cQ v := by
  have h1 := emod_b (k := v) (n := 9) (by decide)
  unfold cQ; rw [Rat.div_def]
  exact Rat.mul_pos (cast_pos (by omega)) (Rat.inv_pos.2 (cast_pos (by decide)))
theorem lev_in (v : Int) : 0 < levQ v ∧ levQ v < 1 := by
  have h1 := emod_b (k := v) (n := 11) (by decide)
  unfold levQ
  constructor
  · rw [Rat.div_def]
    exact Rat.mul_pos (cast_pos (by omega)) (Rat.inv_pos.2 (cast_pos (by decide)))
  · rw [Rat.div_lt_iff (cast_pos (by decide))]
    have : ((1 + v % 11 : Int) : Rat) < ((12 : Int) : Rat) := Rat.intCast_lt_intCast.2 (by omega)
    grind
theorem check_made {n : Nat} {c b bits : Int} (h0 : 0 < n) (h1 : n ≤ 1024) (t0 : 0 ≤ bits) (t1 : bits ≤ 128) : checkE n (cQ c) (levQ b) bits = 0 := by
  have hl := lev_in b
  have hs : sizeE n = 0 := by unfold sizeE; rw [if_neg (by omega), if_neg (by omega)]
  unfold checkE
  rw [if_neg (by simp [hs]), if_pos ⟨cQ_pos c, hl.1, hl.2, t0, t1⟩]
theorem RQ_made {ps : List PR} {f : Nat → Int} (h : ∀ j, j < ps.length → (ps.getD j pr0).2 = encQ (numQ (f j))) : ∀ i, i < ps.length → RQ 64 (ps.getD i pr0).2 := fun i hi => by
  rw [h i hi]; exact RQ_enc Q_num
theorem l19_constants (c : Int) (b : Int) : Spec Tryz.prog 24 #[.int .i64 c, .int .i64 b] [] (ι := RA × RA) (fun y => .tuple #[ratV y.1 (encQ (cQ c)), ratV y.2 (encQ (levQ b))]) (fun y => True) (fun y => [fRat y.1 (encQ (cQ c)), fRat y.2 (encQ (levQ b))]) := by
 refine Spec.of_body _ (fn := Tryz.f24) k_ rfl k_ (fun X w0 => ?_)
 have h9 := emod_b (k := c) (n := 9) (by decide)
 refine J.sreg ?_
 refine RN.new (fun b => pt b) (.cells (ratC (⟨saNil, saNil⟩ : RA) (⟨false, ([] : List Nat), ([] : List Nat)⟩ : Raw)) 27 (0, 0)) k_ k_ (fun w => by kernel_rfl) (fun b1 => ?_)
 refine RN.new (fun b => pt b) (.cells (ratC (⟨saNil, saNil⟩ : RA) (⟨false, ([] : List Nat), ([] : List Nat)⟩ : Raw)) 27 (0, 0)) k_ k_ (fun w => by kernel_rfl) (fun b2 => ?_)
 refine RN.fs k_ ?_
 refine RN.bq (no 1) [1, 4, 5, 6] [] 1 [(1, .int .i64 b), (4, pt b1), (5, pt b2), (6, .int .i64 c)] k_ ?_
 refine RN.call (made_Mod c 9 y_ y_) [] k_ k_ k_ rfl (fun y3 _ => ?_)
 refine RN.bq (no 1) [1, 4, 5, 8] [] 3 [(1, .int .i64 b), (4, pt b1), (5, pt b2), (8, .int .i64 (IntKind.i64.wrap (1 + (c % 9))))] k_ ?_
 rw [show IntKind.i64.wrap (1 + (c % 9)) = (1 + (c % 9)) from by rw [IntKind.wrap_i64]; omega]
 refine RN.call (r03_Fraction (1 + (c % 9)) 2 y_ y_ y_ y_ y_) [] k_ k_ k_ rfl (fun y4 _ => ?_)
 refine RN.bq (no 1) [4, 5, 9, 10] [] 5 [(4, pt b1), (5, pt b2), (9, ratV y4 (encQ ((((1 + (c % 9)) : Int) : Rat) / ((2 : Int) : Rat)))), (10, .int .i64 b)] k_ ?_
 refine RN.call (made_Level b) [] k_ k_ k_ rfl (fun y5 _ => ?_)
 refine RN.bs [some 1, some 0] [4, 5] [b2, b2, b2, b1, b1, b1] 8 [(4, pt b1), (5, pt b2)] ([(b2, .cells (ratC y5 (encQ (levQ b))) 27 (0, 0)), (b1, .cells (ratC y4 (encQ ((((1 + (c % 9)) : Int) : Rat) / ((2 : Int) : Rat)))) 27 (0, 0))]) k_ ?_
 refine RN.fin k_ ?_
 have e_1 : (encQ (cQ c)) = (encQ ((((1 + (c % 9)) : Int) : Rat) / ((2 : Int) : Rat))) := by rfl
 refine J.ret (KR.ret (v := .tuple #[ratV y4 (encQ ((((1 + (c % 9)) : Int) : Rat) / ((2 : Int) : Rat))), ratV y5 (encQ (levQ b))]) (⟨y4, y5⟩) [some 1, some 0] [1, 0] [b1, b1, b1, b2, b2, b2] k_ v1_ (trivial) v1_)
end Go.Proofs.YtegnonhgildhoaaGreat.E
namespace Go.Proofs.YtegnonhgildhoaaGreat.E
open Go Go.RowKit
set_option linter.unusedVariables false
set_option linter.unusedSimpArgs false
theorem Q_num4 {v : Int} : Q 5 (numQ v) := by
  have h1 := emod_b (k := v) (n := 61) (by decide)
  have h2 := emod_b (k := Int.tdiv v 61) (n := 4) (by decide)
  exact ((Q_int (v := v % 61 - 30) (by omega)).div (Q_int (v := 1 + Int.tdiv v 61 % 4) (by omega)))
theorem vals_of {ps : List PR} {f : Nat → Rat} (h : ∀ j, j < ps.length → (ps.getD j pr0).2 = encQ (f j)) : ∀ i, i < ps.length → vals ps i = f i := fun i hi => by
  unfold vals; rw [h i hi, qv_encQ]
end Go.Proofs.YtegnonhgildhoaaGreat.E
namespace Go.Proofs.YtegnonhgildhoaaGreat.E
open Go Go.RowKit
set_option linter.unusedVariables false
set_option linter.unusedSimpArgs false
theorem meet_ok {a b c d : Rat} (h1 : a ≤ b) (h2 : c ≤ d) (h3 : a ≤ d) (h4 : c ≤ b) : meetB a b c d = true := by
  apply meetB_f
  rw [loQ_f (Rat.not_lt.2 h1), loQ_f (Rat.not_lt.2 h2), hiQ_f (Rat.not_lt.2 h1), hiQ_f (Rat.not_lt.2 h2)]
  apply Rat.not_lt.2
  unfold maxQ minQ
  split <;> split <;> assumption
/-- Two intervals of the same scale, one of them times w. -/
theorem scaled {x y : Nat → Rat} {n m : Nat} {c b lo hi lo' hi' w : Rat} {bits : Int} (hw : 0 < w) (hm : ∀ s, meanN y m c (s * w) = meanN x n c s) (hs : shareN y m = shareN x n)
    (h1 : ScaleR x n c b bits lo hi) (h2 : ScaleR y m c b bits lo' hi') (he : checkE n c b bits = 0) (he' : checkE m c b bits = 0) :
    meetB (lo * w) (hi * w) lo' hi' = true ∧ holdsB y m c b bits (lo * w) (hi * w) = true := by
  obtain ⟨n0, n1, c0, b0, b1, t0, t1⟩ := checkE_0 he
  rcases h1.cases' he with ⟨h3, rfl, rfl⟩ | ⟨h3, h⟩
  · rcases h2.cases' he' with ⟨_, rfl, rfl⟩ | ⟨h4, _⟩
    · rw [Rat.zero_mul]
      exact ⟨by decide +kernel, by unfold holdsB; rw [narrow_zero, least_zero, most_zero (by rw [hs]; exact h3)]; rfl⟩
    · rw [hs] at h4; grind
  · rcases h2.cases' he' with ⟨h4, _, _⟩ | ⟨h4, h'⟩
    · rw [hs] at h4; grind
    · have a1 : b < meanN y m c (lo * w) := by rw [hm]; exact h.above
      have a2 : meanN y m c (hi * w) ≤ b := by rw [hm]; exact h.below
      have p0 := Rat.mul_pos h.pos hw
      have p1 : lo * w < hi * w := by have := Rat.mul_lt_mul_of_pos_left h.lt hw; grind
      have p2 := rlt_trans p0 p1
      have q2 := rlt_trans h'.pos h'.lt
      refine ⟨meet_ok (Rat.le_of_lt p1) (Rat.le_of_lt h'.lt) (Rat.le_of_lt (above_lt c0 q2 a1 h'.below)) (Rat.le_of_lt (above_lt c0 p2 h'.above a2)), ?_⟩
      unfold holdsB
      have nr : hi * w - lo * w ≤ P2 (-bits) * (hi * w) := by
        have := Rat.mul_le_mul_of_nonneg_right h.narrow (Rat.le_of_lt hw)
        grind
      rw [narrow_ok t0 p0 p1 nr, least_ok h4 (Rat.le_of_lt a1), most_ok h4 p2 a2]; rfl
theorem perm_nat {l : List Int} {n : Nat} (h : l.Perm (idL n)) : ((List.range n).map (fun i => (l.getD i 0).toNat)).Perm (List.range n) := by
  have hl : l.length = n := by rw [h.length_eq, idL_len]
  have e : (List.range n).map (fun i => (l.getD i 0).toNat) = l.map Int.toNat := by
    apply List.ext_getElem?
    intro i
    rcases Nat.lt_or_ge i n with hi | hi
    · simp [List.getElem?_map, List.getElem?_range, hi, List.getD_eq_getElem?_getD, List.getElem?_eq_getElem (show i < l.length by omega)]
    · rw [List.getElem?_eq_none (by simpa using hi), List.getElem?_eq_none (by simp; omega)]
  rw [e]
  refine (h.map Int.toNat).trans ?_
  unfold idL
  rw [List.map_map]
  have : (Int.toNat ∘ fun k : Nat => ((k : Nat) : Int)) = id := by funext k; simp
  rw [this, List.map_id]
theorem equiv {ps qs : List PR} {l : List Int} {v c b lo hi lo' hi' : Rat} {bits : Int} (hv : v ≠ 0) (hp : l.Perm (idL ps.length)) (hl : qs.length = ps.length)
    (hq : ∀ j, j < qs.length → (qs.getD j pr0).2 = encQ (qv ((ps.getD (l.getD j 0).toNat pr0).2) * v)) (h1 : ScaleR (vals ps) ps.length c b bits lo hi) (h2 : ScaleR (vals qs) qs.length c b bits lo' hi') (he : checkE ps.length c b bits = 0) :
    meetB (lo * (v * v)) (hi * (v * v)) lo' hi' = true ∧ holdsB (vals qs) qs.length c b bits (lo * (v * v)) (hi * (v * v)) = true := by
  have hx : ∀ i, i < qs.length → vals qs i = (fun i => (fun i => vals ps ((l.getD i 0).toNat)) i * v) i := fun i hi => vals_of hq i hi
  refine scaled (rsq_pos hv) (fun s => ?_) ?_ h1 h2 he (by rw [hl]; exact he)
  · rw [mean_congr hx, mean_times hv, hl, mean_perm (x := vals ps) (p := fun i => (l.getD i 0).toNat) (perm_nat hp)]
  · rw [share_congr hx, share_times hv, hl, share_perm (x := vals ps) (p := fun i => (l.getD i 0).toNat) (perm_nat hp)]
theorem RQ_times {ps qs : List PR} {l : List Int} {f : Nat → Int} {v : Int} (h1 : ∀ j, j < ps.length → (ps.getD j pr0).2 = encQ (numQ (f j))) (hp : l.Perm (idL ps.length)) (hl : qs.length ≤ ps.length) (hq : ∀ j, j < qs.length → (qs.getD j pr0).2 = encQ (qv ((ps.getD (l.getD j 0).toNat pr0).2) * numQ v)) : ∀ i, i < qs.length → RQ 64 (qs.getD i pr0).2 := fun i hi => by
  have hm := idL_mem (hp.mem_iff.1 (getI_mem (xs := l) (i := i) (by rw [hp.length_eq, idL_len]; omega)))
  rw [hq i hi, h1 _ (by omega), qv_encQ]
  exact RQ_enc ((Q_num4.mul Q_num4).le (by decide))
theorem y_l19_Equivariant {p : Prop} (h : p := by first | assumption | exact Lb_toL _ | omega | (simp; done) | first | exact hr | exact hp | exact hv1 | exact hv2 | exact Q.le Q_c (by decide) | exact Q.le Q_lev (by decide) | exact RQ_enc (Q.le Q_c (by decide)) | exact RQ_enc (Q.le Q_lev (by decide)) | exact hps6 | exact hqs6 | exact hpi6 | exact Q.le Q_num4 (by decide) | exact Q.le (Q_num4.mul Q_num4) (by decide) | exact Q.le hq.1 (by decide) | exact Q.le hq.2 (by decide) | exact Q.le hq'.1 (by decide) | exact Q.le hq'.2 (by decide) | exact Q.le (hq.1.mul (Q_num4.mul Q_num4)) (by decide) | exact Q.le (hq.2.mul (Q_num4.mul Q_num4)) (by decide) | exact cQ_pos _ | omega) : p := h
set_option maxHeartbeats 4000000 in
theorem l19_Equivariant (s : SA) (raw : List Int) (t : SA) (perm : List Int) (c : Int) (b : Int) (v : Int) (hr : ∀ z ∈ raw, -9223372036854775808 ≤ z ∧ z < 9223372036854775808) (hp : ∀ z ∈ perm, -9223372036854775808 ≤ z ∧ z < 9223372036854775808) (hv1 : -9223372036854775808 ≤ v) (hv2 : v < 9223372036854775808) : Spec Tryz.prog 6 #[sl s raw.length, sl t perm.length, .int .i64 c, .int .i64 b, .int .i64 v] [fI s raw, fI t perm] (ι := Unit) (fun y => .bool true) (fun y => True) (fun y => []) := by
 refine Spec.of_body _ (fn := Tryz.f6) k_ rfl k_ (fun X w0 => ?_)
 refine J.fact (φ := raw.length ≤ 140737488355328) (fun w h => by have := (h _ (.head _)).1; omega) (fun hl1 => ?_)
 refine J.fact (φ := perm.length ≤ 140737488355328) (fun w h => by have := (h _ (.tail _ ((.head _)))).1; omega) (fun hl2 => ?_)
 refine J.sreg ?_
 refine RN.bq (no 1) [0, 1, 2, 3, 4] [] 1 [(0, sl s raw.length), (1, sl t perm.length), (2, .int .i64 c), (3, .int .i64 b), (4, .int .i64 v)] k_ ?_
 refine RN.fs k_ ?_
 refine RN.bq (no 1) [1, 2, 3, 4, 26] [] 1 [(1, sl t perm.length), (2, .int .i64 c), (3, .int .i64 b), (4, .int .i64 v), (26, sl s raw.length)] k_ ?_
 refine RN.call (made_Numbers s raw 6 y_l19_Equivariant y_l19_Equivariant) [0] k_ k_ k_ rfl (fun yl h3 => ?_)
 have hlen := h3
 have hps6 := RQ_made hlen.2
 refine RN.bq (no 1) [1, 2, 3, 27, 28] [] 3 [(1, sl t perm.length), (2, .int .i64 c), (3, .int .i64 b), (27, sl yl.1 yl.2.length), (28, .int .i64 v)] k_ ?_
 refine RN.call (made_Number v y_l19_Equivariant y_l19_Equivariant) [] k_ k_ k_ rfl (fun y4 _ => ?_)
 refine RN.new (fun b => pt b) (.cells (ratC (⟨saNil, saNil⟩ : RA) (⟨false, ([] : List Nat), ([] : List Nat)⟩ : Raw)) 27 (0, 0)) k_ k_ (fun w => by kernel_rfl) (fun b5 => ?_)
 refine RN.bs [none, some 0] [1, 2, 3, 11, 12] [b5, b5, b5] 7 [(1, sl t perm.length), (2, .int .i64 c), (3, .int .i64 b), (11, sl yl.1 yl.2.length), (12, pt b5)] ([(b5, .cells (ratC y4 (encQ (numQ v))) 27 (0, 0))]) k_ ?_
 refine RN.fin k_ ?_
 refine J.seq ?_
 refine J.sreg ?_
 refine RN.bq (no 4) [1, 2, 3, 11, 12, 33] [] 4 [(1, sl t perm.length), (2, .int .i64 c), (3, .int .i64 b), (11, sl yl.1 yl.2.length), (12, pt b5), (33, .bool ((((yl.2.length : Nat) : Int) : Int) == 0))] k_ ?_
 refine RN.split 33 ((((yl.2.length : Nat) : Int) : Int) == 0) k_ (fun c6 => ?_) (fun c6 => ?_)
 ·replace c6 := eq_of_beq c6
  refine RN.bq (no 4) [1, 2, 3, 11, 12, 37] [] 8 [(1, sl t perm.length), (2, .int .i64 c), (3, .int .i64 b), (11, sl yl.1 yl.2.length), (12, pt b5), (37, .bool true)] k_ ?_
  refine RN.fin k_ ?_
  refine J.condT k_ ?_
  refine J.sreg ?_
  refine RN.call (l19_awake) [] k_ k_ k_ rfl (fun y7 _ => ?_)
  refine RN.bq (no 1) [10] [] 2 [(10, .bool true)] k_ ?_
  refine RN.fin k_ ?_
  refine J.ret (KR.next (KR.ret (v := .bool true) (()) [none] [] [] k_ rfl (trivial) rfl))
 ·replace c6 := ne_of_beq_false c6
  have hch := check_made (c := c) (b := b) (n := yl.2.length) (bits := 10) (by omega) (by omega) (by decide) (by decide)
  refine RN.bq [some 0] [1, 2, 3, 11, 12, 33, 34] [b5, b5, b5] 5 [(1, sl t perm.length), (2, .int .i64 c), (3, .int .i64 b), (11, sl yl.1 yl.2.length), (12, pt b5), (33, .bool false), (34, ratV y4 (encQ (numQ v)))] k_ ?_
  refine RN.call (r03_Sign_c y4 (numQ v) y_l19_Equivariant) [0] k_ k_ k_ rfl (fun y8 _ => ?_)
  refine RN.bq (no 2) [1, 2, 3, 11, 12, 37] [] 8 [(1, sl t perm.length), (2, .int .i64 c), (3, .int .i64 b), (11, sl yl.1 yl.2.length), (12, pt b5), (37, .bool (((Int.sign ((numQ v).num)) : Int) == 0))] k_ ?_
  refine RN.fin k_ ?_
  refine J.cond (((Int.sign ((numQ v).num)) : Int) == 0) k_ (fun c9 => ?_) (fun c9 => ?_)
  ·replace c9 := eq_of_beq c9
   refine J.sreg ?_
   refine RN.call (l19_awake) [] k_ k_ k_ rfl (fun y10 _ => ?_)
   refine RN.bq (no 1) [10] [] 2 [(10, .bool true)] k_ ?_
   refine RN.fin k_ ?_
   refine J.ret (KR.next (KR.ret (v := .bool true) (()) [none] [] [] k_ rfl (trivial) rfl))
  ·replace c9 := ne_of_beq_false c9
   have hv0 := mt sign_eq0.2 c9
   refine J.skip ?_
   refine KN.next ?_
   refine J.sreg ?_
   refine RN.bq (no 2) [1, 11, 12, 40, 41] [] 2 [(1, sl t perm.length), (11, sl yl.1 yl.2.length), (12, pt b5), (40, .int .i64 c), (41, .int .i64 b)] k_ ?_
   refine RN.call (l19_constants c b) [] k_ k_ k_ rfl (fun y11 _ => ?_)
   refine RN.bq (no 3) [1, 11, 12, 43, 44] [] 6 [(1, sl t perm.length), (11, sl yl.1 yl.2.length), (12, pt b5), (43, ratV y11.1 (encQ (cQ c))), (44, ratV y11.2 (encQ (levQ b)))] k_ ?_
   refine RN.new (fun b => pt b) (.cells (ratC (⟨saNil, saNil⟩ : RA) (⟨false, ([] : List Nat), ([] : List Nat)⟩ : Raw)) 27 (0, 0)) k_ k_ (fun w => by kernel_rfl) (fun b12 => ?_)
   refine RN.new (fun b => pt b) (.cells (ratC (⟨saNil, saNil⟩ : RA) (⟨false, ([] : List Nat), ([] : List Nat)⟩ : Raw)) 27 (0, 0)) k_ k_ (fun w => by kernel_rfl) (fun b13 => ?_)
   refine RN.bs [some 1, some 0] [1, 11, 12, 13, 14] [b13, b13, b13, b12, b12, b12] 10 [(1, sl t perm.length), (11, sl yl.1 yl.2.length), (12, pt b5), (13, pt b12), (14, pt b13)] ([(b13, .cells (ratC y11.2 (encQ (levQ b))) 27 (0, 0)), (b12, .cells (ratC y11.1 (encQ (cQ c))) 27 (0, 0)), (b5, .cells (ratC y4 (encQ (numQ v))) 27 (0, 0))]) k_ ?_
   refine RN.fs k_ ?_
   refine RN.bq (no 3) [11, 12, 13, 14, 46, 47] [] 3 [(11, sl yl.1 yl.2.length), (12, pt b5), (13, pt b12), (14, pt b13), (46, .int .i64 ((yl.2.length : Nat) : Int)), (47, sl t perm.length)] k_ ?_
   refine RN.call (made_Permutation yl.2.length t perm y_l19_Equivariant) [5] k_ k_ k_ rfl (fun yp h14 => ?_)
   have hpm := h14
   have hpl : yp.2.length = yl.2.length := by rw [hpm.length_eq, idL_len]
   refine RN.bq (no 1) [11, 12, 13, 14, 15] [] 5 [(11, sl yl.1 yl.2.length), (12, pt b5), (13, pt b12), (14, pt b13), (15, sl yp.1 yp.2.length)] k_ ?_
   refine RN.fs k_ ?_
   refine RN.bq (no 1) [11, 12, 13, 14, 15, 16] [] 1 [(11, sl yl.1 yl.2.length), (12, pt b5), (13, pt b12), (14, pt b13), (15, sl yp.1 yp.2.length), (16, .slice none 0 0)] k_ ?_
   refine RN.fin k_ ?_
   refine J.seq ?_
   refine J.sreg ?_
   refine RN.bq (no 1) [11, 12, 13, 14, 15, 16, 17] [] 1 [(11, sl yl.1 yl.2.length), (12, pt b5), (13, pt b12), (14, pt b13), (15, sl yp.1 yp.2.length), (16, .slice none 0 0), (17, .int .i64 0)] k_ ?_
   refine RN.fin k_ ?_
   refine J.block ?_
   refine J.also (allRat ([] : List PR)) (fun w h => allRat_nil w) ?_
   refine J.loop (ι := (Option GB) × (List PR) × (Nat)) (fun x => x.2.2 ≤ yl.2.length ∧ gOk 3 x.1 x.2.1.length ∧ x.2.1.length = x.2.2 ∧ ∀ j, j < x.2.1.length → (x.2.1.getD j pr0).2 = encQ (qv ((yl.2.getD (yp.2.getD j 0).toNat pr0).2) * numQ v)) (fun x => yl.2.length - x.2.2) (fun x => [(11, sl yl.1 yl.2.length), (12, pt b5), (13, pt b12), (14, pt b13), (15, sl yp.1 yp.2.length), (16, sl (glS x.1) x.2.1.length), (17, .int .i64 ((x.2.2 : Nat) : Int))]) (fun x => [(b13, .cells (ratC y11.2 (encQ (levQ b))) 27 (0, 0)), (b12, .cells (ratC y11.1 (encQ (cQ c))) 27 (0, 0)), (b5, .cells (ratC y4 (encQ (numQ v))) 27 (0, 0))] ++ (glM x.1 (encR x.2.1) 27 ++ ([]))) (fun x => [allRat x.2.1, fI yp.1 yp.2, fRat y11.1 (encQ (cQ c)), fRat y11.2 (encQ (levQ b)), fRat y4 (encQ (numQ v)), fRats yl.1 yl.2, fI s raw, fI t perm]) (none, ([] : List PR), 0) [11, 12, 13, 14, 15, 16, 17] [0, 1, 2, 3, 4, 5, 6, 7] (⟨Nat.zero_le _, rfl, rfl, nil_get⟩) k_ (by first | rfl | (simp only [encQ_zero]; done) | (simp only [encQ_zero]; rfl)) (by rfl) (fun x15 hI => ?_)
   obtain ⟨go, out, i⟩ := x15
   replace hI : i ≤ yl.2.length ∧ gOk 3 go out.length ∧ out.length = i ∧ ∀ j, j < out.length → (out.getD j pr0).2 = encQ (qv ((yl.2.getD (yp.2.getD j 0).toNat pr0).2) * numQ v) := hI
   obtain ⟨hI1, hI2, hI3, hI4⟩ := hI
   refine J.seq ?_
   refine J.sreg ?_
   refine RN.bq (no 4) [11, 12, 13, 14, 15, 16, 17, 52] [] 4 [(11, sl yl.1 yl.2.length), (12, pt b5), (13, pt b12), (14, pt b13), (15, sl yp.1 yp.2.length), (16, sl (glS go) out.length), (17, .int .i64 ((i : Nat) : Int)), (52, .bool (decide (((i : Nat) : Int) < ((yl.2.length : Nat) : Int))))] k_ ?_
   refine RN.fin k_ ?_
   refine J.cond (decide (((i : Nat) : Int) < ((yl.2.length : Nat) : Int))) k_ (fun c16 => ?_) (fun c16 => ?_)
   ·replace c16 := of_decide_eq_true c16
    have hpi := idL_mem (hpm.mem_iff.1 (getI_mem (xs := yp.2) (i := i) (by omega)))
    have hpi6 := (hps6 (yp.2.getD i 0).toNat (by omega)).le (by decide : 64 ≤ 268435456)
    refine J.skip ?_
    refine KN.next ?_
    refine J.seq ?_
    refine J.block ?_
    refine J.regD k_ [11] ?_
    refine RD.bq [(0, none), (1, none), (2, none), (3, none), (8, some 2)] [11, 12, 13, 14, 15, 17, 55, 56, 57, 58, 63] [b5, b5, b5] [(11, sl yl.1 yl.2.length), (12, pt b5), (13, pt b12), (14, pt b13), (15, sl yp.1 yp.2.length), (17, .int .i64 ((i : Nat) : Int)), (55, sl (glS go) out.length), (56, sl yl.1 yl.2.length), (57, sl yp.1 yp.2.length), (58, .int .i64 ((i : Nat) : Int)), (63, ratV y4 (encQ (numQ v)))] k_ k_ ?_
    refine RD.val (i := 4) _ k_ k_ k_ (q_iidx (t := 46) (x := (.tmp 57)) (ix := (.tmp 58)) (K := .i64) (i0 := ((i : Nat) : Int)) (m := i) (e := 3) 1 rfl k_ k_ k_ k_ k_ (by omega) x_) ?_
    refine RD.val (i := 5) _ k_ k_ k_ (q_iload (T := 3) (x := (.tmp 59)) (m := i) (s := yp.1) (xs := yp.2) 1 rfl k_ k_ k_ x_) ?_
    refine RD.val (i := 6) _ k_ k_ k_ (q_ridx (t := 22) (x := (.tmp 56)) (ix := (.tmp 60)) (K := .i64) (i0 := yp.2.getD i 0) (m := (yp.2.getD i 0).toNat) (e := 27) 5 rfl k_ k_ k_ k_ k_ (by omega) x_) ?_
    refine RD.val (i := 7) _ k_ k_ k_ (q_rload (T := 27) (x := (.tmp 61)) (m := (yp.2.getD i 0).toNat) (s := yl.1) (ps := yl.2) 5 rfl k_ k_ k_ k_ x_) ?_
    refine RD.also (fRat ((yl.2.getD ((yp.2.getD i 0).toNat) pr0).1) ((yl.2.getD ((yp.2.getD i 0).toNat) pr0).2)) (fun w h => rat_of (h _ (.tail _ ((.tail _ ((.tail _ ((.tail _ ((.tail _ ((.head _)))))))))))) x_) k_ ?_
    refine RD.call (i := 9) (r03_Mul_c2 ((yl.2.getD ((yp.2.getD i 0).toNat) pr0).1) ((yl.2.getD ((yp.2.getD i 0).toNat) pr0).2) y4 (numQ v) y_l19_Equivariant y_l19_Equivariant) [0, 5] k_ k_ k_ k_ k_ rfl (fun y17 _ => ?_)
    refine RD.new (i := 10) (fun b => .slice (some ⟨b, 0, none⟩) 1 1) (.cells (encR ([(y17, (encQ ((qv ((yl.2.getD ((yp.2.getD i 0).toNat) pr0).2)) * (numQ v))))] : List PR)) 27 (0, 0)) k_ k_ k_ k_ (fun w => by kernel_rfl) (fun b18 => ?_)
    refine RD.also (allRat ([(y17, (encQ ((qv ((yl.2.getD ((yp.2.getD i 0).toNat) pr0).2)) * (numQ v))))] : List PR)) (fun w h => allRat_cons (h _ (.head _)) (allRat_nil _)) k_ ?_
    refine RD.ot (i := 11) k_ k_ k_ k_ (ot_rapp (z := .agg #[.bool false, .slice none 0 0, .slice none 0 0]) (T := 22) (e := 27) (by_ := 56) (mi := 0) (b := b18) (k := 1) (c := 1) (x := (.tmp 55)) (y := (.tmp 65)) (go := go) (xs := out) (ys := ([(y17, (encQ ((qv ((yl.2.getD ((yp.2.getD i 0).toNat) pr0).2)) * (numQ v))))] : List PR)) [(b18, .cells (encR ([(y17, (encQ ((qv ((yl.2.getD ((yp.2.getD i 0).toNat) pr0).2)) * (numQ v))))] : List PR)) 27 (0, 0)), (b13, .cells (ratC y11.2 (encQ (levQ b))) 27 (0, 0)), (b12, .cells (ratC y11.1 (encQ (cQ c))) 27 (0, 0)), (b5, .cells (ratC y4 (encQ (numQ v))) 27 (0, 0))] ([]) rfl rfl k_ k_ k_ k_ k_ k_ rfl rfl (by first | decide | exact Nat.zero_lt_one | simp) (by assumption) x_ x_) (fun g19 hg20 => ?_)
    refine RD.also (allRat (out ++ ([(y17, (encQ ((qv ((yl.2.getD ((yp.2.getD i 0).toNat) pr0).2)) * (numQ v))))] : List PR))) (fun w h => allRat_app (h _ (.tail _ ((.tail _ ((.tail _ ((.head _)))))))) (h _ (.head _))) k_ ?_
    refine RD.bq (nl [12]) [11, 12, 13, 14, 15, 16, 17] [] [(11, sl yl.1 yl.2.length), (12, pt b5), (13, pt b12), (14, pt b13), (15, sl yp.1 yp.2.length), (16, sl (glS (some g19)) (out ++ ([(y17, (encQ ((qv ((yl.2.getD ((yp.2.getD i 0).toNat) pr0).2)) * (numQ v))))] : List PR)).length), (17, .int .i64 ((i : Nat) : Int))] k_ k_ ?_
    refine RD.done k_ ?_
    refine KN.blk ?_
    refine KN.next ?_
    refine J.regN ?_
    refine RN.bq (no 2) [11, 12, 13, 14, 15, 16, 54] [] 2 [(11, sl yl.1 yl.2.length), (12, pt b5), (13, pt b12), (14, pt b13), (15, sl yp.1 yp.2.length), (16, sl (glS (some g19)) (out ++ ([(y17, (encQ ((qv ((yl.2.getD ((yp.2.getD i 0).toNat) pr0).2)) * (numQ v))))] : List PR)).length), (54, .int .i64 (IntKind.i64.wrap (((i : Nat) : Int) + 1)))] k_ ?_
    rw [show IntKind.i64.wrap (((i : Nat) : Int) + 1) = ((i + 1 : Nat) : Int) from by rw [IntKind.wrap_i64]; omega]
    refine RN.bq (no 1) [11, 12, 13, 14, 15, 16, 17] [] 3 [(11, sl yl.1 yl.2.length), (12, pt b5), (13, pt b12), (14, pt b13), (15, sl yp.1 yp.2.length), (16, sl (glS (some g19)) (out ++ ([(y17, (encQ ((qv ((yl.2.getD ((yp.2.getD i 0).toNat) pr0).2)) * (numQ v))))] : List PR)).length), (17, .int .i64 ((i + 1 : Nat) : Int))] k_ ?_
    refine RN.done k_ ?_
    refine KN.dropF 1 ?_
    refine KN.roundE (some g19, out ++ ([(y17, (encQ ((qv ((yl.2.getD ((yp.2.getD i 0).toNat) pr0).2)) * (numQ v))))] : List PR), i + 1) [11, 12, 13, 14, 15, 16, 17] [0, 5, 6, 7, 8, 9, 10, 11] (l2 := [(11, sl yl.1 yl.2.length), (12, pt b5), (13, pt b12), (14, pt b13), (15, sl yp.1 yp.2.length), (16, sl (glS (some g19)) (out ++ ([(y17, (encQ ((qv ((yl.2.getD ((yp.2.getD i 0).toNat) pr0).2)) * (numQ v))))] : List PR)).length), (17, .int .i64 ((i + 1 : Nat) : Int))]) (by (try dsimp only); omega) (by (try dsimp only); exact ⟨by omega, by assumption, by simp; omega, snoc_get hI4 (by rw [hI3])⟩) k_ (by rfl) (by rfl) (by rfl)
   ·replace c16 := of_decide_eq_false c16
    have hqs6 := RQ_times hlen.2 hpm (by omega) hI4
    refine J.exit (KX.next (KX.next (KX.hit ?_)))
    refine KN.next ?_
    refine J.sreg ?_
    refine RN.bq [some 2, some 2] [11, 13, 14, 16, 67, 68] [b5, b5, b5, b5, b5, b5] 2 [(11, sl yl.1 yl.2.length), (13, pt b12), (14, pt b13), (16, sl (glS go) out.length), (67, ratV y4 (encQ (numQ v))), (68, ratV y4 (encQ (numQ v)))] k_ ?_
    refine RN.call (r03_Mul_c y4 (numQ v) y4 (numQ v) y_l19_Equivariant y_l19_Equivariant) [4, 4] k_ k_ k_ rfl (fun y21 _ => ?_)
    refine RN.new (fun b => pt b) (.cells (ratC (⟨saNil, saNil⟩ : RA) (⟨false, ([] : List Nat), ([] : List Nat)⟩ : Raw)) 27 (0, 0)) k_ k_ (fun w => by kernel_rfl) (fun b22 => ?_)
    refine RN.bs [some 0] [11, 13, 14, 16, 18] [b22, b22, b22] 5 [(11, sl yl.1 yl.2.length), (13, pt b12), (14, pt b13), (16, sl (glS go) out.length), (18, pt b22)] ([(b22, .cells (ratC y21 (encQ ((numQ v) * (numQ v)))) 27 (0, 0)), (b13, .cells (ratC y11.2 (encQ (levQ b))) 27 (0, 0)), (b12, .cells (ratC y11.1 (encQ (cQ c))) 27 (0, 0)), (b5, .cells (ratC y4 (encQ (numQ v))) 27 (0, 0))] ++ (glM go (encR out) 27 ++ ([]))) k_ ?_
    refine RN.fs k_ ?_
    refine RN.bq [none, some 2, some 1] [13, 14, 16, 18, 71, 72, 73] [b13, b13, b13, b12, b12, b12] 3 [(13, pt b12), (14, pt b13), (16, sl (glS go) out.length), (18, pt b22), (71, sl yl.1 yl.2.length), (72, ratV y11.1 (encQ (cQ c))), (73, ratV y11.2 (encQ (levQ b)))] k_ ?_
    refine RN.call (m19_Scale_c yl.1 yl.2 y11.1 (cQ c) y11.2 (levQ b) 10 y_l19_Equivariant y_l19_Equivariant y_l19_Equivariant y_l19_Equivariant y_l19_Equivariant) [6, 3, 4] k_ k_ k_ rfl (fun ys h23 => ?_)
    have hsc := h23
    have hq := hsc.Q
    refine RN.bq (no 3) [13, 14, 16, 18, 75, 76] [] 7 [(13, pt b12), (14, pt b13), (16, sl (glS go) out.length), (18, pt b22), (75, .agg (ivC ys.1 (encQ ys.2.2.1) ys.2.1 (encQ ys.2.2.2))), (76, .int .i64 (checkE yl.2.length (cQ c) (levQ b) 10))] k_ ?_
    refine RN.new (fun b => pt b) (.cells (ivC (⟨saNil, saNil⟩ : RA) (⟨false, ([] : List Nat), ([] : List Nat)⟩ : Raw) (⟨saNil, saNil⟩ : RA) (⟨false, ([] : List Nat), ([] : List Nat)⟩ : Raw)) 38 (0, 0)) k_ k_ (fun w => by kernel_rfl) (fun b24 => ?_)
    refine RN.bs [some 0, none] [13, 14, 16, 18, 19, 20] [b24, b24, b24, b24, b24, b24] 10 [(13, pt b12), (14, pt b13), (16, sl (glS go) out.length), (18, pt b22), (19, pt b24), (20, .int .i64 (checkE yl.2.length (cQ c) (levQ b) 10))] ([(b24, .cells (ivC ys.1 (encQ ys.2.2.1) ys.2.1 (encQ ys.2.2.2)) 38 (0, 0)), (b22, .cells (ratC y21 (encQ ((numQ v) * (numQ v)))) 27 (0, 0)), (b13, .cells (ratC y11.2 (encQ (levQ b))) 27 (0, 0)), (b12, .cells (ratC y11.1 (encQ (cQ c))) 27 (0, 0)), (b5, .cells (ratC y4 (encQ (numQ v))) 27 (0, 0))] ++ (glM go (encR out) 27 ++ ([]))) k_ ?_
    refine RN.fs k_ ?_
    refine RN.bq [none, some 3, some 2] [13, 14, 16, 18, 19, 20, 78, 79, 80] [b13, b13, b13, b12, b12, b12] 3 [(13, pt b12), (14, pt b13), (16, sl (glS go) out.length), (18, pt b22), (19, pt b24), (20, .int .i64 (checkE yl.2.length (cQ c) (levQ b) 10)), (78, sl (glS go) out.length), (79, ratV y11.1 (encQ (cQ c))), (80, ratV y11.2 (encQ (levQ b)))] k_ ?_
    refine RN.shareG [(b24, .cells (ivC ys.1 (encQ ys.2.2.1) ys.2.1 (encQ ys.2.2.2)) 38 (0, 0)), (b22, .cells (ratC y21 (encQ ((numQ v) * (numQ v)))) 27 (0, 0)), (b13, .cells (ratC y11.2 (encQ (levQ b))) 27 (0, 0)), (b12, .cells (ratC y11.1 (encQ (cQ c))) 27 (0, 0)), (b5, .cells (ratC y4 (encQ (numQ v))) 27 (0, 0))] ([]) rfl (fRats (glS go) out) (fun w hb h => fRats_gl hb (h _ (.tail _ ((.tail _ ((.tail _ ((.head _)))))))) (by assumption) x_) ?_
    refine RN.call (m19_Scale_c (glS go) out y11.1 (cQ c) y11.2 (levQ b) 10 y_l19_Equivariant y_l19_Equivariant y_l19_Equivariant y_l19_Equivariant y_l19_Equivariant) [0, 6, 7] k_ k_ k_ rfl (fun yt h25 => ?_)
    have hsc' := h25
    have hq' := hsc'.Q
    obtain ⟨hG1, hG2⟩ := equiv hv0 hpm (by omega) hI4 hsc hsc' hch
    refine RN.bq (no 3) [13, 14, 16, 18, 19, 20, 82, 83] [] 7 [(13, pt b12), (14, pt b13), (16, sl (glS go) out.length), (18, pt b22), (19, pt b24), (20, .int .i64 (checkE yl.2.length (cQ c) (levQ b) 10)), (82, .agg (ivC yt.1 (encQ yt.2.2.1) yt.2.1 (encQ yt.2.2.2))), (83, .int .i64 (checkE out.length (cQ c) (levQ b) 10))] k_ ?_
    refine RN.new (fun b => pt b) (.cells (ivC (⟨saNil, saNil⟩ : RA) (⟨false, ([] : List Nat), ([] : List Nat)⟩ : Raw) (⟨saNil, saNil⟩ : RA) (⟨false, ([] : List Nat), ([] : List Nat)⟩ : Raw)) 38 (0, 0)) k_ k_ (fun w => by kernel_rfl) (fun b26 => ?_)
    refine RN.bs [some 0, none] [13, 14, 16, 18, 19, 20, 21, 22] [b26, b26, b26, b26, b26, b26] 10 [(13, pt b12), (14, pt b13), (16, sl (glS go) out.length), (18, pt b22), (19, pt b24), (20, .int .i64 (checkE yl.2.length (cQ c) (levQ b) 10)), (21, pt b26), (22, .int .i64 (checkE out.length (cQ c) (levQ b) 10))] ([(b26, .cells (ivC yt.1 (encQ yt.2.2.1) yt.2.1 (encQ yt.2.2.2)) 38 (0, 0)), (b24, .cells (ivC ys.1 (encQ ys.2.2.1) ys.2.1 (encQ ys.2.2.2)) 38 (0, 0)), (b22, .cells (ratC y21 (encQ ((numQ v) * (numQ v)))) 27 (0, 0)), (b13, .cells (ratC y11.2 (encQ (levQ b))) 27 (0, 0)), (b12, .cells (ratC y11.1 (encQ (cQ c))) 27 (0, 0)), (b5, .cells (ratC y4 (encQ (numQ v))) 27 (0, 0))]) k_ ?_
    refine RN.fin k_ ?_
    refine J.seqC (ι := (RA) × (RA) × (Nat)) (fun x => True) (fun x => [(13, pt b12), (14, pt b13), (16, sl (glS go) out.length), (20, .int .i64 (checkE yl.2.length (cQ c) (levQ b) 10)), (21, pt b26), (22, .int .i64 (checkE out.length (cQ c) (levQ b) 10)), (23, .pointer (some ⟨x.2.2, 0, none⟩))]) (fun x => [(x.2.2, .cells (ivC x.1 (encQ (ys.2.2.1 * ((numQ v) * (numQ v)))) x.2.1 (encQ (ys.2.2.2 * ((numQ v) * (numQ v))))) 38 (0, 0)), (b26, .cells (ivC yt.1 (encQ yt.2.2.1) yt.2.1 (encQ yt.2.2.2)) 38 (0, 0)), (b24, .cells (ivC ys.1 (encQ ys.2.2.1) ys.2.1 (encQ ys.2.2.2)) 38 (0, 0)), (b22, .cells (ratC y21 (encQ ((numQ v) * (numQ v)))) 27 (0, 0)), (b13, .cells (ratC y11.2 (encQ (levQ b))) 27 (0, 0)), (b12, .cells (ratC y11.1 (encQ (cQ c))) 27 (0, 0)), (b5, .cells (ratC y4 (encQ (numQ v))) 27 (0, 0))]) (fun x => [fRat x.2.1 (encQ (ys.2.2.2 * ((numQ v) * (numQ v)))), fRat x.1 (encQ (ys.2.2.1 * ((numQ v) * (numQ v)))), fRat yt.1 (encQ yt.2.2.1), fRat yt.2.1 (encQ yt.2.2.2), fRats (glS go) out, fRat ys.1 (encQ ys.2.2.1), fRat ys.2.1 (encQ ys.2.2.2), fRat y21 (encQ ((numQ v) * (numQ v))), allRat out, fI yp.1 yp.2, fRat y11.1 (encQ (cQ c)), fRat y11.2 (encQ (levQ b)), fRat y4 (encQ (numQ v)), fRats yl.1 yl.2, fI s raw, fI t perm]) ?_ ?_
    ·refine J.regD k_ [10] ?_
     refine RD.bq [(0, none), (1, some 1), (2, some 2), (4, none), (5, some 1), (6, some 2)] [13, 14, 16, 20, 21, 22, 85, 86, 89, 90] [b22, b22, b22, b24, b24, b24, b22, b22, b22, b24, b24, b24] [(13, pt b12), (14, pt b13), (16, sl (glS go) out.length), (20, .int .i64 (checkE yl.2.length (cQ c) (levQ b) 10)), (21, pt b26), (22, .int .i64 (checkE out.length (cQ c) (levQ b) 10)), (85, ratV ys.1 (encQ ys.2.2.1)), (86, ratV y21 (encQ ((numQ v) * (numQ v)))), (89, ratV ys.2.1 (encQ ys.2.2.2)), (90, ratV y21 (encQ ((numQ v) * (numQ v))))] k_ k_ ?_
     refine RD.forkL (is := [3, 9]) k_ rfl k_ ⟨?_, ?_, trivial⟩
     ·refine RDi.call (i := 3) (r03_Mul_c ys.1 ys.2.2.1 y21 ((numQ v) * (numQ v)) y_l19_Equivariant y_l19_Equivariant) [3, 5] k_ k_ k_ k_ rfl (fun y27 _ => ?_)
      refine RD.forkL (is := [7, 9]) k_ rfl k_ ⟨?_, ?_, trivial⟩
      ·refine RDi.call (i := 7) (r03_Mul_c ys.2.1 ys.2.2.2 y21 ((numQ v) * (numQ v)) y_l19_Equivariant y_l19_Equivariant) [5, 6] k_ k_ k_ k_ rfl (fun y28 _ => ?_)
       refine RD.bq (nl [8]) [13, 14, 16, 20, 21, 22, 92] [] [(13, pt b12), (14, pt b13), (16, sl (glS go) out.length), (20, .int .i64 (checkE yl.2.length (cQ c) (levQ b) 10)), (21, pt b26), (22, .int .i64 (checkE out.length (cQ c) (levQ b) 10)), (92, .agg (ivC y27 (encQ (ys.2.2.1 * ((numQ v) * (numQ v)))) y28 (encQ (ys.2.2.2 * ((numQ v) * (numQ v))))))] k_ k_ ?_
       refine RD.new (i := 9) (fun b => pt b) (.cells (ivC (⟨saNil, saNil⟩ : RA) (⟨false, ([] : List Nat), ([] : List Nat)⟩ : Raw) (⟨saNil, saNil⟩ : RA) (⟨false, ([] : List Nat), ([] : List Nat)⟩ : Raw)) 38 (0, 0)) k_ k_ k_ k_ (fun w => by kernel_rfl) (fun b29 => ?_)
       refine RD.last (i := 10) (some 0) [13, 14, 16, 20, 21, 22, 23] [b29, b29, b29, b29, b29, b29] k_ k_ k_ (l' := [(13, pt b12), (14, pt b13), (16, sl (glS go) out.length), (20, .int .i64 (checkE yl.2.length (cQ c) (levQ b) 10)), (21, pt b26), (22, .int .i64 (checkE out.length (cQ c) (levQ b) 10)), (23, pt b29)]) (M' := [(b29, .cells (ivC y27 (encQ (ys.2.2.1 * ((numQ v) * (numQ v)))) y28 (encQ (ys.2.2.2 * ((numQ v) * (numQ v))))) 38 (0, 0)), (b26, .cells (ivC yt.1 (encQ yt.2.2.1) yt.2.1 (encQ yt.2.2.2)) 38 (0, 0)), (b24, .cells (ivC ys.1 (encQ ys.2.2.1) ys.2.1 (encQ ys.2.2.2)) 38 (0, 0)), (b22, .cells (ratC y21 (encQ ((numQ v) * (numQ v)))) 27 (0, 0)), (b13, .cells (ratC y11.2 (encQ (levQ b))) 27 (0, 0)), (b12, .cells (ratC y11.1 (encQ (cQ c))) 27 (0, 0)), (b5, .cells (ratC y4 (encQ (numQ v))) 27 (0, 0))]) k_ ?_
       refine RD.done k_ ?_
       refine KN.meet (y27, y28, b29) [13, 14, 16, 20, 21, 22, 23] [0, 1, 2, 3, 4, 5, 6, 7, 8, 9, 10, 11, 12, 13, 14, 15] (l2 := [(13, pt b12), (14, pt b13), (16, sl (glS go) out.length), (20, .int .i64 (checkE yl.2.length (cQ c) (levQ b) 10)), (21, pt b26), (22, .int .i64 (checkE out.length (cQ c) (levQ b) 10)), (23, pt b29)]) (by exact trivial) k_ (by rfl) (by rfl) (by rfl)
      ·refine RDi.new (i := 9) (fun b => pt b) (.cells (ivC (⟨saNil, saNil⟩ : RA) (⟨false, ([] : List Nat), ([] : List Nat)⟩ : Raw) (⟨saNil, saNil⟩ : RA) (⟨false, ([] : List Nat), ([] : List Nat)⟩ : Raw)) 38 (0, 0)) k_ k_ k_ (fun w => by kernel_rfl) (fun b30 => ?_)
       refine RD.call (i := 7) (r03_Mul_c ys.2.1 ys.2.2.2 y21 ((numQ v) * (numQ v)) y_l19_Equivariant y_l19_Equivariant) [5, 6] k_ k_ k_ k_ k_ rfl (fun y31 _ => ?_)
       refine RD.bq (nl [8]) [13, 14, 16, 20, 21, 22, 23, 92] [] [(13, pt b12), (14, pt b13), (16, sl (glS go) out.length), (20, .int .i64 (checkE yl.2.length (cQ c) (levQ b) 10)), (21, pt b26), (22, .int .i64 (checkE out.length (cQ c) (levQ b) 10)), (23, pt b30), (92, .agg (ivC y27 (encQ (ys.2.2.1 * ((numQ v) * (numQ v)))) y31 (encQ (ys.2.2.2 * ((numQ v) * (numQ v))))))] k_ k_ ?_
       refine RD.last (i := 10) (some 0) [13, 14, 16, 20, 21, 22, 23] [b30, b30, b30, b30, b30, b30] k_ k_ k_ (l' := [(13, pt b12), (14, pt b13), (16, sl (glS go) out.length), (20, .int .i64 (checkE yl.2.length (cQ c) (levQ b) 10)), (21, pt b26), (22, .int .i64 (checkE out.length (cQ c) (levQ b) 10)), (23, pt b30)]) (M' := [(b30, .cells (ivC y27 (encQ (ys.2.2.1 * ((numQ v) * (numQ v)))) y31 (encQ (ys.2.2.2 * ((numQ v) * (numQ v))))) 38 (0, 0)), (b26, .cells (ivC yt.1 (encQ yt.2.2.1) yt.2.1 (encQ yt.2.2.2)) 38 (0, 0)), (b24, .cells (ivC ys.1 (encQ ys.2.2.1) ys.2.1 (encQ ys.2.2.2)) 38 (0, 0)), (b22, .cells (ratC y21 (encQ ((numQ v) * (numQ v)))) 27 (0, 0)), (b13, .cells (ratC y11.2 (encQ (levQ b))) 27 (0, 0)), (b12, .cells (ratC y11.1 (encQ (cQ c))) 27 (0, 0)), (b5, .cells (ratC y4 (encQ (numQ v))) 27 (0, 0))]) k_ ?_
       refine RD.done k_ ?_
       refine KN.meet (y27, y31, b30) [13, 14, 16, 20, 21, 22, 23] [0, 1, 2, 3, 4, 5, 6, 7, 8, 9, 10, 11, 12, 13, 14, 15] (l2 := [(13, pt b12), (14, pt b13), (16, sl (glS go) out.length), (20, .int .i64 (checkE yl.2.length (cQ c) (levQ b) 10)), (21, pt b26), (22, .int .i64 (checkE out.length (cQ c) (levQ b) 10)), (23, pt b30)]) (by exact trivial) k_ (by rfl) (by rfl) (by rfl)
     ·refine RDi.new (i := 9) (fun b => pt b) (.cells (ivC (⟨saNil, saNil⟩ : RA) (⟨false, ([] : List Nat), ([] : List Nat)⟩ : Raw) (⟨saNil, saNil⟩ : RA) (⟨false, ([] : List Nat), ([] : List Nat)⟩ : Raw)) 38 (0, 0)) k_ k_ k_ (fun w => by kernel_rfl) (fun b32 => ?_)
      refine RD.call (i := 3) (r03_Mul_c ys.1 ys.2.2.1 y21 ((numQ v) * (numQ v)) y_l19_Equivariant y_l19_Equivariant) [3, 5] k_ k_ k_ k_ k_ rfl (fun y33 _ => ?_)
      refine RD.call (i := 7) (r03_Mul_c ys.2.1 ys.2.2.2 y21 ((numQ v) * (numQ v)) y_l19_Equivariant y_l19_Equivariant) [5, 6] k_ k_ k_ k_ k_ rfl (fun y34 _ => ?_)
      refine RD.bq (nl [8]) [13, 14, 16, 20, 21, 22, 23, 92] [] [(13, pt b12), (14, pt b13), (16, sl (glS go) out.length), (20, .int .i64 (checkE yl.2.length (cQ c) (levQ b) 10)), (21, pt b26), (22, .int .i64 (checkE out.length (cQ c) (levQ b) 10)), (23, pt b32), (92, .agg (ivC y33 (encQ (ys.2.2.1 * ((numQ v) * (numQ v)))) y34 (encQ (ys.2.2.2 * ((numQ v) * (numQ v))))))] k_ k_ ?_
      refine RD.last (i := 10) (some 0) [13, 14, 16, 20, 21, 22, 23] [b32, b32, b32, b32, b32, b32] k_ k_ k_ (l' := [(13, pt b12), (14, pt b13), (16, sl (glS go) out.length), (20, .int .i64 (checkE yl.2.length (cQ c) (levQ b) 10)), (21, pt b26), (22, .int .i64 (checkE out.length (cQ c) (levQ b) 10)), (23, pt b32)]) (M' := [(b32, .cells (ivC y33 (encQ (ys.2.2.1 * ((numQ v) * (numQ v)))) y34 (encQ (ys.2.2.2 * ((numQ v) * (numQ v))))) 38 (0, 0)), (b26, .cells (ivC yt.1 (encQ yt.2.2.1) yt.2.1 (encQ yt.2.2.2)) 38 (0, 0)), (b24, .cells (ivC ys.1 (encQ ys.2.2.1) ys.2.1 (encQ ys.2.2.2)) 38 (0, 0)), (b22, .cells (ratC y21 (encQ ((numQ v) * (numQ v)))) 27 (0, 0)), (b13, .cells (ratC y11.2 (encQ (levQ b))) 27 (0, 0)), (b12, .cells (ratC y11.1 (encQ (cQ c))) 27 (0, 0)), (b5, .cells (ratC y4 (encQ (numQ v))) 27 (0, 0))]) k_ ?_
      refine RD.done k_ ?_
      refine KN.meet (y33, y34, b32) [13, 14, 16, 20, 21, 22, 23] [0, 1, 2, 3, 4, 5, 6, 7, 8, 9, 10, 11, 12, 13, 14, 15] (l2 := [(13, pt b12), (14, pt b13), (16, sl (glS go) out.length), (20, .int .i64 (checkE yl.2.length (cQ c) (levQ b) 10)), (21, pt b26), (22, .int .i64 (checkE out.length (cQ c) (levQ b) 10)), (23, pt b32)]) (by exact trivial) k_ (by rfl) (by rfl) (by rfl)
    ·intro x35 hx36
     obtain ⟨y27, y28, b29⟩ := x35
     replace hx36 : True := hx36
     refine J.sreg ?_
     refine RN.bq [some 0, some 1] [13, 14, 16, 20, 22, 23, 94, 95] [b26, b26, b26, b26, b26, b26, b29, b29, b29, b29, b29, b29] 2 [(13, pt b12), (14, pt b13), (16, sl (glS go) out.length), (20, .int .i64 (checkE yl.2.length (cQ c) (levQ b) 10)), (22, .int .i64 (checkE out.length (cQ c) (levQ b) 10)), (23, pt b29), (94, .agg (ivC y27 (encQ (ys.2.2.1 * ((numQ v) * (numQ v)))) y28 (encQ (ys.2.2.2 * ((numQ v) * (numQ v)))))), (95, .agg (ivC yt.1 (encQ yt.2.2.1) yt.2.1 (encQ yt.2.2.2)))] k_ ?_
     refine RN.call (r04_Meet y27 (ys.2.2.1 * ((numQ v) * (numQ v))) y28 (ys.2.2.2 * ((numQ v) * (numQ v))) yt.1 yt.2.2.1 yt.2.1 yt.2.2.2 y_l19_Equivariant y_l19_Equivariant y_l19_Equivariant y_l19_Equivariant) [1, 0, 2, 3] k_ k_ k_ rfl (fun y37 _ => ?_)
     refine RN.bq (no 3) [13, 14, 16, 20, 22, 23, 97, 98] [] 6 [(13, pt b12), (14, pt b13), (16, sl (glS go) out.length), (20, .int .i64 (checkE yl.2.length (cQ c) (levQ b) 10)), (22, .int .i64 (checkE out.length (cQ c) (levQ b) 10)), (23, pt b29), (97, .agg (ivC y37.1 (encQ (mLo (ys.2.2.1 * ((numQ v) * (numQ v))) (ys.2.2.2 * ((numQ v) * (numQ v))) yt.2.2.1 yt.2.2.2)) y37.2 (encQ (mHi (ys.2.2.1 * ((numQ v) * (numQ v))) (ys.2.2.2 * ((numQ v) * (numQ v))) yt.2.2.1 yt.2.2.2)))), (98, .bool (meetB (ys.2.2.1 * ((numQ v) * (numQ v))) (ys.2.2.2 * ((numQ v) * (numQ v))) yt.2.2.1 yt.2.2.2))] k_ ?_
     refine RN.new (fun b => pt b) (.cells (ivC (⟨saNil, saNil⟩ : RA) (⟨false, ([] : List Nat), ([] : List Nat)⟩ : Raw) (⟨saNil, saNil⟩ : RA) (⟨false, ([] : List Nat), ([] : List Nat)⟩ : Raw)) 38 (0, 0)) k_ k_ (fun w => by kernel_rfl) (fun b38 => ?_)
     refine RN.bs [some 0, none] [13, 14, 16, 20, 22, 23, 25] [b38, b38, b38, b38, b38, b38] 9 [(13, pt b12), (14, pt b13), (16, sl (glS go) out.length), (20, .int .i64 (checkE yl.2.length (cQ c) (levQ b) 10)), (22, .int .i64 (checkE out.length (cQ c) (levQ b) 10)), (23, pt b29), (25, .bool (meetB (ys.2.2.1 * ((numQ v) * (numQ v))) (ys.2.2.2 * ((numQ v) * (numQ v))) yt.2.2.1 yt.2.2.2))] ([(b38, .cells (ivC y37.1 (encQ (mLo (ys.2.2.1 * ((numQ v) * (numQ v))) (ys.2.2.2 * ((numQ v) * (numQ v))) yt.2.2.1 yt.2.2.2)) y37.2 (encQ (mHi (ys.2.2.1 * ((numQ v) * (numQ v))) (ys.2.2.2 * ((numQ v) * (numQ v))) yt.2.2.1 yt.2.2.2))) 38 (0, 0)), (b29, .cells (ivC y27 (encQ (ys.2.2.1 * ((numQ v) * (numQ v)))) y28 (encQ (ys.2.2.2 * ((numQ v) * (numQ v))))) 38 (0, 0)), (b26, .cells (ivC yt.1 (encQ yt.2.2.1) yt.2.1 (encQ yt.2.2.2)) 38 (0, 0)), (b24, .cells (ivC ys.1 (encQ ys.2.2.1) ys.2.1 (encQ ys.2.2.2)) 38 (0, 0)), (b22, .cells (ratC y21 (encQ ((numQ v) * (numQ v)))) 27 (0, 0)), (b13, .cells (ratC y11.2 (encQ (levQ b))) 27 (0, 0)), (b12, .cells (ratC y11.1 (encQ (cQ c))) 27 (0, 0)), (b5, .cells (ratC y4 (encQ (numQ v))) 27 (0, 0))]) k_ ?_
     refine RN.fs k_ ?_
     refine RN.call (l19_awake) [] k_ k_ k_ rfl (fun y39 _ => ?_)
     refine RN.bq (no 5) [13, 14, 16, 22, 23, 25, 104] [] 6 [(13, pt b12), (14, pt b13), (16, sl (glS go) out.length), (22, .int .i64 (checkE out.length (cQ c) (levQ b) 10)), (23, pt b29), (25, .bool (meetB (ys.2.2.1 * ((numQ v) * (numQ v))) (ys.2.2.2 * ((numQ v) * (numQ v))) yt.2.2.1 yt.2.2.2)), (104, .bool (((checkE yl.2.length (cQ c) (levQ b) 10) : Int) == 0))] k_ ?_
     refine RN.split 104 (((checkE yl.2.length (cQ c) (levQ b) 10) : Int) == 0) k_ (fun c40 => ?_) (fun c40 => ?_)
     ·replace c40 := eq_of_beq c40
      refine RN.bq (no 4) [13, 14, 16, 23, 25, 108] [] 10 [(13, pt b12), (14, pt b13), (16, sl (glS go) out.length), (23, pt b29), (25, .bool (meetB (ys.2.2.1 * ((numQ v) * (numQ v))) (ys.2.2.2 * ((numQ v) * (numQ v))) yt.2.2.1 yt.2.2.2)), (108, .bool (((checkE out.length (cQ c) (levQ b) 10) : Int) == 0))] k_ ?_
      refine RN.split 108 (((checkE out.length (cQ c) (levQ b) 10) : Int) == 0) k_ (fun c41 => ?_) (fun c41 => ?_)
      ·replace c41 := eq_of_beq c41
       refine RN.bq (no 3) [13, 14, 16, 23, 111] [] 13 [(13, pt b12), (14, pt b13), (16, sl (glS go) out.length), (23, pt b29), (111, .bool (meetB (ys.2.2.1 * ((numQ v) * (numQ v))) (ys.2.2.2 * ((numQ v) * (numQ v))) yt.2.2.1 yt.2.2.2))] k_ ?_
       refine RN.split 111 (meetB (ys.2.2.1 * ((numQ v) * (numQ v))) (ys.2.2.2 * ((numQ v) * (numQ v))) yt.2.2.1 yt.2.2.2) k_ (fun c42 => ?_) (fun c42 => ?_)
       ·refine RN.bq [none, some 6, some 5, some 1] [111, 112, 113, 114, 115] [b29, b29, b29, b29, b29, b29, b13, b13, b13, b12, b12, b12] 17 [(111, .bool true), (112, sl (glS go) out.length), (113, ratV y11.1 (encQ (cQ c))), (114, ratV y11.2 (encQ (levQ b))), (115, .agg (ivC y27 (encQ (ys.2.2.1 * ((numQ v) * (numQ v)))) y28 (encQ (ys.2.2.2 * ((numQ v) * (numQ v))))))] k_ ?_
        refine RN.call (r19_Holds_c (glS go) out y11.1 (cQ c) y11.2 (levQ b) 10 y27 (ys.2.2.1 * ((numQ v) * (numQ v))) y28 (ys.2.2.2 * ((numQ v) * (numQ v))) y_l19_Equivariant y_l19_Equivariant y_l19_Equivariant y_l19_Equivariant y_l19_Equivariant y_l19_Equivariant y_l19_Equivariant y_l19_Equivariant y_l19_Equivariant y_l19_Equivariant y_l19_Equivariant) [6, 12, 13, 3, 2] k_ k_ k_ rfl (fun y43 _ => ?_)
        refine RN.bq (no 2) [10] [] 20 [(10, .bool (holdsB (vals out) out.length (cQ c) (levQ b) 10 (ys.2.2.1 * ((numQ v) * (numQ v))) (ys.2.2.2 * ((numQ v) * (numQ v)))))] k_ ?_
        refine RN.fin k_ ?_
        have e_1 : true = (holdsB (vals out) out.length (cQ c) (levQ b) 10 (ys.2.2.1 * ((numQ v) * (numQ v))) (ys.2.2.2 * ((numQ v) * (numQ v)))) := by first | rfl | exact hG2.symm
        refine J.ret (KR.ret (v := .bool (holdsB (vals out) out.length (cQ c) (levQ b) 10 (ys.2.2.1 * ((numQ v) * (numQ v))) (ys.2.2.2 * ((numQ v) * (numQ v))))) (()) [none] [] [] k_ v1_ (trivial) v1_)
       ·exact absurd c42 (by rw [hG1]; simp)
      ·replace c41 := ne_of_beq_false c41
       exact absurd c41 (by exact fun h => h (by rw [show out.length = yl.2.length from by omega]; exact hch))
     ·replace c40 := ne_of_beq_false c40
      exact absurd c40 (by exact fun h => h hch)
end Go.Proofs.YtegnonhgildhoaaGreat.E
/- A row's arguments, read as data, become facts about memory; a contract's frame becomes the row's. -/
namespace Go.Proofs.YtegnonhgildhoaaGreat.E
open Go Go.RowKit Go.ChangeShapes Go.WideShapes
set_option linter.unusedVariables false
set_option linter.unusedSimpArgs false
section
variable {H : Type} {enc : TypeId × Value → H} {P : Program} {w w' : World} {fuel t e : Nat} {cs : List Value} {x : DataW H × List MemPlace}
def Wt (P : Program) (t : TypeId) (d : DataW H) : Prop := ∀ n ∈ d.weights P t, n ≤ reachBytes
theorem Wt.of_each {ts : List TypeId} {ds : List (DataW H)} (h : (DataW.weightsEach P ts ds).all (· ≤ reachBytes) = true) {j : Nat} {t : TypeId} {d : DataW H} (ht : ts[j]? = some t) (hd : ds[j]? = some d) : Wt P t d := fun n hn => by
  have := List.all_eq_true.1 h n (DataW.weights_mem_each ht hd n hn)
  simpa using this
theorem Wt.of_mem {ts : List TypeId} {ds : List (DataW H)} (h : ∀ n ∈ DataW.weightsEach P ts ds, n ≤ reachBytes) {j : Nat} {t : TypeId} {d : DataW H} (ht : ts[j]? = some t) (hd : ds[j]? = some d) : Wt P t d := fun n hn =>
  h n (DataW.weights_mem_each ht hd n hn)
theorem weightsAll_mem {e : TypeId} : ∀ {ds : List (DataW H)} {d : DataW H}, d ∈ ds → ∀ n ∈ d.weights P e, n ∈ DataW.weightsAll P e ds
  | [], _, h, _, _ => by cases h
  | d0 :: r, d, h, n, hn => by
    rcases List.mem_cons.1 h with rfl | h
    · simp [DataW.weightsAll, hn]
    · simp [DataW.weightsAll, weightsAll_mem h n hn]
theorem Wt.slice {elems rest : List (DataW H)} (ht : P.underlying t = some (.slice e)) (h : Wt P t (.slice elems rest)) : (elems.length + rest.length) * P.bytesOf e ≤ reachBytes ∧ ∀ d ∈ elems, Wt P e d := by
  unfold Wt at h
  simp only [DataW.weights, ht] at h
  exact ⟨h _ List.mem_cons_self, fun d hd n hn => h n (List.mem_cons_of_mem _ (List.mem_append_left _ (weightsAll_mem hd n hn)))⟩
theorem Wt.agg {fs : Array Field} {parts : List (DataW H)} (ht : P.underlying t = some (.struct fs)) (h : Wt P t (.agg parts)) {j : Nat} {f : Field} {d : DataW H} (hf : fs[j]? = some f) (hd : parts[j]? = some d) : Wt P f.type d := by
  unfold Wt at h
  simp only [DataW.weights, ht] at h
  exact Wt.of_mem (j := j) h (by simp [List.getElem?_map, Array.getElem?_toList, hf]) hd
theorem cell_spot {a : Addr} {v : Value} (h : w.cell? a = some v) : a.spot = none := by
  unfold World.cell? at h
  split at h
  · split at h
    · cases h
    · rename_i h0; simpa using h0
  · cases h
theorem cell_off (ho : Off (fun _ => False) w w') {a : Addr} {v : Value} (h : w.cell? a = some v) : w'.cell? a = some v := by
  have hlt : a.block < w.heap.size := by
    unfold World.cell? at h
    cases hb : w.heap[a.block]? with
    | none => rw [hb] at h; cases h
    | some o => exact (Array.getElem?_eq_some_iff.1 hb).1
  unfold World.cell? at *
  rw [ho.2 a.block hlt (fun h => h)]; exact h
theorem fI_off (ho : Off (fun _ => False) w w') {s : SA} {xs : List Int} (h : fI s xs w) : fI s xs w' := ⟨h.1, fun i hi => ⟨(h.2 i hi).1, (h.2 i hi).2.1, cell_off ho (h.2 i hi).2.2⟩⟩
theorem wf_i64 {z : Int} (h : (Lit.int .i64 z).wf = true) : -9223372036854775808 ≤ z ∧ z < 9223372036854775808 := by
  have := bounds_i64 h
  omega
/-- A slice of ints. -/
theorem open_I (ht : P.underlying t = some (.slice e)) (he : P.underlying e = some (.int .i64)) (hc : P.cellsOf e = 1) (hb : 1 ≤ P.bytesOf e)
    (h : DataW.trod enc P w 0 (fun _ => true) true fuel t cs = some x) (hw : Wt P t x.1) : ∃ s xs, cs = [sl s xs.length] ∧ fI s xs w ∧ ∀ z ∈ xs, -9223372036854775808 ≤ z ∧ z < 9223372036854775808 := by
  rcases open_ints ht he hc h with ⟨rfl, rfl⟩ | ⟨a, len, cap, zs, rfl, _, hl, hm, hz, rfl, hcell, hwf⟩
  · exact ⟨saNil, [], rfl, fI_nil w, fun z hz => by cases hz⟩
  · simp only [if_true] at hz
    have hlen : len ≤ zs.length := by omega
    have hb2 := (hw.slice ht).1
    have h47 : len ≤ 140737488355328 := by
      have h1 : len ≤ (lits (H := H) .i64 (zs.take len)).length + (lits (H := H) .i64 (zs.drop len)).length := by simp [lits]; omega
      have h2 := Nat.le_trans (Nat.mul_le_mul h1 hb) hb2
      have : reachBytes ≤ 140737488355328 := by decide
      omega
    refine ⟨⟨some a, cap⟩, zs.take len, by simp [sl, Nat.min_eq_left hlen], ⟨⟨by simp; omega, by simp; omega⟩, fun i hi => ?_⟩, fun y hy => ?_⟩
    · have hi' : i < len := by simp at hi; omega
      have h0 := hcell 0 (by omega)
      have hs : a.spot = none := by have := cell_spot h0; simpa [Addr.add] using this
      refine ⟨rfl, hs, ?_⟩
      show w.cell? (a.add i) = _
      rw [hcell i (by omega)]
      simp [List.getD_eq_getElem?_getD, List.getElem?_take, hi']
    · have := hwf y (List.mem_of_mem_take hy)
      exact wf_i64 this
/-- The types of a number. -/
def structOf (P : Program) (t : TypeId) : Option (List (TypeId × Nat)) := match P.underlying t with
  | some (.struct fs) => some (fs.toList.map fun f => (f.type, f.offset))
  | _ => none
structure RTy (P : Program) (tR tI tU tB tE : TypeId) : Prop where
  r : structOf P tR = some [(tI, 0), (tU, 2)]
  i : structOf P tI = some [(tB, 0), (tU, 1)]
  u : P.underlying tU = some (.slice tE)
  b : P.underlying tB = some .bool
  e : P.underlying tE = some (.int .u32)
  cR : P.cellsOf tR = 3
  cI : P.cellsOf tI = 2
  cU : P.cellsOf tU = 1
  cB : P.cellsOf tB = 1
  cE : P.cellsOf tE = 1
  bE : 1 ≤ P.bytesOf tE
variable {tR tI tU tB tE : TypeId}
theorem sl_of {v : Value} {A : Option Addr} {len cap : Nat} {s : SA} {k : Nat} (hv : v = .slice A len cap) (h : v.cells.toList = [sl s k]) : v = sl s k := by
  subst hv
  simpa [Value.cells] using h
theorem arg_Ints {r : Reach} {b0 : Nat} {v : Value} {d : DataW H} {pl : List MemPlace} (ht : P.underlying t = some (.slice e)) (he : P.underlying e = some (.int .i64)) (hc : P.cellsOf e = 1) (hb : 1 ≤ P.bytesOf e) (hv : Value.okWide P w r b0 t v) (h : DataW.Trod enc P w 0 (fun _ => true) true t v d pl) (hw : Wt P t d) :
    ∃ s xs, v = sl s xs.length ∧ fI s xs w ∧ ∀ z ∈ xs, -9223372036854775808 ≤ z ∧ z < 9223372036854775808 := by
  obtain ⟨A, len, cap, hA⟩ := okWide_slice ht hv
  obtain ⟨n, hn⟩ := h
  obtain ⟨s, ps, h1, h2, h3⟩ := open_I ht he hc hb (x := (d, pl)) hn hw
  exact ⟨s, ps, sl_of hA h1, h2, h3⟩
theorem arg_int {r : Reach} {b0 : Nat} {v : Value} {d : DataW H} {pl : List MemPlace} (ht : P.underlying t = some (.int .i64)) (hv : Value.okWide P w r b0 t v) (h : DataW.Trod enc P w 0 (fun _ => true) true t v d pl) :
    ∃ z : Int, v = .int .i64 z ∧ -9223372036854775808 ≤ z ∧ z < 9223372036854775808 := by
  obtain ⟨z, h1, _, _, h2⟩ := open_int ht hv h
  exact ⟨z, h1, wf_i64 h2⟩
theorem Frm.below (h : Frm (fun _ => False) w w') : Below w.heap.size w w' := ⟨h.os, h.tape, h.output, h.off.1, fun k hk => h.off.2 k hk (fun h => h)⟩
/-- A contract that answers true, called at a row's start. -/
theorem row_call {f : FuncId} {args : Array Value} {Fin : List Fact} {ι : Type} {φ : ι → Prop} {Fout : ι → List Fact} (spec : Spec P f args Fin (ι := ι) (fun _ => .bool true) φ Fout) (hF : ∀ p ∈ Fin, Rob (fun _ => False) p w) :
    Calls P f args w fun e w' => e = .returned (.bool true) ∧ Below w.heap.size w w' :=
  (spec.calls (fun _ => False) w (fun k hk => hk.elim) hF).mono (by
    rintro e w' ⟨x, rfl, _, hf, _⟩
    exact ⟨rfl, hf.below⟩)
end
end Go.Proofs.YtegnonhgildhoaaGreat.E
