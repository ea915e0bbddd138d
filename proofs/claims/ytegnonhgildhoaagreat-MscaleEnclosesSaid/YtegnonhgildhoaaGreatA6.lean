/- Lemmas and contracts of functions on the way to the law, part 6. -/
import Derived.WalkKit
import Derived.ProofKit
import Derived.OpenShut
import Derived.ChangeOld
import Derived.Below
import Derived.SizedLaws
import Derived.Test.YtegnonhgildhoaaGreatA5
namespace Go.Proofs.YtegnonhgildhoaaGreat.E
open Go Go.RowKit
set_option linter.unusedVariables false
set_option linter.unusedSimpArgs false
def smallB (r : Raw) : Bool := decide (r.mag.length ≤ 2) && decide (r.den.length ≤ 2)
def lightB (ps : List PR) : Bool := decide (ps.length ≤ 8 ∧ ∀ i, i < ps.length → smallB (ps.getD i pr0).2 = true)
theorem lightB_f {ps : List PR} {i : Nat} (hi : i < ps.length) (h : (!smallB (ps.getD i pr0).2) = true) : lightB ps = false := by
  rw [lightB, decide_eq_false_iff_not]
  intro h2
  have := h2.2 i hi
  rw [this] at h; simp at h
theorem lightB_8 {ps : List PR} (h : ¬ ps.length ≤ 8) : lightB ps = false := by
  rw [lightB, decide_eq_false_iff_not]
  exact fun h2 => h h2.1
theorem lightB_t {ps : List PR} (h : ps.length ≤ 8) (h2 : ∀ i, i < ps.length → smallB (ps.getD i pr0).2 = true) : lightB ps = true := by
  rw [lightB, decide_eq_true_eq]
  exact ⟨h, h2⟩
theorem l19_small (p : RA) (r : Raw) : Spec Tryz.prog 10 #[ratV p r] [fRat p r] (ι := Unit) (fun y => .bool (smallB r)) (fun y => True) (fun y => []) := by
  refine Spec.of_body _ (fn := Tryz.f10) k_ rfl k_ (fun X w0 => ?_)
  refine J.fact (φ := r.mag.length ≤ 140737488355328 ∧ r.den.length ≤ 140737488355328) (fun w h => by have h1 := (h _ (.head _)).1.1; have h2 := (h _ (.head _)).2.1; omega) (fun hl1 => ?_)
  refine J.sreg ?_
  refine RN.new (fun b => pt b) (.cells (ratC p r) 27 (0, 0)) k_ k_ (fun w => by kernel_rfl) (fun b2 => ?_)
  refine RN.bq (no 1) [1] [] (k' := 2) (l' := [(1, pt b2)]) k_ ?_
  refine RN.fin k_ ?_
  refine J.sreg ?_
  refine RN.bq [none, none, some 0, none, none, none] [1, 8] [b2] (k' := 6) (l' := [(1, pt b2), (8, .bool (decide (((r.mag.length : Nat) : Int) ≤ 2)))]) k_ ?_
  refine RN.split 8 (decide (((r.mag.length : Nat) : Int) ≤ 2)) k_ (fun c3 => ?_) (fun c3 => ?_)
  · skip
    replace c3 := of_decide_eq_true c3
    refine RN.bq [none, some 0, none, none, none, none] [2] [b2] (k' := 12) (l' := [(2, .bool (decide ((((r.den).length : Nat) : Int) ≤ 2)))]) k_ ?_
    refine RN.fin k_ ?_
    have e_1 : (smallB r) = (decide ((((r.den).length : Nat) : Int) ≤ 2)) := by unfold smallB; rw [Bool.eq_iff_iff]; simp; omega
    refine J.ret (KR.ret (v := .bool (decide ((((r.den).length : Nat) : Int) ≤ 2))) (()) [none] [] [] k_ v1_ (trivial) v1_)
  · skip
    replace c3 := of_decide_eq_false c3
    refine RN.bq (no 6) [2] [] (k' := 12) (l' := [(2, .bool false)]) k_ ?_
    refine RN.fin k_ ?_
    have e_1 : (smallB r) = false := by unfold smallB; rw [Bool.eq_iff_iff]; simp; omega
    refine J.ret (KR.ret (v := .bool false) (()) [none] [] [] k_ v1_ (trivial) v1_)
theorem l19_light (s : SA) (ps : List PR) : Spec Tryz.prog 9 #[sl s ps.length] [fRats s ps] (ι := Unit) (fun y => .bool (lightB ps)) (fun y => True) (fun y => []) := by
  refine Spec.of_body _ (fn := Tryz.f9) k_ rfl k_ (fun X w0 => ?_)
  refine J.fact (φ := ps.length ≤ 140737488355328) (fun w h => by have := (h _ (.head _)).1; omega) (fun hl1 => ?_)
  refine J.sreg ?_
  refine RN.bq (no 1) [0] [] (k' := 1) (l' := [(0, sl s ps.length)]) k_ ?_
  refine RN.fin k_ ?_
  refine J.seq ?_
  refine J.sreg ?_
  refine RN.bq (no 3) [0, 6] [] (k' := 3) (l' := [(0, sl s ps.length), (6, .bool (decide (((ps.length : Nat) : Int) > 8)))]) k_ ?_
  refine RN.fin k_ ?_
  refine J.cond (decide (((ps.length : Nat) : Int) > 8)) k_ (fun c2 => ?_) (fun c2 => ?_)
  · skip
    replace c2 := of_decide_eq_true c2
    refine J.sreg ?_
    refine RN.bq (no 1) [2] [] (k' := 1) (l' := [(2, .bool false)]) k_ ?_
    refine RN.fin k_ ?_
    have e_1 : (lightB ps) = false := by first | exact lightB_8 (by omega) | exact lightB_f (i := i) (by omega) ‹_› | exact lightB_t (by omega) (fun j hj => hI2 j (Nat.lt_of_lt_of_le hj (by omega)))
    refine J.ret (KR.next (KR.ret (v := .bool false) (()) [none] [] [] k_ v1_ (trivial) v1_))
  · skip
    replace c2 := of_decide_eq_false c2
    refine J.skip ?_
    refine KN.next ?_
    refine J.seq ?_
    refine J.sreg ?_
    refine RN.bq (no 1) [0, 3] [] (k' := 1) (l' := [(0, sl s ps.length), (3, .int .i64 0)]) k_ ?_
    refine RN.fin k_ ?_
    refine J.block ?_
    refine J.loop (ι := (Nat)) (fun x => x ≤ ps.length ∧ ∀ j, j < x → smallB (ps.getD j pr0).2 = true) (fun x => ps.length - x) (fun x => [(0, sl s ps.length), (3, .int .i64 ((x : Nat) : Int))]) (fun x => []) (fun x => [fRats s ps]) (0) [0, 3] [0] (⟨Nat.zero_le _, fun j h => absurd h (Nat.not_lt_zero _)⟩) k_ (by first | rfl | (simp only [encQ_zero]; done) | (simp only [encQ_zero]; rfl)) (by rfl) (fun i hI => ?_)
    replace hI : i ≤ ps.length ∧ ∀ j, j < i → smallB (ps.getD j pr0).2 = true := hI
    obtain ⟨hI1, hI2⟩ := hI
    refine J.seq ?_
    refine J.sreg ?_
    refine RN.bq (no 4) [0, 3, 10] [] (k' := 4) (l' := [(0, sl s ps.length), (3, .int .i64 ((i : Nat) : Int)), (10, .bool (decide (((i : Nat) : Int) < ((ps.length : Nat) : Int))))]) k_ ?_
    refine RN.fin k_ ?_
    refine J.cond (decide (((i : Nat) : Int) < ((ps.length : Nat) : Int))) k_ (fun c3 => ?_) (fun c3 => ?_)
    · skip
      replace c3 := of_decide_eq_true c3
      refine J.skip ?_
      refine KN.next ?_
      refine J.seq ?_
      refine J.block ?_
      refine J.sreg ?_
      refine RN.bq (no 2) [0, 3, 13, 14] [] (k' := 2) (l' := [(0, sl s ps.length), (3, .int .i64 ((i : Nat) : Int)), (13, sl s ps.length), (14, .int .i64 ((i : Nat) : Int))]) k_ ?_
      refine RN.val _ k_ k_ (q_ridx (t := 22) (x := (.tmp 13)) (ix := (.tmp 14)) (K := .i64) (i0 := ((i : Nat) : Int)) (m := i) (e := 27) 0 rfl k_ k_ k_ k_ k_ (by omega) x_) ?_
      refine RN.val _ k_ k_ (q_rload (T := 27) (x := (.tmp 15)) (m := i) (s := s) (ps := ps) 0 rfl k_ k_ k_ k_ x_) ?_
      refine RN.also (fRat ((ps.getD i pr0).1) ((ps.getD i pr0).2)) (fun w h => rat_of (h _ (.head _)) x_) ?_
      refine RN.call (l19_small ((ps.getD i pr0).1) ((ps.getD i pr0).2)) [0] k_ k_ k_ rfl (fun y4 _ => ?_)
      refine RN.bq (no 1) [0, 3, 18] [] (k' := 6) (l' := [(0, sl s ps.length), (3, .int .i64 ((i : Nat) : Int)), (18, .bool (!(smallB ((ps.getD i pr0).2))))]) k_ ?_
      refine RN.fin k_ ?_
      refine J.cond (!(smallB ((ps.getD i pr0).2))) k_ (fun c5 => ?_) (fun c5 => ?_)
      · skip
        refine J.sreg ?_
        refine RN.bq (no 1) [2] [] (k' := 1) (l' := [(2, .bool false)]) k_ ?_
        refine RN.fin k_ ?_
        have e_1 : (lightB ps) = false := by first | exact lightB_8 (by omega) | exact lightB_f (i := i) (by omega) ‹_› | exact lightB_t (by omega) (fun j hj => hI2 j (Nat.lt_of_lt_of_le hj (by omega)))
        refine J.ret (KR.blk (KR.next (KR.next (KR.blk (KR.next (KR.ret (v := .bool false) (()) [none] [] [] k_ v1_ (trivial) v1_))))))
      · skip
        refine J.skip ?_
        refine KN.blk ?_
        refine KN.next ?_
        refine J.regN ?_
        refine RN.bq (no 2) [0, 12] [] (k' := 2) (l' := [(0, sl s ps.length), (12, .int .i64 (IntKind.i64.wrap (((i : Nat) : Int) + 1)))]) k_ ?_
        rw [show IntKind.i64.wrap (((i : Nat) : Int) + 1) = ((i + 1 : Nat) : Int) from by rw [IntKind.wrap_i64]; omega]
        refine RN.bq (no 1) [0, 3] [] (k' := 3) (l' := [(0, sl s ps.length), (3, .int .i64 ((i + 1 : Nat) : Int))]) k_ ?_
        refine RN.done k_ ?_
        refine KN.roundE (i + 1) [0, 3] [1] (l2 := [(0, sl s ps.length), (3, .int .i64 ((i + 1 : Nat) : Int))]) (by (try dsimp only); omega) (by (try dsimp only); exact ⟨by omega, fun j hj => by
    rcases Nat.lt_or_ge j i with h | h
    · exact hI2 j h
    · obtain rfl : j = i := by omega
      simpa using ‹(!smallB _) = false›⟩) k_ (by rfl) (by rfl) (by rfl)
    · skip
      replace c3 := of_decide_eq_false c3
      refine J.exit (KX.next (KX.next (KX.hit ?_)))
      refine KN.next ?_
      refine J.sreg ?_
      refine RN.bq (no 1) [2] [] (k' := 1) (l' := [(2, .bool true)]) k_ ?_
      refine RN.fin k_ ?_
      have e_1 : (lightB ps) = true := by first | exact lightB_8 (by omega) | exact lightB_f (i := i) (by omega) ‹_› | exact lightB_t (by omega) (fun j hj => hI2 j (Nat.lt_of_lt_of_le hj (by omega)))
      refine J.ret (KR.ret (v := .bool true) (()) [none] [] [] k_ v1_ (trivial) v1_)
theorem hps_nil {k : Nat} : ∀ i, i < ([] : List PR).length → RQ k (([] : List PR).getD i pr0).2 := fun i h => absurd h (Nat.not_lt_zero _)
theorem hps_cons {k : Nat} {p : PR} {ps : List PR} (h : RQ k p.2) (t : ∀ i, i < ps.length → RQ k (ps.getD i pr0).2) : ∀ i, i < (p :: ps).length → RQ k ((p :: ps).getD i pr0).2
  | 0, _ => h
  | i + 1, hi => t i (by simpa using hi)
theorem Q_dec {k : Nat} {q : Rat} (h : (decide (q.num.natAbs < W ^ k) && decide (q.den < W ^ k)) = true) : Q k q := by
  simp only [Bool.and_eq_true, decide_eq_true_eq] at h
  exact Q_iff.2 h
theorem aw_e : meanE 2 ((1 : Int) : Rat) ((2 : Int) : Rat) = 0 := by decide +kernel
theorem aw_m (p1 p2 : RA) : meanV [(p1, encQ ((1 : Int) : Rat)), (p2, encQ (((-1) : Int) : Rat))] ((1 : Int) : Rat) ((2 : Int) : Rat) = ((7 : Int) : Rat) / ((8 : Int) : Rat) := by
  unfold meanV
  rw [if_pos (show meanE [(p1, encQ ((1 : Int) : Rat)), (p2, encQ (((-1) : Int) : Rat))].length ((1 : Int) : Rat) ((2 : Int) : Rat) = 0 from aw_e)]
  show (0 + meanT ((1 : Int) : Rat) ((2 : Int) : Rat) (qv (encQ ((1 : Int) : Rat))) + meanT ((1 : Int) : Rat) ((2 : Int) : Rat) (qv (encQ (((-1) : Int) : Rat)))) / (((2 : Nat) : Int) : Rat) = _
  rw [qv_encQ, qv_encQ]
  decide +kernel
theorem aw_c : checkE 4 ((1 : Int) : Rat) (((1 : Int) : Rat) / ((4 : Int) : Rat)) 3 = 0 := by decide +kernel
theorem aw_s (p1 p2 p3 p4 : RA) (b : Rat) (hb : b = ((1 : Int) : Rat) / ((4 : Int) : Rat)) : shareN (vals [(p1, ⟨false, [], []⟩), (p2, ⟨false, [], []⟩), (p3, ⟨false, [], []⟩), (p4, encQ ((5 : Int) : Rat))]) 4 ≤ b := by
  subst hb
  have h : ∀ i, i < 4 → vals [(p1, ⟨false, [], []⟩), (p2, ⟨false, [], []⟩), (p3, ⟨false, [], []⟩), (p4, encQ ((5 : Int) : Rat))] i = (if i = 3 then ((5 : Int) : Rat) else 0) := by
    intro i hi
    have z : qv ⟨false, [], []⟩ = 0 := by rw [← encQ_zero, qv_encQ]
    match i, hi with
    | 0, _ => exact z
    | 1, _ => exact z
    | 2, _ => exact z
    | 3, _ => exact qv_encQ _
  unfold shareN
  rw [cntN_sum, sumN_congr (g := fun i => if i = 3 then 1 else 0)]
  · decide +kernel
  · intro i hi
    show (if decide (vals _ i ≠ 0) = true then (1 : Rat) else 0) = _
    rw [h i hi]
    match i, hi with
    | 0, _ => rfl
    | 1, _ => rfl
    | 2, _ => rfl
    | 3, _ => rfl
theorem aw_r : rhoQ (((1 : Int) : Rat) / ((2 : Int) : Rat)) = ((7 : Int) : Rat) / ((8 : Int) : Rat) := by decide +kernel
theorem aw_i {x : Nat → Rat} {n : Nat} {c b : Rat} {bits : Int} {lo hi : Rat} (h : ScaleR x n c b bits lo hi) (hs : shareN x n ≤ b) : encQ lo = ⟨false, [], []⟩ ∧ encQ hi = ⟨false, [], []⟩ := by
  unfold ScaleR at h
  rw [if_pos (.inr hs)] at h
  rw [h.1, h.2, encQ_zero]; exact ⟨rfl, rfl⟩
theorem y_l19_awake {p : Prop} (h : p := by first | assumption | exact Lb_toL _ | omega | (simp; done) | first | exact Q.le (Q_int (by decide)) (by decide) | exact RQ_enc (Q.le (Q_int (by decide)) (by decide)) | exact Q.le (Q_dec (k := 2) (by decide +kernel)) (by decide) | exact RQ_enc (Q.le (Q_dec (k := 2) (by decide +kernel)) (by decide)) | ((repeat' (first | exact hps_nil | refine hps_cons ?_ ?_ | exact RQ_enc (Q.le (Q_int (by decide)) (by decide)) | (rw [← encQ_zero]; exact RQ_enc (Q_0 (by decide))))); done)) : p := h
theorem l19_awake : Spec Tryz.prog 12 #[] [] (ι := Unit) (fun y => .bool true) (fun y => True) (fun y => []) := by
  refine Spec.of_body _ (fn := Tryz.f12) k_ rfl k_ (fun X w0 => ?_)
  refine J.sreg ?_
  refine RN.bq (no 1) [] [] (k' := 1) (l' := []) k_ ?_
  refine RN.fin k_ ?_
  refine J.sreg ?_
  refine RN.call (r03_FromInt 1 y_l19_awake y_l19_awake) [] k_ k_ k_ rfl (fun y1 _ => ?_)
  refine RN.new (fun b => pt b) (.cells (ratC (⟨saNil, saNil⟩ : RA) (⟨false, ([] : List Nat), ([] : List Nat)⟩ : Raw)) 27 (0, 0)) k_ k_ (fun w => by kernel_rfl) (fun b2 => ?_)
  refine RN.bat [some 0] [1] [b2, b2, b2] (k' := 3) (l' := [(1, pt b2)]) (M' := [(b2, .cells (ratC y1 (encQ ((1 : Int) : Rat))) 27 (0, 0))]) k_ ?_
  refine RN.fin k_ ?_
  refine J.seqC (ι := (RA) × (Nat) × (RA) × (RA) × (Nat)) (fun x => True) (fun x => [(1, pt b2), (2, .pointer (some ⟨x.2.2.2.2, 0, none⟩)), (3, .int .i64 (meanE ([(y1, (encQ ((1 : Int) : Rat))), (x.1, (encQ (((-1) : Int) : Rat)))] : List PR).length ((1 : Int) : Rat) ((2 : Int) : Rat)))]) (fun x => [(x.2.2.2.2, .cells (ratC x.2.2.2.1 (encQ (meanV ([(y1, (encQ ((1 : Int) : Rat))), (x.1, (encQ (((-1) : Int) : Rat)))] : List PR) ((1 : Int) : Rat) ((2 : Int) : Rat)))) 27 (0, 0)), (b2, .cells (ratC y1 (encQ ((1 : Int) : Rat))) 27 (0, 0))]) (fun x => [fRat x.2.2.2.1 (encQ (meanV ([(y1, (encQ ((1 : Int) : Rat))), (x.1, (encQ (((-1) : Int) : Rat)))] : List PR) ((1 : Int) : Rat) ((2 : Int) : Rat))), fRats (⟨some ⟨x.2.1, 0, none⟩, 2⟩ : SA) ([(y1, (encQ ((1 : Int) : Rat))), (x.1, (encQ (((-1) : Int) : Rat)))] : List PR), allRat ([(y1, (encQ ((1 : Int) : Rat))), (x.1, (encQ (((-1) : Int) : Rat)))] : List PR), fBlk x.2.1 (.cells (encR ([(y1, (encQ ((1 : Int) : Rat))), (x.1, (encQ (((-1) : Int) : Rat)))] : List PR)) 27 (0, 0)), fRat x.2.2.1 (encQ ((2 : Int) : Rat)), fRat x.1 (encQ (((-1) : Int) : Rat)), fRat y1 (encQ ((1 : Int) : Rat))]) ?_ ?_
  · skip
    refine J.regD k_ [10] ?_
    refine RD.bat k_ [(0, some 0), (3, some 0)] [1, 8, 11] [b2, b2, b2, b2, b2, b2] (L' := [3, 0]) (l' := [(1, pt b2), (8, ratV y1 (encQ ((1 : Int) : Rat))), (11, ratV y1 (encQ ((1 : Int) : Rat)))]) k_ ?_
    refine RD.forkL (is := [1, 9]) k_ rfl k_ ⟨?_, ?_, trivial⟩
    · skip
      refine RDi.call (i := 1) (r03_FromInt (-1) y_l19_awake y_l19_awake) [] k_ k_ k_ k_ rfl (fun y3 _ => ?_)
      refine RD.forkL (is := [2, 4, 9]) k_ rfl k_ ⟨?_, ?_, ?_, trivial⟩
      · skip
        refine RDi.new (i := 2) (fun b => .slice (some ⟨b, 0, none⟩) 2 2) (.cells (encR ([(y1, (encQ ((1 : Int) : Rat))), (y3, (encQ (((-1) : Int) : Rat)))] : List PR)) 27 (0, 0)) k_ k_ k_ (fun w => by kernel_rfl) (fun b4 => ?_)
        refine RD.forkL (is := [4, 9]) k_ rfl k_ ⟨?_, ?_, trivial⟩
        · skip
          refine RDi.call (i := 4) (r03_FromInt 2 y_l19_awake y_l19_awake) [] k_ k_ k_ k_ rfl (fun y5 _ => ?_)
          refine RD.share 0 rfl rfl k_ ?_
          refine RD.also (allRat ([(y1, (encQ ((1 : Int) : Rat))), (y3, (encQ (((-1) : Int) : Rat)))] : List PR)) (fun w h => allRat_cons (h _ (.tail _ ((.tail _ ((.tail _ ((.head _)))))))) (allRat_cons (h _ (.tail _ ((.tail _ ((.head _)))))) (allRat_nil _))) k_ ?_
          refine RD.also (fRats (⟨some ⟨b4, 0, none⟩, 2⟩ : SA) ([(y1, (encQ ((1 : Int) : Rat))), (y3, (encQ (((-1) : Int) : Rat)))] : List PR)) (fun w h => fRats_own (h _ (.tail _ ((.head _)))) (h _ (.head _)) x_ x_) k_ ?_
          refine RD.turn 10 (v := .slice (some ⟨b4, 0, none⟩) 2 2) (v' := sl (⟨some ⟨b4, 0, none⟩, 2⟩ : SA) ([(y1, (encQ ((1 : Int) : Rat))), (y3, (encQ (((-1) : Int) : Rat)))] : List PR).length) k_ (sl_eq x_) ?_
          refine RD.forkL (is := [5, 9]) k_ rfl k_ ⟨?_, ?_, trivial⟩
          · skip
            refine RDi.call (i := 5) (m19_Mean_c (⟨some ⟨b4, 0, none⟩, 2⟩ : SA) ([(y1, (encQ ((1 : Int) : Rat))), (y3, (encQ (((-1) : Int) : Rat)))] : List PR) y1 ((1 : Int) : Rat) y5 ((2 : Int) : Rat) y_l19_awake y_l19_awake y_l19_awake y_l19_awake y_l19_awake) [0, 5, 3] k_ k_ k_ k_ rfl (fun y6 _ => ?_)
            refine RD.bat k_ [(6, none), (7, none), (8, none)] [1, 14, 15] [] (L' := [8, 7, 6, 5, 4, 2, 1, 3, 0]) (l' := [(1, pt b2), (14, ratV y6 (encQ (meanV ([(y1, (encQ ((1 : Int) : Rat))), (y3, (encQ (((-1) : Int) : Rat)))] : List PR) ((1 : Int) : Rat) ((2 : Int) : Rat)))), (15, .int .i64 (meanE ([(y1, (encQ ((1 : Int) : Rat))), (y3, (encQ (((-1) : Int) : Rat)))] : List PR).length ((1 : Int) : Rat) ((2 : Int) : Rat)))]) k_ ?_
            refine RD.new (i := 9) (fun b => pt b) (.cells (ratC (⟨saNil, saNil⟩ : RA) (⟨false, ([] : List Nat), ([] : List Nat)⟩ : Raw)) 27 (0, 0)) k_ k_ k_ k_ (fun w => by kernel_rfl) (fun b7 => ?_)
            refine RD.last (i := 10) (some 0) [1, 2, 15] [b7, b7, b7] k_ k_ k_ (l' := [(1, pt b2), (2, pt b7), (15, .int .i64 (meanE ([(y1, (encQ ((1 : Int) : Rat))), (y3, (encQ (((-1) : Int) : Rat)))] : List PR).length ((1 : Int) : Rat) ((2 : Int) : Rat)))]) (M' := [(b7, .cells (ratC y6 (encQ (meanV ([(y1, (encQ ((1 : Int) : Rat))), (y3, (encQ (((-1) : Int) : Rat)))] : List PR) ((1 : Int) : Rat) ((2 : Int) : Rat)))) 27 (0, 0)), (b2, .cells (ratC y1 (encQ ((1 : Int) : Rat))) 27 (0, 0))]) k_ ?_
            refine RD.bat k_ [(11, none)] [1, 2, 3] [] (L' := [11, 10, 9, 8, 7, 6, 5, 4, 2, 1, 3, 0]) (l' := [(1, pt b2), (2, pt b7), (3, .int .i64 (meanE ([(y1, (encQ ((1 : Int) : Rat))), (y3, (encQ (((-1) : Int) : Rat)))] : List PR).length ((1 : Int) : Rat) ((2 : Int) : Rat)))]) k_ ?_
            refine RD.done k_ ?_
            refine KN.meet (y3, b4, y5, y6, b7) [1, 2, 3] [0, 1, 2, 3, 4, 5, 6] (l2 := [(1, pt b2), (2, pt b7), (3, .int .i64 (meanE ([(y1, (encQ ((1 : Int) : Rat))), (y3, (encQ (((-1) : Int) : Rat)))] : List PR).length ((1 : Int) : Rat) ((2 : Int) : Rat)))]) (by exact trivial) k_ (by rfl) (by rfl) (by rfl)
          · skip
            refine RDi.new (i := 9) (fun b => pt b) (.cells (ratC (⟨saNil, saNil⟩ : RA) (⟨false, ([] : List Nat), ([] : List Nat)⟩ : Raw)) 27 (0, 0)) k_ k_ k_ (fun w => by kernel_rfl) (fun b8 => ?_)
            refine RD.call (i := 5) (m19_Mean_c (⟨some ⟨b4, 0, none⟩, 2⟩ : SA) ([(y1, (encQ ((1 : Int) : Rat))), (y3, (encQ (((-1) : Int) : Rat)))] : List PR) y1 ((1 : Int) : Rat) y5 ((2 : Int) : Rat) y_l19_awake y_l19_awake y_l19_awake y_l19_awake y_l19_awake) [0, 5, 3] k_ k_ k_ k_ k_ rfl (fun y9 _ => ?_)
            refine RD.bat k_ [(6, none), (7, none), (8, none)] [1, 2, 14, 15] [] (L' := [8, 7, 6, 5, 9, 4, 2, 1, 3, 0]) (l' := [(1, pt b2), (2, pt b8), (14, ratV y9 (encQ (meanV ([(y1, (encQ ((1 : Int) : Rat))), (y3, (encQ (((-1) : Int) : Rat)))] : List PR) ((1 : Int) : Rat) ((2 : Int) : Rat)))), (15, .int .i64 (meanE ([(y1, (encQ ((1 : Int) : Rat))), (y3, (encQ (((-1) : Int) : Rat)))] : List PR).length ((1 : Int) : Rat) ((2 : Int) : Rat)))]) k_ ?_
            refine RD.last (i := 10) (some 0) [1, 2, 15] [b8, b8, b8] k_ k_ k_ (l' := [(1, pt b2), (2, pt b8), (15, .int .i64 (meanE ([(y1, (encQ ((1 : Int) : Rat))), (y3, (encQ (((-1) : Int) : Rat)))] : List PR).length ((1 : Int) : Rat) ((2 : Int) : Rat)))]) (M' := [(b8, .cells (ratC y9 (encQ (meanV ([(y1, (encQ ((1 : Int) : Rat))), (y3, (encQ (((-1) : Int) : Rat)))] : List PR) ((1 : Int) : Rat) ((2 : Int) : Rat)))) 27 (0, 0)), (b2, .cells (ratC y1 (encQ ((1 : Int) : Rat))) 27 (0, 0))]) k_ ?_
            refine RD.bat k_ [(11, none)] [1, 2, 3] [] (L' := [11, 10, 8, 7, 6, 5, 9, 4, 2, 1, 3, 0]) (l' := [(1, pt b2), (2, pt b8), (3, .int .i64 (meanE ([(y1, (encQ ((1 : Int) : Rat))), (y3, (encQ (((-1) : Int) : Rat)))] : List PR).length ((1 : Int) : Rat) ((2 : Int) : Rat)))]) k_ ?_
            refine RD.done k_ ?_
            refine KN.meet (y3, b4, y5, y9, b8) [1, 2, 3] [0, 1, 2, 3, 4, 5, 6] (l2 := [(1, pt b2), (2, pt b8), (3, .int .i64 (meanE ([(y1, (encQ ((1 : Int) : Rat))), (y3, (encQ (((-1) : Int) : Rat)))] : List PR).length ((1 : Int) : Rat) ((2 : Int) : Rat)))]) (by exact trivial) k_ (by rfl) (by rfl) (by rfl)
        · skip
          refine RDi.new (i := 9) (fun b => pt b) (.cells (ratC (⟨saNil, saNil⟩ : RA) (⟨false, ([] : List Nat), ([] : List Nat)⟩ : Raw)) 27 (0, 0)) k_ k_ k_ (fun w => by kernel_rfl) (fun b10 => ?_)
          refine RD.call (i := 4) (r03_FromInt 2 y_l19_awake y_l19_awake) [] k_ k_ k_ k_ k_ rfl (fun y11 _ => ?_)
          refine RD.share 1 rfl rfl k_ ?_
          refine RD.also (allRat ([(y1, (encQ ((1 : Int) : Rat))), (y3, (encQ (((-1) : Int) : Rat)))] : List PR)) (fun w h => allRat_cons (h _ (.tail _ ((.tail _ ((.tail _ ((.head _)))))))) (allRat_cons (h _ (.tail _ ((.tail _ ((.head _)))))) (allRat_nil _))) k_ ?_
          refine RD.also (fRats (⟨some ⟨b4, 0, none⟩, 2⟩ : SA) ([(y1, (encQ ((1 : Int) : Rat))), (y3, (encQ (((-1) : Int) : Rat)))] : List PR)) (fun w h => fRats_own (h _ (.tail _ ((.head _)))) (h _ (.head _)) x_ x_) k_ ?_
          refine RD.turn 10 (v := .slice (some ⟨b4, 0, none⟩) 2 2) (v' := sl (⟨some ⟨b4, 0, none⟩, 2⟩ : SA) ([(y1, (encQ ((1 : Int) : Rat))), (y3, (encQ (((-1) : Int) : Rat)))] : List PR).length) k_ (sl_eq x_) ?_
          refine RD.call (i := 5) (m19_Mean_c (⟨some ⟨b4, 0, none⟩, 2⟩ : SA) ([(y1, (encQ ((1 : Int) : Rat))), (y3, (encQ (((-1) : Int) : Rat)))] : List PR) y1 ((1 : Int) : Rat) y11 ((2 : Int) : Rat) y_l19_awake y_l19_awake y_l19_awake y_l19_awake y_l19_awake) [0, 5, 3] k_ k_ k_ k_ k_ rfl (fun y12 _ => ?_)
          refine RD.bat k_ [(6, none), (7, none), (8, none)] [1, 2, 14, 15] [] (L' := [8, 7, 6, 5, 4, 9, 2, 1, 3, 0]) (l' := [(1, pt b2), (2, pt b10), (14, ratV y12 (encQ (meanV ([(y1, (encQ ((1 : Int) : Rat))), (y3, (encQ (((-1) : Int) : Rat)))] : List PR) ((1 : Int) : Rat) ((2 : Int) : Rat)))), (15, .int .i64 (meanE ([(y1, (encQ ((1 : Int) : Rat))), (y3, (encQ (((-1) : Int) : Rat)))] : List PR).length ((1 : Int) : Rat) ((2 : Int) : Rat)))]) k_ ?_
          refine RD.last (i := 10) (some 0) [1, 2, 15] [b10, b10, b10] k_ k_ k_ (l' := [(1, pt b2), (2, pt b10), (15, .int .i64 (meanE ([(y1, (encQ ((1 : Int) : Rat))), (y3, (encQ (((-1) : Int) : Rat)))] : List PR).length ((1 : Int) : Rat) ((2 : Int) : Rat)))]) (M' := [(b10, .cells (ratC y12 (encQ (meanV ([(y1, (encQ ((1 : Int) : Rat))), (y3, (encQ (((-1) : Int) : Rat)))] : List PR) ((1 : Int) : Rat) ((2 : Int) : Rat)))) 27 (0, 0)), (b2, .cells (ratC y1 (encQ ((1 : Int) : Rat))) 27 (0, 0))]) k_ ?_
          refine RD.bat k_ [(11, none)] [1, 2, 3] [] (L' := [11, 10, 8, 7, 6, 5, 4, 9, 2, 1, 3, 0]) (l' := [(1, pt b2), (2, pt b10), (3, .int .i64 (meanE ([(y1, (encQ ((1 : Int) : Rat))), (y3, (encQ (((-1) : Int) : Rat)))] : List PR).length ((1 : Int) : Rat) ((2 : Int) : Rat)))]) k_ ?_
          refine RD.done k_ ?_
          refine KN.meet (y3, b4, y11, y12, b10) [1, 2, 3] [0, 1, 2, 3, 4, 5, 6] (l2 := [(1, pt b2), (2, pt b10), (3, .int .i64 (meanE ([(y1, (encQ ((1 : Int) : Rat))), (y3, (encQ (((-1) : Int) : Rat)))] : List PR).length ((1 : Int) : Rat) ((2 : Int) : Rat)))]) (by exact trivial) k_ (by rfl) (by rfl) (by rfl)
      · skip
        refine RDi.call (i := 4) (r03_FromInt 2 y_l19_awake y_l19_awake) [] k_ k_ k_ k_ rfl (fun y13 _ => ?_)
        refine RD.forkL (is := [2, 9]) k_ rfl k_ ⟨?_, ?_, trivial⟩
        · skip
          refine RDi.new (i := 2) (fun b => .slice (some ⟨b, 0, none⟩) 2 2) (.cells (encR ([(y1, (encQ ((1 : Int) : Rat))), (y3, (encQ (((-1) : Int) : Rat)))] : List PR)) 27 (0, 0)) k_ k_ k_ (fun w => by kernel_rfl) (fun b14 => ?_)
          refine RD.share 0 rfl rfl k_ ?_
          refine RD.also (allRat ([(y1, (encQ ((1 : Int) : Rat))), (y3, (encQ (((-1) : Int) : Rat)))] : List PR)) (fun w h => allRat_cons (h _ (.tail _ ((.tail _ ((.tail _ ((.head _)))))))) (allRat_cons (h _ (.tail _ ((.tail _ ((.head _)))))) (allRat_nil _))) k_ ?_
          refine RD.also (fRats (⟨some ⟨b14, 0, none⟩, 2⟩ : SA) ([(y1, (encQ ((1 : Int) : Rat))), (y3, (encQ (((-1) : Int) : Rat)))] : List PR)) (fun w h => fRats_own (h _ (.tail _ ((.head _)))) (h _ (.head _)) x_ x_) k_ ?_
          refine RD.turn 10 (v := .slice (some ⟨b14, 0, none⟩) 2 2) (v' := sl (⟨some ⟨b14, 0, none⟩, 2⟩ : SA) ([(y1, (encQ ((1 : Int) : Rat))), (y3, (encQ (((-1) : Int) : Rat)))] : List PR).length) k_ (sl_eq x_) ?_
          refine RD.forkL (is := [5, 9]) k_ rfl k_ ⟨?_, ?_, trivial⟩
          · skip
            refine RDi.call (i := 5) (m19_Mean_c (⟨some ⟨b14, 0, none⟩, 2⟩ : SA) ([(y1, (encQ ((1 : Int) : Rat))), (y3, (encQ (((-1) : Int) : Rat)))] : List PR) y1 ((1 : Int) : Rat) y13 ((2 : Int) : Rat) y_l19_awake y_l19_awake y_l19_awake y_l19_awake y_l19_awake) [0, 5, 3] k_ k_ k_ k_ rfl (fun y15 _ => ?_)
            refine RD.bat k_ [(6, none), (7, none), (8, none)] [1, 14, 15] [] (L' := [8, 7, 6, 5, 2, 4, 1, 3, 0]) (l' := [(1, pt b2), (14, ratV y15 (encQ (meanV ([(y1, (encQ ((1 : Int) : Rat))), (y3, (encQ (((-1) : Int) : Rat)))] : List PR) ((1 : Int) : Rat) ((2 : Int) : Rat)))), (15, .int .i64 (meanE ([(y1, (encQ ((1 : Int) : Rat))), (y3, (encQ (((-1) : Int) : Rat)))] : List PR).length ((1 : Int) : Rat) ((2 : Int) : Rat)))]) k_ ?_
            refine RD.new (i := 9) (fun b => pt b) (.cells (ratC (⟨saNil, saNil⟩ : RA) (⟨false, ([] : List Nat), ([] : List Nat)⟩ : Raw)) 27 (0, 0)) k_ k_ k_ k_ (fun w => by kernel_rfl) (fun b16 => ?_)
            refine RD.last (i := 10) (some 0) [1, 2, 15] [b16, b16, b16] k_ k_ k_ (l' := [(1, pt b2), (2, pt b16), (15, .int .i64 (meanE ([(y1, (encQ ((1 : Int) : Rat))), (y3, (encQ (((-1) : Int) : Rat)))] : List PR).length ((1 : Int) : Rat) ((2 : Int) : Rat)))]) (M' := [(b16, .cells (ratC y15 (encQ (meanV ([(y1, (encQ ((1 : Int) : Rat))), (y3, (encQ (((-1) : Int) : Rat)))] : List PR) ((1 : Int) : Rat) ((2 : Int) : Rat)))) 27 (0, 0)), (b2, .cells (ratC y1 (encQ ((1 : Int) : Rat))) 27 (0, 0))]) k_ ?_
            refine RD.bat k_ [(11, none)] [1, 2, 3] [] (L' := [11, 10, 9, 8, 7, 6, 5, 2, 4, 1, 3, 0]) (l' := [(1, pt b2), (2, pt b16), (3, .int .i64 (meanE ([(y1, (encQ ((1 : Int) : Rat))), (y3, (encQ (((-1) : Int) : Rat)))] : List PR).length ((1 : Int) : Rat) ((2 : Int) : Rat)))]) k_ ?_
            refine RD.done k_ ?_
            refine KN.meet (y3, b14, y13, y15, b16) [1, 2, 3] [0, 1, 2, 3, 4, 5, 6] (l2 := [(1, pt b2), (2, pt b16), (3, .int .i64 (meanE ([(y1, (encQ ((1 : Int) : Rat))), (y3, (encQ (((-1) : Int) : Rat)))] : List PR).length ((1 : Int) : Rat) ((2 : Int) : Rat)))]) (by exact trivial) k_ (by rfl) (by rfl) (by rfl)
          · skip
            refine RDi.new (i := 9) (fun b => pt b) (.cells (ratC (⟨saNil, saNil⟩ : RA) (⟨false, ([] : List Nat), ([] : List Nat)⟩ : Raw)) 27 (0, 0)) k_ k_ k_ (fun w => by kernel_rfl) (fun b17 => ?_)
            refine RD.call (i := 5) (m19_Mean_c (⟨some ⟨b14, 0, none⟩, 2⟩ : SA) ([(y1, (encQ ((1 : Int) : Rat))), (y3, (encQ (((-1) : Int) : Rat)))] : List PR) y1 ((1 : Int) : Rat) y13 ((2 : Int) : Rat) y_l19_awake y_l19_awake y_l19_awake y_l19_awake y_l19_awake) [0, 5, 3] k_ k_ k_ k_ k_ rfl (fun y18 _ => ?_)
            refine RD.bat k_ [(6, none), (7, none), (8, none)] [1, 2, 14, 15] [] (L' := [8, 7, 6, 5, 9, 2, 4, 1, 3, 0]) (l' := [(1, pt b2), (2, pt b17), (14, ratV y18 (encQ (meanV ([(y1, (encQ ((1 : Int) : Rat))), (y3, (encQ (((-1) : Int) : Rat)))] : List PR) ((1 : Int) : Rat) ((2 : Int) : Rat)))), (15, .int .i64 (meanE ([(y1, (encQ ((1 : Int) : Rat))), (y3, (encQ (((-1) : Int) : Rat)))] : List PR).length ((1 : Int) : Rat) ((2 : Int) : Rat)))]) k_ ?_
            refine RD.last (i := 10) (some 0) [1, 2, 15] [b17, b17, b17] k_ k_ k_ (l' := [(1, pt b2), (2, pt b17), (15, .int .i64 (meanE ([(y1, (encQ ((1 : Int) : Rat))), (y3, (encQ (((-1) : Int) : Rat)))] : List PR).length ((1 : Int) : Rat) ((2 : Int) : Rat)))]) (M' := [(b17, .cells (ratC y18 (encQ (meanV ([(y1, (encQ ((1 : Int) : Rat))), (y3, (encQ (((-1) : Int) : Rat)))] : List PR) ((1 : Int) : Rat) ((2 : Int) : Rat)))) 27 (0, 0)), (b2, .cells (ratC y1 (encQ ((1 : Int) : Rat))) 27 (0, 0))]) k_ ?_
            refine RD.bat k_ [(11, none)] [1, 2, 3] [] (L' := [11, 10, 8, 7, 6, 5, 9, 2, 4, 1, 3, 0]) (l' := [(1, pt b2), (2, pt b17), (3, .int .i64 (meanE ([(y1, (encQ ((1 : Int) : Rat))), (y3, (encQ (((-1) : Int) : Rat)))] : List PR).length ((1 : Int) : Rat) ((2 : Int) : Rat)))]) k_ ?_
            refine RD.done k_ ?_
            refine KN.meet (y3, b14, y13, y18, b17) [1, 2, 3] [0, 1, 2, 3, 4, 5, 6] (l2 := [(1, pt b2), (2, pt b17), (3, .int .i64 (meanE ([(y1, (encQ ((1 : Int) : Rat))), (y3, (encQ (((-1) : Int) : Rat)))] : List PR).length ((1 : Int) : Rat) ((2 : Int) : Rat)))]) (by exact trivial) k_ (by rfl) (by rfl) (by rfl)
        · skip
          refine RDi.new (i := 9) (fun b => pt b) (.cells (ratC (⟨saNil, saNil⟩ : RA) (⟨false, ([] : List Nat), ([] : List Nat)⟩ : Raw)) 27 (0, 0)) k_ k_ k_ (fun w => by kernel_rfl) (fun b19 => ?_)
          refine RD.new (i := 2) (fun b => .slice (some ⟨b, 0, none⟩) 2 2) (.cells (encR ([(y1, (encQ ((1 : Int) : Rat))), (y3, (encQ (((-1) : Int) : Rat)))] : List PR)) 27 (0, 0)) k_ k_ k_ k_ (fun w => by kernel_rfl) (fun b20 => ?_)
          refine RD.share 0 rfl rfl k_ ?_
          refine RD.also (allRat ([(y1, (encQ ((1 : Int) : Rat))), (y3, (encQ (((-1) : Int) : Rat)))] : List PR)) (fun w h => allRat_cons (h _ (.tail _ ((.tail _ ((.tail _ ((.head _)))))))) (allRat_cons (h _ (.tail _ ((.tail _ ((.head _)))))) (allRat_nil _))) k_ ?_
          refine RD.also (fRats (⟨some ⟨b20, 0, none⟩, 2⟩ : SA) ([(y1, (encQ ((1 : Int) : Rat))), (y3, (encQ (((-1) : Int) : Rat)))] : List PR)) (fun w h => fRats_own (h _ (.tail _ ((.head _)))) (h _ (.head _)) x_ x_) k_ ?_
          refine RD.turn 10 (v := .slice (some ⟨b20, 0, none⟩) 2 2) (v' := sl (⟨some ⟨b20, 0, none⟩, 2⟩ : SA) ([(y1, (encQ ((1 : Int) : Rat))), (y3, (encQ (((-1) : Int) : Rat)))] : List PR).length) k_ (sl_eq x_) ?_
          refine RD.call (i := 5) (m19_Mean_c (⟨some ⟨b20, 0, none⟩, 2⟩ : SA) ([(y1, (encQ ((1 : Int) : Rat))), (y3, (encQ (((-1) : Int) : Rat)))] : List PR) y1 ((1 : Int) : Rat) y13 ((2 : Int) : Rat) y_l19_awake y_l19_awake y_l19_awake y_l19_awake y_l19_awake) [0, 5, 3] k_ k_ k_ k_ k_ rfl (fun y21 _ => ?_)
          refine RD.bat k_ [(6, none), (7, none), (8, none)] [1, 2, 14, 15] [] (L' := [8, 7, 6, 5, 2, 9, 4, 1, 3, 0]) (l' := [(1, pt b2), (2, pt b19), (14, ratV y21 (encQ (meanV ([(y1, (encQ ((1 : Int) : Rat))), (y3, (encQ (((-1) : Int) : Rat)))] : List PR) ((1 : Int) : Rat) ((2 : Int) : Rat)))), (15, .int .i64 (meanE ([(y1, (encQ ((1 : Int) : Rat))), (y3, (encQ (((-1) : Int) : Rat)))] : List PR).length ((1 : Int) : Rat) ((2 : Int) : Rat)))]) k_ ?_
          refine RD.last (i := 10) (some 0) [1, 2, 15] [b19, b19, b19] k_ k_ k_ (l' := [(1, pt b2), (2, pt b19), (15, .int .i64 (meanE ([(y1, (encQ ((1 : Int) : Rat))), (y3, (encQ (((-1) : Int) : Rat)))] : List PR).length ((1 : Int) : Rat) ((2 : Int) : Rat)))]) (M' := [(b19, .cells (ratC y21 (encQ (meanV ([(y1, (encQ ((1 : Int) : Rat))), (y3, (encQ (((-1) : Int) : Rat)))] : List PR) ((1 : Int) : Rat) ((2 : Int) : Rat)))) 27 (0, 0)), (b2, .cells (ratC y1 (encQ ((1 : Int) : Rat))) 27 (0, 0))]) k_ ?_
          refine RD.bat k_ [(11, none)] [1, 2, 3] [] (L' := [11, 10, 8, 7, 6, 5, 2, 9, 4, 1, 3, 0]) (l' := [(1, pt b2), (2, pt b19), (3, .int .i64 (meanE ([(y1, (encQ ((1 : Int) : Rat))), (y3, (encQ (((-1) : Int) : Rat)))] : List PR).length ((1 : Int) : Rat) ((2 : Int) : Rat)))]) k_ ?_
          refine RD.done k_ ?_
          refine KN.meet (y3, b20, y13, y21, b19) [1, 2, 3] [0, 1, 2, 3, 4, 5, 6] (l2 := [(1, pt b2), (2, pt b19), (3, .int .i64 (meanE ([(y1, (encQ ((1 : Int) : Rat))), (y3, (encQ (((-1) : Int) : Rat)))] : List PR).length ((1 : Int) : Rat) ((2 : Int) : Rat)))]) (by exact trivial) k_ (by rfl) (by rfl) (by rfl)
      · skip
        refine RDi.new (i := 9) (fun b => pt b) (.cells (ratC (⟨saNil, saNil⟩ : RA) (⟨false, ([] : List Nat), ([] : List Nat)⟩ : Raw)) 27 (0, 0)) k_ k_ k_ (fun w => by kernel_rfl) (fun b22 => ?_)
        refine RD.forkL (is := [2, 4]) k_ rfl k_ ⟨?_, ?_, trivial⟩
        · skip
          refine RDi.new (i := 2) (fun b => .slice (some ⟨b, 0, none⟩) 2 2) (.cells (encR ([(y1, (encQ ((1 : Int) : Rat))), (y3, (encQ (((-1) : Int) : Rat)))] : List PR)) 27 (0, 0)) k_ k_ k_ (fun w => by kernel_rfl) (fun b23 => ?_)
          refine RD.call (i := 4) (r03_FromInt 2 y_l19_awake y_l19_awake) [] k_ k_ k_ k_ k_ rfl (fun y24 _ => ?_)
          refine RD.share 0 rfl rfl k_ ?_
          refine RD.also (allRat ([(y1, (encQ ((1 : Int) : Rat))), (y3, (encQ (((-1) : Int) : Rat)))] : List PR)) (fun w h => allRat_cons (h _ (.tail _ ((.tail _ ((.tail _ ((.head _)))))))) (allRat_cons (h _ (.tail _ ((.tail _ ((.head _)))))) (allRat_nil _))) k_ ?_
          refine RD.also (fRats (⟨some ⟨b23, 0, none⟩, 2⟩ : SA) ([(y1, (encQ ((1 : Int) : Rat))), (y3, (encQ (((-1) : Int) : Rat)))] : List PR)) (fun w h => fRats_own (h _ (.tail _ ((.head _)))) (h _ (.head _)) x_ x_) k_ ?_
          refine RD.turn 10 (v := .slice (some ⟨b23, 0, none⟩) 2 2) (v' := sl (⟨some ⟨b23, 0, none⟩, 2⟩ : SA) ([(y1, (encQ ((1 : Int) : Rat))), (y3, (encQ (((-1) : Int) : Rat)))] : List PR).length) k_ (sl_eq x_) ?_
          refine RD.call (i := 5) (m19_Mean_c (⟨some ⟨b23, 0, none⟩, 2⟩ : SA) ([(y1, (encQ ((1 : Int) : Rat))), (y3, (encQ (((-1) : Int) : Rat)))] : List PR) y1 ((1 : Int) : Rat) y24 ((2 : Int) : Rat) y_l19_awake y_l19_awake y_l19_awake y_l19_awake y_l19_awake) [0, 5, 3] k_ k_ k_ k_ k_ rfl (fun y25 _ => ?_)
          refine RD.bat k_ [(6, none), (7, none), (8, none)] [1, 2, 14, 15] [] (L' := [8, 7, 6, 5, 4, 2, 9, 1, 3, 0]) (l' := [(1, pt b2), (2, pt b22), (14, ratV y25 (encQ (meanV ([(y1, (encQ ((1 : Int) : Rat))), (y3, (encQ (((-1) : Int) : Rat)))] : List PR) ((1 : Int) : Rat) ((2 : Int) : Rat)))), (15, .int .i64 (meanE ([(y1, (encQ ((1 : Int) : Rat))), (y3, (encQ (((-1) : Int) : Rat)))] : List PR).length ((1 : Int) : Rat) ((2 : Int) : Rat)))]) k_ ?_
          refine RD.last (i := 10) (some 0) [1, 2, 15] [b22, b22, b22] k_ k_ k_ (l' := [(1, pt b2), (2, pt b22), (15, .int .i64 (meanE ([(y1, (encQ ((1 : Int) : Rat))), (y3, (encQ (((-1) : Int) : Rat)))] : List PR).length ((1 : Int) : Rat) ((2 : Int) : Rat)))]) (M' := [(b22, .cells (ratC y25 (encQ (meanV ([(y1, (encQ ((1 : Int) : Rat))), (y3, (encQ (((-1) : Int) : Rat)))] : List PR) ((1 : Int) : Rat) ((2 : Int) : Rat)))) 27 (0, 0)), (b2, .cells (ratC y1 (encQ ((1 : Int) : Rat))) 27 (0, 0))]) k_ ?_
          refine RD.bat k_ [(11, none)] [1, 2, 3] [] (L' := [11, 10, 8, 7, 6, 5, 4, 2, 9, 1, 3, 0]) (l' := [(1, pt b2), (2, pt b22), (3, .int .i64 (meanE ([(y1, (encQ ((1 : Int) : Rat))), (y3, (encQ (((-1) : Int) : Rat)))] : List PR).length ((1 : Int) : Rat) ((2 : Int) : Rat)))]) k_ ?_
          refine RD.done k_ ?_
          refine KN.meet (y3, b23, y24, y25, b22) [1, 2, 3] [0, 1, 2, 3, 4, 5, 6] (l2 := [(1, pt b2), (2, pt b22), (3, .int .i64 (meanE ([(y1, (encQ ((1 : Int) : Rat))), (y3, (encQ (((-1) : Int) : Rat)))] : List PR).length ((1 : Int) : Rat) ((2 : Int) : Rat)))]) (by exact trivial) k_ (by rfl) (by rfl) (by rfl)
        · skip
          refine RDi.call (i := 4) (r03_FromInt 2 y_l19_awake y_l19_awake) [] k_ k_ k_ k_ rfl (fun y26 _ => ?_)
          refine RD.new (i := 2) (fun b => .slice (some ⟨b, 0, none⟩) 2 2) (.cells (encR ([(y1, (encQ ((1 : Int) : Rat))), (y3, (encQ (((-1) : Int) : Rat)))] : List PR)) 27 (0, 0)) k_ k_ k_ k_ (fun w => by kernel_rfl) (fun b27 => ?_)
          refine RD.share 0 rfl rfl k_ ?_
          refine RD.also (allRat ([(y1, (encQ ((1 : Int) : Rat))), (y3, (encQ (((-1) : Int) : Rat)))] : List PR)) (fun w h => allRat_cons (h _ (.tail _ ((.tail _ ((.tail _ ((.head _)))))))) (allRat_cons (h _ (.tail _ ((.tail _ ((.head _)))))) (allRat_nil _))) k_ ?_
          refine RD.also (fRats (⟨some ⟨b27, 0, none⟩, 2⟩ : SA) ([(y1, (encQ ((1 : Int) : Rat))), (y3, (encQ (((-1) : Int) : Rat)))] : List PR)) (fun w h => fRats_own (h _ (.tail _ ((.head _)))) (h _ (.head _)) x_ x_) k_ ?_
          refine RD.turn 10 (v := .slice (some ⟨b27, 0, none⟩) 2 2) (v' := sl (⟨some ⟨b27, 0, none⟩, 2⟩ : SA) ([(y1, (encQ ((1 : Int) : Rat))), (y3, (encQ (((-1) : Int) : Rat)))] : List PR).length) k_ (sl_eq x_) ?_
          refine RD.call (i := 5) (m19_Mean_c (⟨some ⟨b27, 0, none⟩, 2⟩ : SA) ([(y1, (encQ ((1 : Int) : Rat))), (y3, (encQ (((-1) : Int) : Rat)))] : List PR) y1 ((1 : Int) : Rat) y26 ((2 : Int) : Rat) y_l19_awake y_l19_awake y_l19_awake y_l19_awake y_l19_awake) [0, 5, 3] k_ k_ k_ k_ k_ rfl (fun y28 _ => ?_)
          refine RD.bat k_ [(6, none), (7, none), (8, none)] [1, 2, 14, 15] [] (L' := [8, 7, 6, 5, 2, 4, 9, 1, 3, 0]) (l' := [(1, pt b2), (2, pt b22), (14, ratV y28 (encQ (meanV ([(y1, (encQ ((1 : Int) : Rat))), (y3, (encQ (((-1) : Int) : Rat)))] : List PR) ((1 : Int) : Rat) ((2 : Int) : Rat)))), (15, .int .i64 (meanE ([(y1, (encQ ((1 : Int) : Rat))), (y3, (encQ (((-1) : Int) : Rat)))] : List PR).length ((1 : Int) : Rat) ((2 : Int) : Rat)))]) k_ ?_
          refine RD.last (i := 10) (some 0) [1, 2, 15] [b22, b22, b22] k_ k_ k_ (l' := [(1, pt b2), (2, pt b22), (15, .int .i64 (meanE ([(y1, (encQ ((1 : Int) : Rat))), (y3, (encQ (((-1) : Int) : Rat)))] : List PR).length ((1 : Int) : Rat) ((2 : Int) : Rat)))]) (M' := [(b22, .cells (ratC y28 (encQ (meanV ([(y1, (encQ ((1 : Int) : Rat))), (y3, (encQ (((-1) : Int) : Rat)))] : List PR) ((1 : Int) : Rat) ((2 : Int) : Rat)))) 27 (0, 0)), (b2, .cells (ratC y1 (encQ ((1 : Int) : Rat))) 27 (0, 0))]) k_ ?_
          refine RD.bat k_ [(11, none)] [1, 2, 3] [] (L' := [11, 10, 8, 7, 6, 5, 2, 4, 9, 1, 3, 0]) (l' := [(1, pt b2), (2, pt b22), (3, .int .i64 (meanE ([(y1, (encQ ((1 : Int) : Rat))), (y3, (encQ (((-1) : Int) : Rat)))] : List PR).length ((1 : Int) : Rat) ((2 : Int) : Rat)))]) k_ ?_
          refine RD.done k_ ?_
          refine KN.meet (y3, b27, y26, y28, b22) [1, 2, 3] [0, 1, 2, 3, 4, 5, 6] (l2 := [(1, pt b2), (2, pt b22), (3, .int .i64 (meanE ([(y1, (encQ ((1 : Int) : Rat))), (y3, (encQ (((-1) : Int) : Rat)))] : List PR).length ((1 : Int) : Rat) ((2 : Int) : Rat)))]) (by exact trivial) k_ (by rfl) (by rfl) (by rfl)
    · skip
      refine RDi.new (i := 9) (fun b => pt b) (.cells (ratC (⟨saNil, saNil⟩ : RA) (⟨false, ([] : List Nat), ([] : List Nat)⟩ : Raw)) 27 (0, 0)) k_ k_ k_ (fun w => by kernel_rfl) (fun b29 => ?_)
      refine RD.call (i := 1) (r03_FromInt (-1) y_l19_awake y_l19_awake) [] k_ k_ k_ k_ k_ rfl (fun y30 _ => ?_)
      refine RD.forkL (is := [2, 4]) k_ rfl k_ ⟨?_, ?_, trivial⟩
      · skip
        refine RDi.new (i := 2) (fun b => .slice (some ⟨b, 0, none⟩) 2 2) (.cells (encR ([(y1, (encQ ((1 : Int) : Rat))), (y30, (encQ (((-1) : Int) : Rat)))] : List PR)) 27 (0, 0)) k_ k_ k_ (fun w => by kernel_rfl) (fun b31 => ?_)
        refine RD.call (i := 4) (r03_FromInt 2 y_l19_awake y_l19_awake) [] k_ k_ k_ k_ k_ rfl (fun y32 _ => ?_)
        refine RD.share 0 rfl rfl k_ ?_
        refine RD.also (allRat ([(y1, (encQ ((1 : Int) : Rat))), (y30, (encQ (((-1) : Int) : Rat)))] : List PR)) (fun w h => allRat_cons (h _ (.tail _ ((.tail _ ((.tail _ ((.head _)))))))) (allRat_cons (h _ (.tail _ ((.tail _ ((.head _)))))) (allRat_nil _))) k_ ?_
        refine RD.also (fRats (⟨some ⟨b31, 0, none⟩, 2⟩ : SA) ([(y1, (encQ ((1 : Int) : Rat))), (y30, (encQ (((-1) : Int) : Rat)))] : List PR)) (fun w h => fRats_own (h _ (.tail _ ((.head _)))) (h _ (.head _)) x_ x_) k_ ?_
        refine RD.turn 10 (v := .slice (some ⟨b31, 0, none⟩) 2 2) (v' := sl (⟨some ⟨b31, 0, none⟩, 2⟩ : SA) ([(y1, (encQ ((1 : Int) : Rat))), (y30, (encQ (((-1) : Int) : Rat)))] : List PR).length) k_ (sl_eq x_) ?_
        refine RD.call (i := 5) (m19_Mean_c (⟨some ⟨b31, 0, none⟩, 2⟩ : SA) ([(y1, (encQ ((1 : Int) : Rat))), (y30, (encQ (((-1) : Int) : Rat)))] : List PR) y1 ((1 : Int) : Rat) y32 ((2 : Int) : Rat) y_l19_awake y_l19_awake y_l19_awake y_l19_awake y_l19_awake) [0, 5, 3] k_ k_ k_ k_ k_ rfl (fun y33 _ => ?_)
        refine RD.bat k_ [(6, none), (7, none), (8, none)] [1, 2, 14, 15] [] (L' := [8, 7, 6, 5, 4, 2, 1, 9, 3, 0]) (l' := [(1, pt b2), (2, pt b29), (14, ratV y33 (encQ (meanV ([(y1, (encQ ((1 : Int) : Rat))), (y30, (encQ (((-1) : Int) : Rat)))] : List PR) ((1 : Int) : Rat) ((2 : Int) : Rat)))), (15, .int .i64 (meanE ([(y1, (encQ ((1 : Int) : Rat))), (y30, (encQ (((-1) : Int) : Rat)))] : List PR).length ((1 : Int) : Rat) ((2 : Int) : Rat)))]) k_ ?_
        refine RD.last (i := 10) (some 0) [1, 2, 15] [b29, b29, b29] k_ k_ k_ (l' := [(1, pt b2), (2, pt b29), (15, .int .i64 (meanE ([(y1, (encQ ((1 : Int) : Rat))), (y30, (encQ (((-1) : Int) : Rat)))] : List PR).length ((1 : Int) : Rat) ((2 : Int) : Rat)))]) (M' := [(b29, .cells (ratC y33 (encQ (meanV ([(y1, (encQ ((1 : Int) : Rat))), (y30, (encQ (((-1) : Int) : Rat)))] : List PR) ((1 : Int) : Rat) ((2 : Int) : Rat)))) 27 (0, 0)), (b2, .cells (ratC y1 (encQ ((1 : Int) : Rat))) 27 (0, 0))]) k_ ?_
        refine RD.bat k_ [(11, none)] [1, 2, 3] [] (L' := [11, 10, 8, 7, 6, 5, 4, 2, 1, 9, 3, 0]) (l' := [(1, pt b2), (2, pt b29), (3, .int .i64 (meanE ([(y1, (encQ ((1 : Int) : Rat))), (y30, (encQ (((-1) : Int) : Rat)))] : List PR).length ((1 : Int) : Rat) ((2 : Int) : Rat)))]) k_ ?_
        refine RD.done k_ ?_
        refine KN.meet (y30, b31, y32, y33, b29) [1, 2, 3] [0, 1, 2, 3, 4, 5, 6] (l2 := [(1, pt b2), (2, pt b29), (3, .int .i64 (meanE ([(y1, (encQ ((1 : Int) : Rat))), (y30, (encQ (((-1) : Int) : Rat)))] : List PR).length ((1 : Int) : Rat) ((2 : Int) : Rat)))]) (by exact trivial) k_ (by rfl) (by rfl) (by rfl)
      · skip
        refine RDi.call (i := 4) (r03_FromInt 2 y_l19_awake y_l19_awake) [] k_ k_ k_ k_ rfl (fun y34 _ => ?_)
        refine RD.new (i := 2) (fun b => .slice (some ⟨b, 0, none⟩) 2 2) (.cells (encR ([(y1, (encQ ((1 : Int) : Rat))), (y30, (encQ (((-1) : Int) : Rat)))] : List PR)) 27 (0, 0)) k_ k_ k_ k_ (fun w => by kernel_rfl) (fun b35 => ?_)
        refine RD.share 0 rfl rfl k_ ?_
        refine RD.also (allRat ([(y1, (encQ ((1 : Int) : Rat))), (y30, (encQ (((-1) : Int) : Rat)))] : List PR)) (fun w h => allRat_cons (h _ (.tail _ ((.tail _ ((.tail _ ((.head _)))))))) (allRat_cons (h _ (.tail _ ((.tail _ ((.head _)))))) (allRat_nil _))) k_ ?_
        refine RD.also (fRats (⟨some ⟨b35, 0, none⟩, 2⟩ : SA) ([(y1, (encQ ((1 : Int) : Rat))), (y30, (encQ (((-1) : Int) : Rat)))] : List PR)) (fun w h => fRats_own (h _ (.tail _ ((.head _)))) (h _ (.head _)) x_ x_) k_ ?_
        refine RD.turn 10 (v := .slice (some ⟨b35, 0, none⟩) 2 2) (v' := sl (⟨some ⟨b35, 0, none⟩, 2⟩ : SA) ([(y1, (encQ ((1 : Int) : Rat))), (y30, (encQ (((-1) : Int) : Rat)))] : List PR).length) k_ (sl_eq x_) ?_
        refine RD.call (i := 5) (m19_Mean_c (⟨some ⟨b35, 0, none⟩, 2⟩ : SA) ([(y1, (encQ ((1 : Int) : Rat))), (y30, (encQ (((-1) : Int) : Rat)))] : List PR) y1 ((1 : Int) : Rat) y34 ((2 : Int) : Rat) y_l19_awake y_l19_awake y_l19_awake y_l19_awake y_l19_awake) [0, 5, 3] k_ k_ k_ k_ k_ rfl (fun y36 _ => ?_)
        refine RD.bat k_ [(6, none), (7, none), (8, none)] [1, 2, 14, 15] [] (L' := [8, 7, 6, 5, 2, 4, 1, 9, 3, 0]) (l' := [(1, pt b2), (2, pt b29), (14, ratV y36 (encQ (meanV ([(y1, (encQ ((1 : Int) : Rat))), (y30, (encQ (((-1) : Int) : Rat)))] : List PR) ((1 : Int) : Rat) ((2 : Int) : Rat)))), (15, .int .i64 (meanE ([(y1, (encQ ((1 : Int) : Rat))), (y30, (encQ (((-1) : Int) : Rat)))] : List PR).length ((1 : Int) : Rat) ((2 : Int) : Rat)))]) k_ ?_
        refine RD.last (i := 10) (some 0) [1, 2, 15] [b29, b29, b29] k_ k_ k_ (l' := [(1, pt b2), (2, pt b29), (15, .int .i64 (meanE ([(y1, (encQ ((1 : Int) : Rat))), (y30, (encQ (((-1) : Int) : Rat)))] : List PR).length ((1 : Int) : Rat) ((2 : Int) : Rat)))]) (M' := [(b29, .cells (ratC y36 (encQ (meanV ([(y1, (encQ ((1 : Int) : Rat))), (y30, (encQ (((-1) : Int) : Rat)))] : List PR) ((1 : Int) : Rat) ((2 : Int) : Rat)))) 27 (0, 0)), (b2, .cells (ratC y1 (encQ ((1 : Int) : Rat))) 27 (0, 0))]) k_ ?_
        refine RD.bat k_ [(11, none)] [1, 2, 3] [] (L' := [11, 10, 8, 7, 6, 5, 2, 4, 1, 9, 3, 0]) (l' := [(1, pt b2), (2, pt b29), (3, .int .i64 (meanE ([(y1, (encQ ((1 : Int) : Rat))), (y30, (encQ (((-1) : Int) : Rat)))] : List PR).length ((1 : Int) : Rat) ((2 : Int) : Rat)))]) k_ ?_
        refine RD.done k_ ?_
        refine KN.meet (y30, b35, y34, y36, b29) [1, 2, 3] [0, 1, 2, 3, 4, 5, 6] (l2 := [(1, pt b2), (2, pt b29), (3, .int .i64 (meanE ([(y1, (encQ ((1 : Int) : Rat))), (y30, (encQ (((-1) : Int) : Rat)))] : List PR).length ((1 : Int) : Rat) ((2 : Int) : Rat)))]) (by exact trivial) k_ (by rfl) (by rfl) (by rfl)
  · skip
    intro x37 hx38
    obtain ⟨y3, b4, y5, y6, b7⟩ := x37
    replace hx38 : True := hx38
    refine J.seqC (ι := (RA) × (Nat) × (RA) × (RA × RA × Rat × Rat) × (Nat)) (fun x => (ScaleR (vals ([((⟨saNil, saNil⟩ : RA), (⟨false, ([] : List Nat), ([] : List Nat)⟩ : Raw)), ((⟨saNil, saNil⟩ : RA), (⟨false, ([] : List Nat), ([] : List Nat)⟩ : Raw)), ((⟨saNil, saNil⟩ : RA), (⟨false, ([] : List Nat), ([] : List Nat)⟩ : Raw)), (x.1, (encQ ((5 : Int) : Rat)))] : List PR)) ([((⟨saNil, saNil⟩ : RA), (⟨false, ([] : List Nat), ([] : List Nat)⟩ : Raw)), ((⟨saNil, saNil⟩ : RA), (⟨false, ([] : List Nat), ([] : List Nat)⟩ : Raw)), ((⟨saNil, saNil⟩ : RA), (⟨false, ([] : List Nat), ([] : List Nat)⟩ : Raw)), (x.1, (encQ ((5 : Int) : Rat)))] : List PR).length ((1 : Int) : Rat) (((1 : Int) : Rat) / ((4 : Int) : Rat)) 3 x.2.2.2.1.2.2.1 x.2.2.2.1.2.2.2)) (fun x => [(2, pt b7), (3, .int .i64 (meanE ([(y1, (encQ ((1 : Int) : Rat))), (y3, (encQ (((-1) : Int) : Rat)))] : List PR).length ((1 : Int) : Rat) ((2 : Int) : Rat))), (4, .pointer (some ⟨x.2.2.2.2, 0, none⟩)), (5, .int .i64 (checkE ([((⟨saNil, saNil⟩ : RA), (⟨false, ([] : List Nat), ([] : List Nat)⟩ : Raw)), ((⟨saNil, saNil⟩ : RA), (⟨false, ([] : List Nat), ([] : List Nat)⟩ : Raw)), ((⟨saNil, saNil⟩ : RA), (⟨false, ([] : List Nat), ([] : List Nat)⟩ : Raw)), (x.1, (encQ ((5 : Int) : Rat)))] : List PR).length ((1 : Int) : Rat) (((1 : Int) : Rat) / ((4 : Int) : Rat)) 3))]) (fun x => [(x.2.2.2.2, .cells (ivC x.2.2.2.1.1 (encQ x.2.2.2.1.2.2.1) x.2.2.2.1.2.1 (encQ x.2.2.2.1.2.2.2)) 38 (0, 0)), (b7, .cells (ratC y6 (encQ (meanV ([(y1, (encQ ((1 : Int) : Rat))), (y3, (encQ (((-1) : Int) : Rat)))] : List PR) ((1 : Int) : Rat) ((2 : Int) : Rat)))) 27 (0, 0)), (b2, .cells (ratC y1 (encQ ((1 : Int) : Rat))) 27 (0, 0))]) (fun x => [fRat x.2.2.2.1.1 (encQ x.2.2.2.1.2.2.1), fRat x.2.2.2.1.2.1 (encQ x.2.2.2.1.2.2.2), fRats (⟨some ⟨x.2.1, 0, none⟩, 4⟩ : SA) ([((⟨saNil, saNil⟩ : RA), (⟨false, ([] : List Nat), ([] : List Nat)⟩ : Raw)), ((⟨saNil, saNil⟩ : RA), (⟨false, ([] : List Nat), ([] : List Nat)⟩ : Raw)), ((⟨saNil, saNil⟩ : RA), (⟨false, ([] : List Nat), ([] : List Nat)⟩ : Raw)), (x.1, (encQ ((5 : Int) : Rat)))] : List PR), allRat ([((⟨saNil, saNil⟩ : RA), (⟨false, ([] : List Nat), ([] : List Nat)⟩ : Raw)), ((⟨saNil, saNil⟩ : RA), (⟨false, ([] : List Nat), ([] : List Nat)⟩ : Raw)), ((⟨saNil, saNil⟩ : RA), (⟨false, ([] : List Nat), ([] : List Nat)⟩ : Raw)), (x.1, (encQ ((5 : Int) : Rat)))] : List PR), fRat (⟨saNil, saNil⟩ : RA) (⟨false, ([] : List Nat), ([] : List Nat)⟩ : Raw), fBlk x.2.1 (.cells (encR ([((⟨saNil, saNil⟩ : RA), (⟨false, ([] : List Nat), ([] : List Nat)⟩ : Raw)), ((⟨saNil, saNil⟩ : RA), (⟨false, ([] : List Nat), ([] : List Nat)⟩ : Raw)), ((⟨saNil, saNil⟩ : RA), (⟨false, ([] : List Nat), ([] : List Nat)⟩ : Raw)), (x.1, (encQ ((5 : Int) : Rat)))] : List PR)) 27 (0, 0)), fRat x.2.2.1 (encQ (((1 : Int) : Rat) / ((4 : Int) : Rat))), fRat x.1 (encQ ((5 : Int) : Rat)), fRat y6 (encQ (meanV ([(y1, (encQ ((1 : Int) : Rat))), (y3, (encQ (((-1) : Int) : Rat)))] : List PR) ((1 : Int) : Rat) ((2 : Int) : Rat))), fRats (⟨some ⟨b4, 0, none⟩, 2⟩ : SA) ([(y1, (encQ ((1 : Int) : Rat))), (y3, (encQ (((-1) : Int) : Rat)))] : List PR), allRat ([(y1, (encQ ((1 : Int) : Rat))), (y3, (encQ (((-1) : Int) : Rat)))] : List PR), fBlk b4 (.cells (encR ([(y1, (encQ ((1 : Int) : Rat))), (y3, (encQ (((-1) : Int) : Rat)))] : List PR)) 27 (0, 0)), fRat y5 (encQ ((2 : Int) : Rat)), fRat y3 (encQ (((-1) : Int) : Rat)), fRat y1 (encQ ((1 : Int) : Rat))]) ?_ ?_
    · skip
      refine J.regD k_ [12] ?_
      refine RD.bat k_ [(0, none), (1, none), (2, none), (5, some 1)] [2, 3, 17, 18, 19, 22] [b2, b2, b2] (L' := [5, 2, 1, 0]) (l' := [(2, pt b7), (3, .int .i64 (meanE ([(y1, (encQ ((1 : Int) : Rat))), (y3, (encQ (((-1) : Int) : Rat)))] : List PR).length ((1 : Int) : Rat) ((2 : Int) : Rat))), (17, ratV (⟨saNil, saNil⟩ : RA) (⟨false, ([] : List Nat), ([] : List Nat)⟩ : Raw)), (18, ratV (⟨saNil, saNil⟩ : RA) (⟨false, ([] : List Nat), ([] : List Nat)⟩ : Raw)), (19, ratV (⟨saNil, saNil⟩ : RA) (⟨false, ([] : List Nat), ([] : List Nat)⟩ : Raw)), (22, ratV y1 (encQ ((1 : Int) : Rat)))]) k_ ?_
      refine RD.forkL (is := [3, 11]) k_ rfl k_ ⟨?_, ?_, trivial⟩
      · skip
        refine RDi.call (i := 3) (r03_FromInt 5 y_l19_awake y_l19_awake) [] k_ k_ k_ k_ rfl (fun y39 _ => ?_)
        refine RD.forkL (is := [4, 6, 11]) k_ rfl k_ ⟨?_, ?_, ?_, trivial⟩
        · skip
          refine RDi.new (i := 4) (fun b => .slice (some ⟨b, 0, none⟩) 4 4) (.cells (encR ([((⟨saNil, saNil⟩ : RA), (⟨false, ([] : List Nat), ([] : List Nat)⟩ : Raw)), ((⟨saNil, saNil⟩ : RA), (⟨false, ([] : List Nat), ([] : List Nat)⟩ : Raw)), ((⟨saNil, saNil⟩ : RA), (⟨false, ([] : List Nat), ([] : List Nat)⟩ : Raw)), (y39, (encQ ((5 : Int) : Rat)))] : List PR)) 27 (0, 0)) k_ k_ k_ (fun w => by kernel_rfl) (fun b40 => ?_)
          refine RD.forkL (is := [6, 11]) k_ rfl k_ ⟨?_, ?_, trivial⟩
          · skip
            refine RDi.call (i := 6) (r03_Fraction 1 4 y_l19_awake y_l19_awake y_l19_awake y_l19_awake y_l19_awake) [] k_ k_ k_ k_ rfl (fun y41 _ => ?_)
            refine RD.share 0 rfl rfl k_ ?_
            refine RD.also (fRat (⟨saNil, saNil⟩ : RA) (⟨false, ([] : List Nat), ([] : List Nat)⟩ : Raw)) (fun w h => ⟨fU_nil w, fU_nil w⟩) k_ ?_
            refine RD.also (allRat ([((⟨saNil, saNil⟩ : RA), (⟨false, ([] : List Nat), ([] : List Nat)⟩ : Raw)), ((⟨saNil, saNil⟩ : RA), (⟨false, ([] : List Nat), ([] : List Nat)⟩ : Raw)), ((⟨saNil, saNil⟩ : RA), (⟨false, ([] : List Nat), ([] : List Nat)⟩ : Raw)), (y39, (encQ ((5 : Int) : Rat)))] : List PR)) (fun w h => allRat_cons (h _ (.head _)) (allRat_cons (h _ (.head _)) (allRat_cons (h _ (.head _)) (allRat_cons (h _ (.tail _ ((.tail _ ((.tail _ ((.head _)))))))) (allRat_nil _))))) k_ ?_
            refine RD.also (fRats (⟨some ⟨b40, 0, none⟩, 4⟩ : SA) ([((⟨saNil, saNil⟩ : RA), (⟨false, ([] : List Nat), ([] : List Nat)⟩ : Raw)), ((⟨saNil, saNil⟩ : RA), (⟨false, ([] : List Nat), ([] : List Nat)⟩ : Raw)), ((⟨saNil, saNil⟩ : RA), (⟨false, ([] : List Nat), ([] : List Nat)⟩ : Raw)), (y39, (encQ ((5 : Int) : Rat)))] : List PR)) (fun w h => fRats_own (h _ (.tail _ ((.tail _ ((.head _)))))) (h _ (.head _)) x_ x_) k_ ?_
            refine RD.turn 21 (v := .slice (some ⟨b40, 0, none⟩) 4 4) (v' := sl (⟨some ⟨b40, 0, none⟩, 4⟩ : SA) ([((⟨saNil, saNil⟩ : RA), (⟨false, ([] : List Nat), ([] : List Nat)⟩ : Raw)), ((⟨saNil, saNil⟩ : RA), (⟨false, ([] : List Nat), ([] : List Nat)⟩ : Raw)), ((⟨saNil, saNil⟩ : RA), (⟨false, ([] : List Nat), ([] : List Nat)⟩ : Raw)), (y39, (encQ ((5 : Int) : Rat)))] : List PR).length) k_ (sl_eq x_) ?_
            refine RD.forkL (is := [7, 11]) k_ rfl k_ ⟨?_, ?_, trivial⟩
            · skip
              refine RDi.call (i := 7) (m19_Scale_c (⟨some ⟨b40, 0, none⟩, 4⟩ : SA) ([((⟨saNil, saNil⟩ : RA), (⟨false, ([] : List Nat), ([] : List Nat)⟩ : Raw)), ((⟨saNil, saNil⟩ : RA), (⟨false, ([] : List Nat), ([] : List Nat)⟩ : Raw)), ((⟨saNil, saNil⟩ : RA), (⟨false, ([] : List Nat), ([] : List Nat)⟩ : Raw)), (y39, (encQ ((5 : Int) : Rat)))] : List PR) y1 ((1 : Int) : Rat) y41 (((1 : Int) : Rat) / ((4 : Int) : Rat)) 3 y_l19_awake y_l19_awake y_l19_awake y_l19_awake y_l19_awake) [0, 12, 4] k_ k_ k_ k_ rfl (fun y42 h43 => ?_)
              refine RD.bat k_ [(8, none), (9, none), (10, none)] [2, 3, 25, 26] [] (L' := [10, 9, 8, 7, 6, 4, 3, 5, 2, 1, 0]) (l' := [(2, pt b7), (3, .int .i64 (meanE ([(y1, (encQ ((1 : Int) : Rat))), (y3, (encQ (((-1) : Int) : Rat)))] : List PR).length ((1 : Int) : Rat) ((2 : Int) : Rat))), (25, .agg (ivC y42.1 (encQ y42.2.2.1) y42.2.1 (encQ y42.2.2.2))), (26, .int .i64 (checkE ([((⟨saNil, saNil⟩ : RA), (⟨false, ([] : List Nat), ([] : List Nat)⟩ : Raw)), ((⟨saNil, saNil⟩ : RA), (⟨false, ([] : List Nat), ([] : List Nat)⟩ : Raw)), ((⟨saNil, saNil⟩ : RA), (⟨false, ([] : List Nat), ([] : List Nat)⟩ : Raw)), (y39, (encQ ((5 : Int) : Rat)))] : List PR).length ((1 : Int) : Rat) (((1 : Int) : Rat) / ((4 : Int) : Rat)) 3))]) k_ ?_
              refine RD.new (i := 11) (fun b => pt b) (.cells (ivC (⟨saNil, saNil⟩ : RA) (⟨false, ([] : List Nat), ([] : List Nat)⟩ : Raw) (⟨saNil, saNil⟩ : RA) (⟨false, ([] : List Nat), ([] : List Nat)⟩ : Raw)) 38 (0, 0)) k_ k_ k_ k_ (fun w => by kernel_rfl) (fun b44 => ?_)
              refine RD.last (i := 12) (some 0) [2, 3, 4, 26] [b44, b44, b44, b44, b44, b44] k_ k_ k_ (l' := [(2, pt b7), (3, .int .i64 (meanE ([(y1, (encQ ((1 : Int) : Rat))), (y3, (encQ (((-1) : Int) : Rat)))] : List PR).length ((1 : Int) : Rat) ((2 : Int) : Rat))), (4, pt b44), (26, .int .i64 (checkE ([((⟨saNil, saNil⟩ : RA), (⟨false, ([] : List Nat), ([] : List Nat)⟩ : Raw)), ((⟨saNil, saNil⟩ : RA), (⟨false, ([] : List Nat), ([] : List Nat)⟩ : Raw)), ((⟨saNil, saNil⟩ : RA), (⟨false, ([] : List Nat), ([] : List Nat)⟩ : Raw)), (y39, (encQ ((5 : Int) : Rat)))] : List PR).length ((1 : Int) : Rat) (((1 : Int) : Rat) / ((4 : Int) : Rat)) 3))]) (M' := [(b44, .cells (ivC y42.1 (encQ y42.2.2.1) y42.2.1 (encQ y42.2.2.2)) 38 (0, 0)), (b7, .cells (ratC y6 (encQ (meanV ([(y1, (encQ ((1 : Int) : Rat))), (y3, (encQ (((-1) : Int) : Rat)))] : List PR) ((1 : Int) : Rat) ((2 : Int) : Rat)))) 27 (0, 0)), (b2, .cells (ratC y1 (encQ ((1 : Int) : Rat))) 27 (0, 0))]) k_ ?_
              refine RD.bat k_ [(13, none)] [2, 3, 4, 5] [] (L' := [13, 12, 11, 10, 9, 8, 7, 6, 4, 3, 5, 2, 1, 0]) (l' := [(2, pt b7), (3, .int .i64 (meanE ([(y1, (encQ ((1 : Int) : Rat))), (y3, (encQ (((-1) : Int) : Rat)))] : List PR).length ((1 : Int) : Rat) ((2 : Int) : Rat))), (4, pt b44), (5, .int .i64 (checkE ([((⟨saNil, saNil⟩ : RA), (⟨false, ([] : List Nat), ([] : List Nat)⟩ : Raw)), ((⟨saNil, saNil⟩ : RA), (⟨false, ([] : List Nat), ([] : List Nat)⟩ : Raw)), ((⟨saNil, saNil⟩ : RA), (⟨false, ([] : List Nat), ([] : List Nat)⟩ : Raw)), (y39, (encQ ((5 : Int) : Rat)))] : List PR).length ((1 : Int) : Rat) (((1 : Int) : Rat) / ((4 : Int) : Rat)) 3))]) k_ ?_
              refine RD.done k_ ?_
              refine KN.meet (y39, b40, y41, y42, b44) [2, 3, 4, 5] [0, 1, 2, 3, 4, 5, 6, 7, 8, 9, 10, 11, 12, 13, 14] (l2 := [(2, pt b7), (3, .int .i64 (meanE ([(y1, (encQ ((1 : Int) : Rat))), (y3, (encQ (((-1) : Int) : Rat)))] : List PR).length ((1 : Int) : Rat) ((2 : Int) : Rat))), (4, pt b44), (5, .int .i64 (checkE ([((⟨saNil, saNil⟩ : RA), (⟨false, ([] : List Nat), ([] : List Nat)⟩ : Raw)), ((⟨saNil, saNil⟩ : RA), (⟨false, ([] : List Nat), ([] : List Nat)⟩ : Raw)), ((⟨saNil, saNil⟩ : RA), (⟨false, ([] : List Nat), ([] : List Nat)⟩ : Raw)), (y39, (encQ ((5 : Int) : Rat)))] : List PR).length ((1 : Int) : Rat) (((1 : Int) : Rat) / ((4 : Int) : Rat)) 3))]) (by exact h43) k_ (by rfl) (by rfl) (by rfl)
            · skip
              refine RDi.new (i := 11) (fun b => pt b) (.cells (ivC (⟨saNil, saNil⟩ : RA) (⟨false, ([] : List Nat), ([] : List Nat)⟩ : Raw) (⟨saNil, saNil⟩ : RA) (⟨false, ([] : List Nat), ([] : List Nat)⟩ : Raw)) 38 (0, 0)) k_ k_ k_ (fun w => by kernel_rfl) (fun b45 => ?_)
              refine RD.call (i := 7) (m19_Scale_c (⟨some ⟨b40, 0, none⟩, 4⟩ : SA) ([((⟨saNil, saNil⟩ : RA), (⟨false, ([] : List Nat), ([] : List Nat)⟩ : Raw)), ((⟨saNil, saNil⟩ : RA), (⟨false, ([] : List Nat), ([] : List Nat)⟩ : Raw)), ((⟨saNil, saNil⟩ : RA), (⟨false, ([] : List Nat), ([] : List Nat)⟩ : Raw)), (y39, (encQ ((5 : Int) : Rat)))] : List PR) y1 ((1 : Int) : Rat) y41 (((1 : Int) : Rat) / ((4 : Int) : Rat)) 3 y_l19_awake y_l19_awake y_l19_awake y_l19_awake y_l19_awake) [0, 12, 4] k_ k_ k_ k_ k_ rfl (fun y46 h47 => ?_)
              refine RD.bat k_ [(8, none), (9, none), (10, none)] [2, 3, 4, 25, 26] [] (L' := [10, 9, 8, 7, 11, 6, 4, 3, 5, 2, 1, 0]) (l' := [(2, pt b7), (3, .int .i64 (meanE ([(y1, (encQ ((1 : Int) : Rat))), (y3, (encQ (((-1) : Int) : Rat)))] : List PR).length ((1 : Int) : Rat) ((2 : Int) : Rat))), (4, pt b45), (25, .agg (ivC y46.1 (encQ y46.2.2.1) y46.2.1 (encQ y46.2.2.2))), (26, .int .i64 (checkE ([((⟨saNil, saNil⟩ : RA), (⟨false, ([] : List Nat), ([] : List Nat)⟩ : Raw)), ((⟨saNil, saNil⟩ : RA), (⟨false, ([] : List Nat), ([] : List Nat)⟩ : Raw)), ((⟨saNil, saNil⟩ : RA), (⟨false, ([] : List Nat), ([] : List Nat)⟩ : Raw)), (y39, (encQ ((5 : Int) : Rat)))] : List PR).length ((1 : Int) : Rat) (((1 : Int) : Rat) / ((4 : Int) : Rat)) 3))]) k_ ?_
              refine RD.last (i := 12) (some 0) [2, 3, 4, 26] [b45, b45, b45, b45, b45, b45] k_ k_ k_ (l' := [(2, pt b7), (3, .int .i64 (meanE ([(y1, (encQ ((1 : Int) : Rat))), (y3, (encQ (((-1) : Int) : Rat)))] : List PR).length ((1 : Int) : Rat) ((2 : Int) : Rat))), (4, pt b45), (26, .int .i64 (checkE ([((⟨saNil, saNil⟩ : RA), (⟨false, ([] : List Nat), ([] : List Nat)⟩ : Raw)), ((⟨saNil, saNil⟩ : RA), (⟨false, ([] : List Nat), ([] : List Nat)⟩ : Raw)), ((⟨saNil, saNil⟩ : RA), (⟨false, ([] : List Nat), ([] : List Nat)⟩ : Raw)), (y39, (encQ ((5 : Int) : Rat)))] : List PR).length ((1 : Int) : Rat) (((1 : Int) : Rat) / ((4 : Int) : Rat)) 3))]) (M' := [(b45, .cells (ivC y46.1 (encQ y46.2.2.1) y46.2.1 (encQ y46.2.2.2)) 38 (0, 0)), (b7, .cells (ratC y6 (encQ (meanV ([(y1, (encQ ((1 : Int) : Rat))), (y3, (encQ (((-1) : Int) : Rat)))] : List PR) ((1 : Int) : Rat) ((2 : Int) : Rat)))) 27 (0, 0)), (b2, .cells (ratC y1 (encQ ((1 : Int) : Rat))) 27 (0, 0))]) k_ ?_
              refine RD.bat k_ [(13, none)] [2, 3, 4, 5] [] (L' := [13, 12, 10, 9, 8, 7, 11, 6, 4, 3, 5, 2, 1, 0]) (l' := [(2, pt b7), (3, .int .i64 (meanE ([(y1, (encQ ((1 : Int) : Rat))), (y3, (encQ (((-1) : Int) : Rat)))] : List PR).length ((1 : Int) : Rat) ((2 : Int) : Rat))), (4, pt b45), (5, .int .i64 (checkE ([((⟨saNil, saNil⟩ : RA), (⟨false, ([] : List Nat), ([] : List Nat)⟩ : Raw)), ((⟨saNil, saNil⟩ : RA), (⟨false, ([] : List Nat), ([] : List Nat)⟩ : Raw)), ((⟨saNil, saNil⟩ : RA), (⟨false, ([] : List Nat), ([] : List Nat)⟩ : Raw)), (y39, (encQ ((5 : Int) : Rat)))] : List PR).length ((1 : Int) : Rat) (((1 : Int) : Rat) / ((4 : Int) : Rat)) 3))]) k_ ?_
              refine RD.done k_ ?_
              refine KN.meet (y39, b40, y41, y46, b45) [2, 3, 4, 5] [0, 1, 2, 3, 4, 5, 6, 7, 8, 9, 10, 11, 12, 13, 14] (l2 := [(2, pt b7), (3, .int .i64 (meanE ([(y1, (encQ ((1 : Int) : Rat))), (y3, (encQ (((-1) : Int) : Rat)))] : List PR).length ((1 : Int) : Rat) ((2 : Int) : Rat))), (4, pt b45), (5, .int .i64 (checkE ([((⟨saNil, saNil⟩ : RA), (⟨false, ([] : List Nat), ([] : List Nat)⟩ : Raw)), ((⟨saNil, saNil⟩ : RA), (⟨false, ([] : List Nat), ([] : List Nat)⟩ : Raw)), ((⟨saNil, saNil⟩ : RA), (⟨false, ([] : List Nat), ([] : List Nat)⟩ : Raw)), (y39, (encQ ((5 : Int) : Rat)))] : List PR).length ((1 : Int) : Rat) (((1 : Int) : Rat) / ((4 : Int) : Rat)) 3))]) (by exact h47) k_ (by rfl) (by rfl) (by rfl)
          · skip
            refine RDi.new (i := 11) (fun b => pt b) (.cells (ivC (⟨saNil, saNil⟩ : RA) (⟨false, ([] : List Nat), ([] : List Nat)⟩ : Raw) (⟨saNil, saNil⟩ : RA) (⟨false, ([] : List Nat), ([] : List Nat)⟩ : Raw)) 38 (0, 0)) k_ k_ k_ (fun w => by kernel_rfl) (fun b48 => ?_)
            refine RD.call (i := 6) (r03_Fraction 1 4 y_l19_awake y_l19_awake y_l19_awake y_l19_awake y_l19_awake) [] k_ k_ k_ k_ k_ rfl (fun y49 _ => ?_)
            refine RD.share 1 rfl rfl k_ ?_
            refine RD.also (fRat (⟨saNil, saNil⟩ : RA) (⟨false, ([] : List Nat), ([] : List Nat)⟩ : Raw)) (fun w h => ⟨fU_nil w, fU_nil w⟩) k_ ?_
            refine RD.also (allRat ([((⟨saNil, saNil⟩ : RA), (⟨false, ([] : List Nat), ([] : List Nat)⟩ : Raw)), ((⟨saNil, saNil⟩ : RA), (⟨false, ([] : List Nat), ([] : List Nat)⟩ : Raw)), ((⟨saNil, saNil⟩ : RA), (⟨false, ([] : List Nat), ([] : List Nat)⟩ : Raw)), (y39, (encQ ((5 : Int) : Rat)))] : List PR)) (fun w h => allRat_cons (h _ (.head _)) (allRat_cons (h _ (.head _)) (allRat_cons (h _ (.head _)) (allRat_cons (h _ (.tail _ ((.tail _ ((.tail _ ((.head _)))))))) (allRat_nil _))))) k_ ?_
            refine RD.also (fRats (⟨some ⟨b40, 0, none⟩, 4⟩ : SA) ([((⟨saNil, saNil⟩ : RA), (⟨false, ([] : List Nat), ([] : List Nat)⟩ : Raw)), ((⟨saNil, saNil⟩ : RA), (⟨false, ([] : List Nat), ([] : List Nat)⟩ : Raw)), ((⟨saNil, saNil⟩ : RA), (⟨false, ([] : List Nat), ([] : List Nat)⟩ : Raw)), (y39, (encQ ((5 : Int) : Rat)))] : List PR)) (fun w h => fRats_own (h _ (.tail _ ((.tail _ ((.head _)))))) (h _ (.head _)) x_ x_) k_ ?_
            refine RD.turn 21 (v := .slice (some ⟨b40, 0, none⟩) 4 4) (v' := sl (⟨some ⟨b40, 0, none⟩, 4⟩ : SA) ([((⟨saNil, saNil⟩ : RA), (⟨false, ([] : List Nat), ([] : List Nat)⟩ : Raw)), ((⟨saNil, saNil⟩ : RA), (⟨false, ([] : List Nat), ([] : List Nat)⟩ : Raw)), ((⟨saNil, saNil⟩ : RA), (⟨false, ([] : List Nat), ([] : List Nat)⟩ : Raw)), (y39, (encQ ((5 : Int) : Rat)))] : List PR).length) k_ (sl_eq x_) ?_
            refine RD.call (i := 7) (m19_Scale_c (⟨some ⟨b40, 0, none⟩, 4⟩ : SA) ([((⟨saNil, saNil⟩ : RA), (⟨false, ([] : List Nat), ([] : List Nat)⟩ : Raw)), ((⟨saNil, saNil⟩ : RA), (⟨false, ([] : List Nat), ([] : List Nat)⟩ : Raw)), ((⟨saNil, saNil⟩ : RA), (⟨false, ([] : List Nat), ([] : List Nat)⟩ : Raw)), (y39, (encQ ((5 : Int) : Rat)))] : List PR) y1 ((1 : Int) : Rat) y49 (((1 : Int) : Rat) / ((4 : Int) : Rat)) 3 y_l19_awake y_l19_awake y_l19_awake y_l19_awake y_l19_awake) [0, 12, 4] k_ k_ k_ k_ k_ rfl (fun y50 h51 => ?_)
            refine RD.bat k_ [(8, none), (9, none), (10, none)] [2, 3, 4, 25, 26] [] (L' := [10, 9, 8, 7, 6, 11, 4, 3, 5, 2, 1, 0]) (l' := [(2, pt b7), (3, .int .i64 (meanE ([(y1, (encQ ((1 : Int) : Rat))), (y3, (encQ (((-1) : Int) : Rat)))] : List PR).length ((1 : Int) : Rat) ((2 : Int) : Rat))), (4, pt b48), (25, .agg (ivC y50.1 (encQ y50.2.2.1) y50.2.1 (encQ y50.2.2.2))), (26, .int .i64 (checkE ([((⟨saNil, saNil⟩ : RA), (⟨false, ([] : List Nat), ([] : List Nat)⟩ : Raw)), ((⟨saNil, saNil⟩ : RA), (⟨false, ([] : List Nat), ([] : List Nat)⟩ : Raw)), ((⟨saNil, saNil⟩ : RA), (⟨false, ([] : List Nat), ([] : List Nat)⟩ : Raw)), (y39, (encQ ((5 : Int) : Rat)))] : List PR).length ((1 : Int) : Rat) (((1 : Int) : Rat) / ((4 : Int) : Rat)) 3))]) k_ ?_
            refine RD.last (i := 12) (some 0) [2, 3, 4, 26] [b48, b48, b48, b48, b48, b48] k_ k_ k_ (l' := [(2, pt b7), (3, .int .i64 (meanE ([(y1, (encQ ((1 : Int) : Rat))), (y3, (encQ (((-1) : Int) : Rat)))] : List PR).length ((1 : Int) : Rat) ((2 : Int) : Rat))), (4, pt b48), (26, .int .i64 (checkE ([((⟨saNil, saNil⟩ : RA), (⟨false, ([] : List Nat), ([] : List Nat)⟩ : Raw)), ((⟨saNil, saNil⟩ : RA), (⟨false, ([] : List Nat), ([] : List Nat)⟩ : Raw)), ((⟨saNil, saNil⟩ : RA), (⟨false, ([] : List Nat), ([] : List Nat)⟩ : Raw)), (y39, (encQ ((5 : Int) : Rat)))] : List PR).length ((1 : Int) : Rat) (((1 : Int) : Rat) / ((4 : Int) : Rat)) 3))]) (M' := [(b48, .cells (ivC y50.1 (encQ y50.2.2.1) y50.2.1 (encQ y50.2.2.2)) 38 (0, 0)), (b7, .cells (ratC y6 (encQ (meanV ([(y1, (encQ ((1 : Int) : Rat))), (y3, (encQ (((-1) : Int) : Rat)))] : List PR) ((1 : Int) : Rat) ((2 : Int) : Rat)))) 27 (0, 0)), (b2, .cells (ratC y1 (encQ ((1 : Int) : Rat))) 27 (0, 0))]) k_ ?_
            refine RD.bat k_ [(13, none)] [2, 3, 4, 5] [] (L' := [13, 12, 10, 9, 8, 7, 6, 11, 4, 3, 5, 2, 1, 0]) (l' := [(2, pt b7), (3, .int .i64 (meanE ([(y1, (encQ ((1 : Int) : Rat))), (y3, (encQ (((-1) : Int) : Rat)))] : List PR).length ((1 : Int) : Rat) ((2 : Int) : Rat))), (4, pt b48), (5, .int .i64 (checkE ([((⟨saNil, saNil⟩ : RA), (⟨false, ([] : List Nat), ([] : List Nat)⟩ : Raw)), ((⟨saNil, saNil⟩ : RA), (⟨false, ([] : List Nat), ([] : List Nat)⟩ : Raw)), ((⟨saNil, saNil⟩ : RA), (⟨false, ([] : List Nat), ([] : List Nat)⟩ : Raw)), (y39, (encQ ((5 : Int) : Rat)))] : List PR).length ((1 : Int) : Rat) (((1 : Int) : Rat) / ((4 : Int) : Rat)) 3))]) k_ ?_
            refine RD.done k_ ?_
            refine KN.meet (y39, b40, y49, y50, b48) [2, 3, 4, 5] [0, 1, 2, 3, 4, 5, 6, 7, 8, 9, 10, 11, 12, 13, 14] (l2 := [(2, pt b7), (3, .int .i64 (meanE ([(y1, (encQ ((1 : Int) : Rat))), (y3, (encQ (((-1) : Int) : Rat)))] : List PR).length ((1 : Int) : Rat) ((2 : Int) : Rat))), (4, pt b48), (5, .int .i64 (checkE ([((⟨saNil, saNil⟩ : RA), (⟨false, ([] : List Nat), ([] : List Nat)⟩ : Raw)), ((⟨saNil, saNil⟩ : RA), (⟨false, ([] : List Nat), ([] : List Nat)⟩ : Raw)), ((⟨saNil, saNil⟩ : RA), (⟨false, ([] : List Nat), ([] : List Nat)⟩ : Raw)), (y39, (encQ ((5 : Int) : Rat)))] : List PR).length ((1 : Int) : Rat) (((1 : Int) : Rat) / ((4 : Int) : Rat)) 3))]) (by exact h51) k_ (by rfl) (by rfl) (by rfl)
        · skip
          refine RDi.call (i := 6) (r03_Fraction 1 4 y_l19_awake y_l19_awake y_l19_awake y_l19_awake y_l19_awake) [] k_ k_ k_ k_ rfl (fun y52 _ => ?_)
          refine RD.forkL (is := [4, 11]) k_ rfl k_ ⟨?_, ?_, trivial⟩
          · skip
            refine RDi.new (i := 4) (fun b => .slice (some ⟨b, 0, none⟩) 4 4) (.cells (encR ([((⟨saNil, saNil⟩ : RA), (⟨false, ([] : List Nat), ([] : List Nat)⟩ : Raw)), ((⟨saNil, saNil⟩ : RA), (⟨false, ([] : List Nat), ([] : List Nat)⟩ : Raw)), ((⟨saNil, saNil⟩ : RA), (⟨false, ([] : List Nat), ([] : List Nat)⟩ : Raw)), (y39, (encQ ((5 : Int) : Rat)))] : List PR)) 27 (0, 0)) k_ k_ k_ (fun w => by kernel_rfl) (fun b53 => ?_)
            refine RD.share 0 rfl rfl k_ ?_
            refine RD.also (fRat (⟨saNil, saNil⟩ : RA) (⟨false, ([] : List Nat), ([] : List Nat)⟩ : Raw)) (fun w h => ⟨fU_nil w, fU_nil w⟩) k_ ?_
            refine RD.also (allRat ([((⟨saNil, saNil⟩ : RA), (⟨false, ([] : List Nat), ([] : List Nat)⟩ : Raw)), ((⟨saNil, saNil⟩ : RA), (⟨false, ([] : List Nat), ([] : List Nat)⟩ : Raw)), ((⟨saNil, saNil⟩ : RA), (⟨false, ([] : List Nat), ([] : List Nat)⟩ : Raw)), (y39, (encQ ((5 : Int) : Rat)))] : List PR)) (fun w h => allRat_cons (h _ (.head _)) (allRat_cons (h _ (.head _)) (allRat_cons (h _ (.head _)) (allRat_cons (h _ (.tail _ ((.tail _ ((.tail _ ((.head _)))))))) (allRat_nil _))))) k_ ?_
            refine RD.also (fRats (⟨some ⟨b53, 0, none⟩, 4⟩ : SA) ([((⟨saNil, saNil⟩ : RA), (⟨false, ([] : List Nat), ([] : List Nat)⟩ : Raw)), ((⟨saNil, saNil⟩ : RA), (⟨false, ([] : List Nat), ([] : List Nat)⟩ : Raw)), ((⟨saNil, saNil⟩ : RA), (⟨false, ([] : List Nat), ([] : List Nat)⟩ : Raw)), (y39, (encQ ((5 : Int) : Rat)))] : List PR)) (fun w h => fRats_own (h _ (.tail _ ((.tail _ ((.head _)))))) (h _ (.head _)) x_ x_) k_ ?_
            refine RD.turn 21 (v := .slice (some ⟨b53, 0, none⟩) 4 4) (v' := sl (⟨some ⟨b53, 0, none⟩, 4⟩ : SA) ([((⟨saNil, saNil⟩ : RA), (⟨false, ([] : List Nat), ([] : List Nat)⟩ : Raw)), ((⟨saNil, saNil⟩ : RA), (⟨false, ([] : List Nat), ([] : List Nat)⟩ : Raw)), ((⟨saNil, saNil⟩ : RA), (⟨false, ([] : List Nat), ([] : List Nat)⟩ : Raw)), (y39, (encQ ((5 : Int) : Rat)))] : List PR).length) k_ (sl_eq x_) ?_
            refine RD.forkL (is := [7, 11]) k_ rfl k_ ⟨?_, ?_, trivial⟩
            · skip
              refine RDi.call (i := 7) (m19_Scale_c (⟨some ⟨b53, 0, none⟩, 4⟩ : SA) ([((⟨saNil, saNil⟩ : RA), (⟨false, ([] : List Nat), ([] : List Nat)⟩ : Raw)), ((⟨saNil, saNil⟩ : RA), (⟨false, ([] : List Nat), ([] : List Nat)⟩ : Raw)), ((⟨saNil, saNil⟩ : RA), (⟨false, ([] : List Nat), ([] : List Nat)⟩ : Raw)), (y39, (encQ ((5 : Int) : Rat)))] : List PR) y1 ((1 : Int) : Rat) y52 (((1 : Int) : Rat) / ((4 : Int) : Rat)) 3 y_l19_awake y_l19_awake y_l19_awake y_l19_awake y_l19_awake) [0, 12, 4] k_ k_ k_ k_ rfl (fun y54 h55 => ?_)
              refine RD.bat k_ [(8, none), (9, none), (10, none)] [2, 3, 25, 26] [] (L' := [10, 9, 8, 7, 4, 6, 3, 5, 2, 1, 0]) (l' := [(2, pt b7), (3, .int .i64 (meanE ([(y1, (encQ ((1 : Int) : Rat))), (y3, (encQ (((-1) : Int) : Rat)))] : List PR).length ((1 : Int) : Rat) ((2 : Int) : Rat))), (25, .agg (ivC y54.1 (encQ y54.2.2.1) y54.2.1 (encQ y54.2.2.2))), (26, .int .i64 (checkE ([((⟨saNil, saNil⟩ : RA), (⟨false, ([] : List Nat), ([] : List Nat)⟩ : Raw)), ((⟨saNil, saNil⟩ : RA), (⟨false, ([] : List Nat), ([] : List Nat)⟩ : Raw)), ((⟨saNil, saNil⟩ : RA), (⟨false, ([] : List Nat), ([] : List Nat)⟩ : Raw)), (y39, (encQ ((5 : Int) : Rat)))] : List PR).length ((1 : Int) : Rat) (((1 : Int) : Rat) / ((4 : Int) : Rat)) 3))]) k_ ?_
              refine RD.new (i := 11) (fun b => pt b) (.cells (ivC (⟨saNil, saNil⟩ : RA) (⟨false, ([] : List Nat), ([] : List Nat)⟩ : Raw) (⟨saNil, saNil⟩ : RA) (⟨false, ([] : List Nat), ([] : List Nat)⟩ : Raw)) 38 (0, 0)) k_ k_ k_ k_ (fun w => by kernel_rfl) (fun b56 => ?_)
              refine RD.last (i := 12) (some 0) [2, 3, 4, 26] [b56, b56, b56, b56, b56, b56] k_ k_ k_ (l' := [(2, pt b7), (3, .int .i64 (meanE ([(y1, (encQ ((1 : Int) : Rat))), (y3, (encQ (((-1) : Int) : Rat)))] : List PR).length ((1 : Int) : Rat) ((2 : Int) : Rat))), (4, pt b56), (26, .int .i64 (checkE ([((⟨saNil, saNil⟩ : RA), (⟨false, ([] : List Nat), ([] : List Nat)⟩ : Raw)), ((⟨saNil, saNil⟩ : RA), (⟨false, ([] : List Nat), ([] : List Nat)⟩ : Raw)), ((⟨saNil, saNil⟩ : RA), (⟨false, ([] : List Nat), ([] : List Nat)⟩ : Raw)), (y39, (encQ ((5 : Int) : Rat)))] : List PR).length ((1 : Int) : Rat) (((1 : Int) : Rat) / ((4 : Int) : Rat)) 3))]) (M' := [(b56, .cells (ivC y54.1 (encQ y54.2.2.1) y54.2.1 (encQ y54.2.2.2)) 38 (0, 0)), (b7, .cells (ratC y6 (encQ (meanV ([(y1, (encQ ((1 : Int) : Rat))), (y3, (encQ (((-1) : Int) : Rat)))] : List PR) ((1 : Int) : Rat) ((2 : Int) : Rat)))) 27 (0, 0)), (b2, .cells (ratC y1 (encQ ((1 : Int) : Rat))) 27 (0, 0))]) k_ ?_
              refine RD.bat k_ [(13, none)] [2, 3, 4, 5] [] (L' := [13, 12, 11, 10, 9, 8, 7, 4, 6, 3, 5, 2, 1, 0]) (l' := [(2, pt b7), (3, .int .i64 (meanE ([(y1, (encQ ((1 : Int) : Rat))), (y3, (encQ (((-1) : Int) : Rat)))] : List PR).length ((1 : Int) : Rat) ((2 : Int) : Rat))), (4, pt b56), (5, .int .i64 (checkE ([((⟨saNil, saNil⟩ : RA), (⟨false, ([] : List Nat), ([] : List Nat)⟩ : Raw)), ((⟨saNil, saNil⟩ : RA), (⟨false, ([] : List Nat), ([] : List Nat)⟩ : Raw)), ((⟨saNil, saNil⟩ : RA), (⟨false, ([] : List Nat), ([] : List Nat)⟩ : Raw)), (y39, (encQ ((5 : Int) : Rat)))] : List PR).length ((1 : Int) : Rat) (((1 : Int) : Rat) / ((4 : Int) : Rat)) 3))]) k_ ?_
              refine RD.done k_ ?_
              refine KN.meet (y39, b53, y52, y54, b56) [2, 3, 4, 5] [0, 1, 2, 3, 4, 5, 6, 7, 8, 9, 10, 11, 12, 13, 14] (l2 := [(2, pt b7), (3, .int .i64 (meanE ([(y1, (encQ ((1 : Int) : Rat))), (y3, (encQ (((-1) : Int) : Rat)))] : List PR).length ((1 : Int) : Rat) ((2 : Int) : Rat))), (4, pt b56), (5, .int .i64 (checkE ([((⟨saNil, saNil⟩ : RA), (⟨false, ([] : List Nat), ([] : List Nat)⟩ : Raw)), ((⟨saNil, saNil⟩ : RA), (⟨false, ([] : List Nat), ([] : List Nat)⟩ : Raw)), ((⟨saNil, saNil⟩ : RA), (⟨false, ([] : List Nat), ([] : List Nat)⟩ : Raw)), (y39, (encQ ((5 : Int) : Rat)))] : List PR).length ((1 : Int) : Rat) (((1 : Int) : Rat) / ((4 : Int) : Rat)) 3))]) (by exact h55) k_ (by rfl) (by rfl) (by rfl)
            · skip
              refine RDi.new (i := 11) (fun b => pt b) (.cells (ivC (⟨saNil, saNil⟩ : RA) (⟨false, ([] : List Nat), ([] : List Nat)⟩ : Raw) (⟨saNil, saNil⟩ : RA) (⟨false, ([] : List Nat), ([] : List Nat)⟩ : Raw)) 38 (0, 0)) k_ k_ k_ (fun w => by kernel_rfl) (fun b57 => ?_)
              refine RD.call (i := 7) (m19_Scale_c (⟨some ⟨b53, 0, none⟩, 4⟩ : SA) ([((⟨saNil, saNil⟩ : RA), (⟨false, ([] : List Nat), ([] : List Nat)⟩ : Raw)), ((⟨saNil, saNil⟩ : RA), (⟨false, ([] : List Nat), ([] : List Nat)⟩ : Raw)), ((⟨saNil, saNil⟩ : RA), (⟨false, ([] : List Nat), ([] : List Nat)⟩ : Raw)), (y39, (encQ ((5 : Int) : Rat)))] : List PR) y1 ((1 : Int) : Rat) y52 (((1 : Int) : Rat) / ((4 : Int) : Rat)) 3 y_l19_awake y_l19_awake y_l19_awake y_l19_awake y_l19_awake) [0, 12, 4] k_ k_ k_ k_ k_ rfl (fun y58 h59 => ?_)
              refine RD.bat k_ [(8, none), (9, none), (10, none)] [2, 3, 4, 25, 26] [] (L' := [10, 9, 8, 7, 11, 4, 6, 3, 5, 2, 1, 0]) (l' := [(2, pt b7), (3, .int .i64 (meanE ([(y1, (encQ ((1 : Int) : Rat))), (y3, (encQ (((-1) : Int) : Rat)))] : List PR).length ((1 : Int) : Rat) ((2 : Int) : Rat))), (4, pt b57), (25, .agg (ivC y58.1 (encQ y58.2.2.1) y58.2.1 (encQ y58.2.2.2))), (26, .int .i64 (checkE ([((⟨saNil, saNil⟩ : RA), (⟨false, ([] : List Nat), ([] : List Nat)⟩ : Raw)), ((⟨saNil, saNil⟩ : RA), (⟨false, ([] : List Nat), ([] : List Nat)⟩ : Raw)), ((⟨saNil, saNil⟩ : RA), (⟨false, ([] : List Nat), ([] : List Nat)⟩ : Raw)), (y39, (encQ ((5 : Int) : Rat)))] : List PR).length ((1 : Int) : Rat) (((1 : Int) : Rat) / ((4 : Int) : Rat)) 3))]) k_ ?_
              refine RD.last (i := 12) (some 0) [2, 3, 4, 26] [b57, b57, b57, b57, b57, b57] k_ k_ k_ (l' := [(2, pt b7), (3, .int .i64 (meanE ([(y1, (encQ ((1 : Int) : Rat))), (y3, (encQ (((-1) : Int) : Rat)))] : List PR).length ((1 : Int) : Rat) ((2 : Int) : Rat))), (4, pt b57), (26, .int .i64 (checkE ([((⟨saNil, saNil⟩ : RA), (⟨false, ([] : List Nat), ([] : List Nat)⟩ : Raw)), ((⟨saNil, saNil⟩ : RA), (⟨false, ([] : List Nat), ([] : List Nat)⟩ : Raw)), ((⟨saNil, saNil⟩ : RA), (⟨false, ([] : List Nat), ([] : List Nat)⟩ : Raw)), (y39, (encQ ((5 : Int) : Rat)))] : List PR).length ((1 : Int) : Rat) (((1 : Int) : Rat) / ((4 : Int) : Rat)) 3))]) (M' := [(b57, .cells (ivC y58.1 (encQ y58.2.2.1) y58.2.1 (encQ y58.2.2.2)) 38 (0, 0)), (b7, .cells (ratC y6 (encQ (meanV ([(y1, (encQ ((1 : Int) : Rat))), (y3, (encQ (((-1) : Int) : Rat)))] : List PR) ((1 : Int) : Rat) ((2 : Int) : Rat)))) 27 (0, 0)), (b2, .cells (ratC y1 (encQ ((1 : Int) : Rat))) 27 (0, 0))]) k_ ?_
              refine RD.bat k_ [(13, none)] [2, 3, 4, 5] [] (L' := [13, 12, 10, 9, 8, 7, 11, 4, 6, 3, 5, 2, 1, 0]) (l' := [(2, pt b7), (3, .int .i64 (meanE ([(y1, (encQ ((1 : Int) : Rat))), (y3, (encQ (((-1) : Int) : Rat)))] : List PR).length ((1 : Int) : Rat) ((2 : Int) : Rat))), (4, pt b57), (5, .int .i64 (checkE ([((⟨saNil, saNil⟩ : RA), (⟨false, ([] : List Nat), ([] : List Nat)⟩ : Raw)), ((⟨saNil, saNil⟩ : RA), (⟨false, ([] : List Nat), ([] : List Nat)⟩ : Raw)), ((⟨saNil, saNil⟩ : RA), (⟨false, ([] : List Nat), ([] : List Nat)⟩ : Raw)), (y39, (encQ ((5 : Int) : Rat)))] : List PR).length ((1 : Int) : Rat) (((1 : Int) : Rat) / ((4 : Int) : Rat)) 3))]) k_ ?_
              refine RD.done k_ ?_
              refine KN.meet (y39, b53, y52, y58, b57) [2, 3, 4, 5] [0, 1, 2, 3, 4, 5, 6, 7, 8, 9, 10, 11, 12, 13, 14] (l2 := [(2, pt b7), (3, .int .i64 (meanE ([(y1, (encQ ((1 : Int) : Rat))), (y3, (encQ (((-1) : Int) : Rat)))] : List PR).length ((1 : Int) : Rat) ((2 : Int) : Rat))), (4, pt b57), (5, .int .i64 (checkE ([((⟨saNil, saNil⟩ : RA), (⟨false, ([] : List Nat), ([] : List Nat)⟩ : Raw)), ((⟨saNil, saNil⟩ : RA), (⟨false, ([] : List Nat), ([] : List Nat)⟩ : Raw)), ((⟨saNil, saNil⟩ : RA), (⟨false, ([] : List Nat), ([] : List Nat)⟩ : Raw)), (y39, (encQ ((5 : Int) : Rat)))] : List PR).length ((1 : Int) : Rat) (((1 : Int) : Rat) / ((4 : Int) : Rat)) 3))]) (by exact h59) k_ (by rfl) (by rfl) (by rfl)
          · skip
            refine RDi.new (i := 11) (fun b => pt b) (.cells (ivC (⟨saNil, saNil⟩ : RA) (⟨false, ([] : List Nat), ([] : List Nat)⟩ : Raw) (⟨saNil, saNil⟩ : RA) (⟨false, ([] : List Nat), ([] : List Nat)⟩ : Raw)) 38 (0, 0)) k_ k_ k_ (fun w => by kernel_rfl) (fun b60 => ?_)
            refine RD.new (i := 4) (fun b => .slice (some ⟨b, 0, none⟩) 4 4) (.cells (encR ([((⟨saNil, saNil⟩ : RA), (⟨false, ([] : List Nat), ([] : List Nat)⟩ : Raw)), ((⟨saNil, saNil⟩ : RA), (⟨false, ([] : List Nat), ([] : List Nat)⟩ : Raw)), ((⟨saNil, saNil⟩ : RA), (⟨false, ([] : List Nat), ([] : List Nat)⟩ : Raw)), (y39, (encQ ((5 : Int) : Rat)))] : List PR)) 27 (0, 0)) k_ k_ k_ k_ (fun w => by kernel_rfl) (fun b61 => ?_)
            refine RD.share 0 rfl rfl k_ ?_
            refine RD.also (fRat (⟨saNil, saNil⟩ : RA) (⟨false, ([] : List Nat), ([] : List Nat)⟩ : Raw)) (fun w h => ⟨fU_nil w, fU_nil w⟩) k_ ?_
            refine RD.also (allRat ([((⟨saNil, saNil⟩ : RA), (⟨false, ([] : List Nat), ([] : List Nat)⟩ : Raw)), ((⟨saNil, saNil⟩ : RA), (⟨false, ([] : List Nat), ([] : List Nat)⟩ : Raw)), ((⟨saNil, saNil⟩ : RA), (⟨false, ([] : List Nat), ([] : List Nat)⟩ : Raw)), (y39, (encQ ((5 : Int) : Rat)))] : List PR)) (fun w h => allRat_cons (h _ (.head _)) (allRat_cons (h _ (.head _)) (allRat_cons (h _ (.head _)) (allRat_cons (h _ (.tail _ ((.tail _ ((.tail _ ((.head _)))))))) (allRat_nil _))))) k_ ?_
            refine RD.also (fRats (⟨some ⟨b61, 0, none⟩, 4⟩ : SA) ([((⟨saNil, saNil⟩ : RA), (⟨false, ([] : List Nat), ([] : List Nat)⟩ : Raw)), ((⟨saNil, saNil⟩ : RA), (⟨false, ([] : List Nat), ([] : List Nat)⟩ : Raw)), ((⟨saNil, saNil⟩ : RA), (⟨false, ([] : List Nat), ([] : List Nat)⟩ : Raw)), (y39, (encQ ((5 : Int) : Rat)))] : List PR)) (fun w h => fRats_own (h _ (.tail _ ((.tail _ ((.head _)))))) (h _ (.head _)) x_ x_) k_ ?_
            refine RD.turn 21 (v := .slice (some ⟨b61, 0, none⟩) 4 4) (v' := sl (⟨some ⟨b61, 0, none⟩, 4⟩ : SA) ([((⟨saNil, saNil⟩ : RA), (⟨false, ([] : List Nat), ([] : List Nat)⟩ : Raw)), ((⟨saNil, saNil⟩ : RA), (⟨false, ([] : List Nat), ([] : List Nat)⟩ : Raw)), ((⟨saNil, saNil⟩ : RA), (⟨false, ([] : List Nat), ([] : List Nat)⟩ : Raw)), (y39, (encQ ((5 : Int) : Rat)))] : List PR).length) k_ (sl_eq x_) ?_
            refine RD.call (i := 7) (m19_Scale_c (⟨some ⟨b61, 0, none⟩, 4⟩ : SA) ([((⟨saNil, saNil⟩ : RA), (⟨false, ([] : List Nat), ([] : List Nat)⟩ : Raw)), ((⟨saNil, saNil⟩ : RA), (⟨false, ([] : List Nat), ([] : List Nat)⟩ : Raw)), ((⟨saNil, saNil⟩ : RA), (⟨false, ([] : List Nat), ([] : List Nat)⟩ : Raw)), (y39, (encQ ((5 : Int) : Rat)))] : List PR) y1 ((1 : Int) : Rat) y52 (((1 : Int) : Rat) / ((4 : Int) : Rat)) 3 y_l19_awake y_l19_awake y_l19_awake y_l19_awake y_l19_awake) [0, 12, 4] k_ k_ k_ k_ k_ rfl (fun y62 h63 => ?_)
            refine RD.bat k_ [(8, none), (9, none), (10, none)] [2, 3, 4, 25, 26] [] (L' := [10, 9, 8, 7, 4, 11, 6, 3, 5, 2, 1, 0]) (l' := [(2, pt b7), (3, .int .i64 (meanE ([(y1, (encQ ((1 : Int) : Rat))), (y3, (encQ (((-1) : Int) : Rat)))] : List PR).length ((1 : Int) : Rat) ((2 : Int) : Rat))), (4, pt b60), (25, .agg (ivC y62.1 (encQ y62.2.2.1) y62.2.1 (encQ y62.2.2.2))), (26, .int .i64 (checkE ([((⟨saNil, saNil⟩ : RA), (⟨false, ([] : List Nat), ([] : List Nat)⟩ : Raw)), ((⟨saNil, saNil⟩ : RA), (⟨false, ([] : List Nat), ([] : List Nat)⟩ : Raw)), ((⟨saNil, saNil⟩ : RA), (⟨false, ([] : List Nat), ([] : List Nat)⟩ : Raw)), (y39, (encQ ((5 : Int) : Rat)))] : List PR).length ((1 : Int) : Rat) (((1 : Int) : Rat) / ((4 : Int) : Rat)) 3))]) k_ ?_
            refine RD.last (i := 12) (some 0) [2, 3, 4, 26] [b60, b60, b60, b60, b60, b60] k_ k_ k_ (l' := [(2, pt b7), (3, .int .i64 (meanE ([(y1, (encQ ((1 : Int) : Rat))), (y3, (encQ (((-1) : Int) : Rat)))] : List PR).length ((1 : Int) : Rat) ((2 : Int) : Rat))), (4, pt b60), (26, .int .i64 (checkE ([((⟨saNil, saNil⟩ : RA), (⟨false, ([] : List Nat), ([] : List Nat)⟩ : Raw)), ((⟨saNil, saNil⟩ : RA), (⟨false, ([] : List Nat), ([] : List Nat)⟩ : Raw)), ((⟨saNil, saNil⟩ : RA), (⟨false, ([] : List Nat), ([] : List Nat)⟩ : Raw)), (y39, (encQ ((5 : Int) : Rat)))] : List PR).length ((1 : Int) : Rat) (((1 : Int) : Rat) / ((4 : Int) : Rat)) 3))]) (M' := [(b60, .cells (ivC y62.1 (encQ y62.2.2.1) y62.2.1 (encQ y62.2.2.2)) 38 (0, 0)), (b7, .cells (ratC y6 (encQ (meanV ([(y1, (encQ ((1 : Int) : Rat))), (y3, (encQ (((-1) : Int) : Rat)))] : List PR) ((1 : Int) : Rat) ((2 : Int) : Rat)))) 27 (0, 0)), (b2, .cells (ratC y1 (encQ ((1 : Int) : Rat))) 27 (0, 0))]) k_ ?_
            refine RD.bat k_ [(13, none)] [2, 3, 4, 5] [] (L' := [13, 12, 10, 9, 8, 7, 4, 11, 6, 3, 5, 2, 1, 0]) (l' := [(2, pt b7), (3, .int .i64 (meanE ([(y1, (encQ ((1 : Int) : Rat))), (y3, (encQ (((-1) : Int) : Rat)))] : List PR).length ((1 : Int) : Rat) ((2 : Int) : Rat))), (4, pt b60), (5, .int .i64 (checkE ([((⟨saNil, saNil⟩ : RA), (⟨false, ([] : List Nat), ([] : List Nat)⟩ : Raw)), ((⟨saNil, saNil⟩ : RA), (⟨false, ([] : List Nat), ([] : List Nat)⟩ : Raw)), ((⟨saNil, saNil⟩ : RA), (⟨false, ([] : List Nat), ([] : List Nat)⟩ : Raw)), (y39, (encQ ((5 : Int) : Rat)))] : List PR).length ((1 : Int) : Rat) (((1 : Int) : Rat) / ((4 : Int) : Rat)) 3))]) k_ ?_
            refine RD.done k_ ?_
            refine KN.meet (y39, b61, y52, y62, b60) [2, 3, 4, 5] [0, 1, 2, 3, 4, 5, 6, 7, 8, 9, 10, 11, 12, 13, 14] (l2 := [(2, pt b7), (3, .int .i64 (meanE ([(y1, (encQ ((1 : Int) : Rat))), (y3, (encQ (((-1) : Int) : Rat)))] : List PR).length ((1 : Int) : Rat) ((2 : Int) : Rat))), (4, pt b60), (5, .int .i64 (checkE ([((⟨saNil, saNil⟩ : RA), (⟨false, ([] : List Nat), ([] : List Nat)⟩ : Raw)), ((⟨saNil, saNil⟩ : RA), (⟨false, ([] : List Nat), ([] : List Nat)⟩ : Raw)), ((⟨saNil, saNil⟩ : RA), (⟨false, ([] : List Nat), ([] : List Nat)⟩ : Raw)), (y39, (encQ ((5 : Int) : Rat)))] : List PR).length ((1 : Int) : Rat) (((1 : Int) : Rat) / ((4 : Int) : Rat)) 3))]) (by exact h63) k_ (by rfl) (by rfl) (by rfl)
        · skip
          refine RDi.new (i := 11) (fun b => pt b) (.cells (ivC (⟨saNil, saNil⟩ : RA) (⟨false, ([] : List Nat), ([] : List Nat)⟩ : Raw) (⟨saNil, saNil⟩ : RA) (⟨false, ([] : List Nat), ([] : List Nat)⟩ : Raw)) 38 (0, 0)) k_ k_ k_ (fun w => by kernel_rfl) (fun b64 => ?_)
          refine RD.forkL (is := [4, 6]) k_ rfl k_ ⟨?_, ?_, trivial⟩
          · skip
            refine RDi.new (i := 4) (fun b => .slice (some ⟨b, 0, none⟩) 4 4) (.cells (encR ([((⟨saNil, saNil⟩ : RA), (⟨false, ([] : List Nat), ([] : List Nat)⟩ : Raw)), ((⟨saNil, saNil⟩ : RA), (⟨false, ([] : List Nat), ([] : List Nat)⟩ : Raw)), ((⟨saNil, saNil⟩ : RA), (⟨false, ([] : List Nat), ([] : List Nat)⟩ : Raw)), (y39, (encQ ((5 : Int) : Rat)))] : List PR)) 27 (0, 0)) k_ k_ k_ (fun w => by kernel_rfl) (fun b65 => ?_)
            refine RD.call (i := 6) (r03_Fraction 1 4 y_l19_awake y_l19_awake y_l19_awake y_l19_awake y_l19_awake) [] k_ k_ k_ k_ k_ rfl (fun y66 _ => ?_)
            refine RD.share 0 rfl rfl k_ ?_
            refine RD.also (fRat (⟨saNil, saNil⟩ : RA) (⟨false, ([] : List Nat), ([] : List Nat)⟩ : Raw)) (fun w h => ⟨fU_nil w, fU_nil w⟩) k_ ?_
            refine RD.also (allRat ([((⟨saNil, saNil⟩ : RA), (⟨false, ([] : List Nat), ([] : List Nat)⟩ : Raw)), ((⟨saNil, saNil⟩ : RA), (⟨false, ([] : List Nat), ([] : List Nat)⟩ : Raw)), ((⟨saNil, saNil⟩ : RA), (⟨false, ([] : List Nat), ([] : List Nat)⟩ : Raw)), (y39, (encQ ((5 : Int) : Rat)))] : List PR)) (fun w h => allRat_cons (h _ (.head _)) (allRat_cons (h _ (.head _)) (allRat_cons (h _ (.head _)) (allRat_cons (h _ (.tail _ ((.tail _ ((.tail _ ((.head _)))))))) (allRat_nil _))))) k_ ?_
            refine RD.also (fRats (⟨some ⟨b65, 0, none⟩, 4⟩ : SA) ([((⟨saNil, saNil⟩ : RA), (⟨false, ([] : List Nat), ([] : List Nat)⟩ : Raw)), ((⟨saNil, saNil⟩ : RA), (⟨false, ([] : List Nat), ([] : List Nat)⟩ : Raw)), ((⟨saNil, saNil⟩ : RA), (⟨false, ([] : List Nat), ([] : List Nat)⟩ : Raw)), (y39, (encQ ((5 : Int) : Rat)))] : List PR)) (fun w h => fRats_own (h _ (.tail _ ((.tail _ ((.head _)))))) (h _ (.head _)) x_ x_) k_ ?_
            refine RD.turn 21 (v := .slice (some ⟨b65, 0, none⟩) 4 4) (v' := sl (⟨some ⟨b65, 0, none⟩, 4⟩ : SA) ([((⟨saNil, saNil⟩ : RA), (⟨false, ([] : List Nat), ([] : List Nat)⟩ : Raw)), ((⟨saNil, saNil⟩ : RA), (⟨false, ([] : List Nat), ([] : List Nat)⟩ : Raw)), ((⟨saNil, saNil⟩ : RA), (⟨false, ([] : List Nat), ([] : List Nat)⟩ : Raw)), (y39, (encQ ((5 : Int) : Rat)))] : List PR).length) k_ (sl_eq x_) ?_
            refine RD.call (i := 7) (m19_Scale_c (⟨some ⟨b65, 0, none⟩, 4⟩ : SA) ([((⟨saNil, saNil⟩ : RA), (⟨false, ([] : List Nat), ([] : List Nat)⟩ : Raw)), ((⟨saNil, saNil⟩ : RA), (⟨false, ([] : List Nat), ([] : List Nat)⟩ : Raw)), ((⟨saNil, saNil⟩ : RA), (⟨false, ([] : List Nat), ([] : List Nat)⟩ : Raw)), (y39, (encQ ((5 : Int) : Rat)))] : List PR) y1 ((1 : Int) : Rat) y66 (((1 : Int) : Rat) / ((4 : Int) : Rat)) 3 y_l19_awake y_l19_awake y_l19_awake y_l19_awake y_l19_awake) [0, 12, 4] k_ k_ k_ k_ k_ rfl (fun y67 h68 => ?_)
            refine RD.bat k_ [(8, none), (9, none), (10, none)] [2, 3, 4, 25, 26] [] (L' := [10, 9, 8, 7, 6, 4, 11, 3, 5, 2, 1, 0]) (l' := [(2, pt b7), (3, .int .i64 (meanE ([(y1, (encQ ((1 : Int) : Rat))), (y3, (encQ (((-1) : Int) : Rat)))] : List PR).length ((1 : Int) : Rat) ((2 : Int) : Rat))), (4, pt b64), (25, .agg (ivC y67.1 (encQ y67.2.2.1) y67.2.1 (encQ y67.2.2.2))), (26, .int .i64 (checkE ([((⟨saNil, saNil⟩ : RA), (⟨false, ([] : List Nat), ([] : List Nat)⟩ : Raw)), ((⟨saNil, saNil⟩ : RA), (⟨false, ([] : List Nat), ([] : List Nat)⟩ : Raw)), ((⟨saNil, saNil⟩ : RA), (⟨false, ([] : List Nat), ([] : List Nat)⟩ : Raw)), (y39, (encQ ((5 : Int) : Rat)))] : List PR).length ((1 : Int) : Rat) (((1 : Int) : Rat) / ((4 : Int) : Rat)) 3))]) k_ ?_
            refine RD.last (i := 12) (some 0) [2, 3, 4, 26] [b64, b64, b64, b64, b64, b64] k_ k_ k_ (l' := [(2, pt b7), (3, .int .i64 (meanE ([(y1, (encQ ((1 : Int) : Rat))), (y3, (encQ (((-1) : Int) : Rat)))] : List PR).length ((1 : Int) : Rat) ((2 : Int) : Rat))), (4, pt b64), (26, .int .i64 (checkE ([((⟨saNil, saNil⟩ : RA), (⟨false, ([] : List Nat), ([] : List Nat)⟩ : Raw)), ((⟨saNil, saNil⟩ : RA), (⟨false, ([] : List Nat), ([] : List Nat)⟩ : Raw)), ((⟨saNil, saNil⟩ : RA), (⟨false, ([] : List Nat), ([] : List Nat)⟩ : Raw)), (y39, (encQ ((5 : Int) : Rat)))] : List PR).length ((1 : Int) : Rat) (((1 : Int) : Rat) / ((4 : Int) : Rat)) 3))]) (M' := [(b64, .cells (ivC y67.1 (encQ y67.2.2.1) y67.2.1 (encQ y67.2.2.2)) 38 (0, 0)), (b7, .cells (ratC y6 (encQ (meanV ([(y1, (encQ ((1 : Int) : Rat))), (y3, (encQ (((-1) : Int) : Rat)))] : List PR) ((1 : Int) : Rat) ((2 : Int) : Rat)))) 27 (0, 0)), (b2, .cells (ratC y1 (encQ ((1 : Int) : Rat))) 27 (0, 0))]) k_ ?_
            refine RD.bat k_ [(13, none)] [2, 3, 4, 5] [] (L' := [13, 12, 10, 9, 8, 7, 6, 4, 11, 3, 5, 2, 1, 0]) (l' := [(2, pt b7), (3, .int .i64 (meanE ([(y1, (encQ ((1 : Int) : Rat))), (y3, (encQ (((-1) : Int) : Rat)))] : List PR).length ((1 : Int) : Rat) ((2 : Int) : Rat))), (4, pt b64), (5, .int .i64 (checkE ([((⟨saNil, saNil⟩ : RA), (⟨false, ([] : List Nat), ([] : List Nat)⟩ : Raw)), ((⟨saNil, saNil⟩ : RA), (⟨false, ([] : List Nat), ([] : List Nat)⟩ : Raw)), ((⟨saNil, saNil⟩ : RA), (⟨false, ([] : List Nat), ([] : List Nat)⟩ : Raw)), (y39, (encQ ((5 : Int) : Rat)))] : List PR).length ((1 : Int) : Rat) (((1 : Int) : Rat) / ((4 : Int) : Rat)) 3))]) k_ ?_
            refine RD.done k_ ?_
            refine KN.meet (y39, b65, y66, y67, b64) [2, 3, 4, 5] [0, 1, 2, 3, 4, 5, 6, 7, 8, 9, 10, 11, 12, 13, 14] (l2 := [(2, pt b7), (3, .int .i64 (meanE ([(y1, (encQ ((1 : Int) : Rat))), (y3, (encQ (((-1) : Int) : Rat)))] : List PR).length ((1 : Int) : Rat) ((2 : Int) : Rat))), (4, pt b64), (5, .int .i64 (checkE ([((⟨saNil, saNil⟩ : RA), (⟨false, ([] : List Nat), ([] : List Nat)⟩ : Raw)), ((⟨saNil, saNil⟩ : RA), (⟨false, ([] : List Nat), ([] : List Nat)⟩ : Raw)), ((⟨saNil, saNil⟩ : RA), (⟨false, ([] : List Nat), ([] : List Nat)⟩ : Raw)), (y39, (encQ ((5 : Int) : Rat)))] : List PR).length ((1 : Int) : Rat) (((1 : Int) : Rat) / ((4 : Int) : Rat)) 3))]) (by exact h68) k_ (by rfl) (by rfl) (by rfl)
          · skip
            refine RDi.call (i := 6) (r03_Fraction 1 4 y_l19_awake y_l19_awake y_l19_awake y_l19_awake y_l19_awake) [] k_ k_ k_ k_ rfl (fun y69 _ => ?_)
            refine RD.new (i := 4) (fun b => .slice (some ⟨b, 0, none⟩) 4 4) (.cells (encR ([((⟨saNil, saNil⟩ : RA), (⟨false, ([] : List Nat), ([] : List Nat)⟩ : Raw)), ((⟨saNil, saNil⟩ : RA), (⟨false, ([] : List Nat), ([] : List Nat)⟩ : Raw)), ((⟨saNil, saNil⟩ : RA), (⟨false, ([] : List Nat), ([] : List Nat)⟩ : Raw)), (y39, (encQ ((5 : Int) : Rat)))] : List PR)) 27 (0, 0)) k_ k_ k_ k_ (fun w => by kernel_rfl) (fun b70 => ?_)
            refine RD.share 0 rfl rfl k_ ?_
            refine RD.also (fRat (⟨saNil, saNil⟩ : RA) (⟨false, ([] : List Nat), ([] : List Nat)⟩ : Raw)) (fun w h => ⟨fU_nil w, fU_nil w⟩) k_ ?_
            refine RD.also (allRat ([((⟨saNil, saNil⟩ : RA), (⟨false, ([] : List Nat), ([] : List Nat)⟩ : Raw)), ((⟨saNil, saNil⟩ : RA), (⟨false, ([] : List Nat), ([] : List Nat)⟩ : Raw)), ((⟨saNil, saNil⟩ : RA), (⟨false, ([] : List Nat), ([] : List Nat)⟩ : Raw)), (y39, (encQ ((5 : Int) : Rat)))] : List PR)) (fun w h => allRat_cons (h _ (.head _)) (allRat_cons (h _ (.head _)) (allRat_cons (h _ (.head _)) (allRat_cons (h _ (.tail _ ((.tail _ ((.tail _ ((.head _)))))))) (allRat_nil _))))) k_ ?_
            refine RD.also (fRats (⟨some ⟨b70, 0, none⟩, 4⟩ : SA) ([((⟨saNil, saNil⟩ : RA), (⟨false, ([] : List Nat), ([] : List Nat)⟩ : Raw)), ((⟨saNil, saNil⟩ : RA), (⟨false, ([] : List Nat), ([] : List Nat)⟩ : Raw)), ((⟨saNil, saNil⟩ : RA), (⟨false, ([] : List Nat), ([] : List Nat)⟩ : Raw)), (y39, (encQ ((5 : Int) : Rat)))] : List PR)) (fun w h => fRats_own (h _ (.tail _ ((.tail _ ((.head _)))))) (h _ (.head _)) x_ x_) k_ ?_
            refine RD.turn 21 (v := .slice (some ⟨b70, 0, none⟩) 4 4) (v' := sl (⟨some ⟨b70, 0, none⟩, 4⟩ : SA) ([((⟨saNil, saNil⟩ : RA), (⟨false, ([] : List Nat), ([] : List Nat)⟩ : Raw)), ((⟨saNil, saNil⟩ : RA), (⟨false, ([] : List Nat), ([] : List Nat)⟩ : Raw)), ((⟨saNil, saNil⟩ : RA), (⟨false, ([] : List Nat), ([] : List Nat)⟩ : Raw)), (y39, (encQ ((5 : Int) : Rat)))] : List PR).length) k_ (sl_eq x_) ?_
            refine RD.call (i := 7) (m19_Scale_c (⟨some ⟨b70, 0, none⟩, 4⟩ : SA) ([((⟨saNil, saNil⟩ : RA), (⟨false, ([] : List Nat), ([] : List Nat)⟩ : Raw)), ((⟨saNil, saNil⟩ : RA), (⟨false, ([] : List Nat), ([] : List Nat)⟩ : Raw)), ((⟨saNil, saNil⟩ : RA), (⟨false, ([] : List Nat), ([] : List Nat)⟩ : Raw)), (y39, (encQ ((5 : Int) : Rat)))] : List PR) y1 ((1 : Int) : Rat) y69 (((1 : Int) : Rat) / ((4 : Int) : Rat)) 3 y_l19_awake y_l19_awake y_l19_awake y_l19_awake y_l19_awake) [0, 12, 4] k_ k_ k_ k_ k_ rfl (fun y71 h72 => ?_)
            refine RD.bat k_ [(8, none), (9, none), (10, none)] [2, 3, 4, 25, 26] [] (L' := [10, 9, 8, 7, 4, 6, 11, 3, 5, 2, 1, 0]) (l' := [(2, pt b7), (3, .int .i64 (meanE ([(y1, (encQ ((1 : Int) : Rat))), (y3, (encQ (((-1) : Int) : Rat)))] : List PR).length ((1 : Int) : Rat) ((2 : Int) : Rat))), (4, pt b64), (25, .agg (ivC y71.1 (encQ y71.2.2.1) y71.2.1 (encQ y71.2.2.2))), (26, .int .i64 (checkE ([((⟨saNil, saNil⟩ : RA), (⟨false, ([] : List Nat), ([] : List Nat)⟩ : Raw)), ((⟨saNil, saNil⟩ : RA), (⟨false, ([] : List Nat), ([] : List Nat)⟩ : Raw)), ((⟨saNil, saNil⟩ : RA), (⟨false, ([] : List Nat), ([] : List Nat)⟩ : Raw)), (y39, (encQ ((5 : Int) : Rat)))] : List PR).length ((1 : Int) : Rat) (((1 : Int) : Rat) / ((4 : Int) : Rat)) 3))]) k_ ?_
            refine RD.last (i := 12) (some 0) [2, 3, 4, 26] [b64, b64, b64, b64, b64, b64] k_ k_ k_ (l' := [(2, pt b7), (3, .int .i64 (meanE ([(y1, (encQ ((1 : Int) : Rat))), (y3, (encQ (((-1) : Int) : Rat)))] : List PR).length ((1 : Int) : Rat) ((2 : Int) : Rat))), (4, pt b64), (26, .int .i64 (checkE ([((⟨saNil, saNil⟩ : RA), (⟨false, ([] : List Nat), ([] : List Nat)⟩ : Raw)), ((⟨saNil, saNil⟩ : RA), (⟨false, ([] : List Nat), ([] : List Nat)⟩ : Raw)), ((⟨saNil, saNil⟩ : RA), (⟨false, ([] : List Nat), ([] : List Nat)⟩ : Raw)), (y39, (encQ ((5 : Int) : Rat)))] : List PR).length ((1 : Int) : Rat) (((1 : Int) : Rat) / ((4 : Int) : Rat)) 3))]) (M' := [(b64, .cells (ivC y71.1 (encQ y71.2.2.1) y71.2.1 (encQ y71.2.2.2)) 38 (0, 0)), (b7, .cells (ratC y6 (encQ (meanV ([(y1, (encQ ((1 : Int) : Rat))), (y3, (encQ (((-1) : Int) : Rat)))] : List PR) ((1 : Int) : Rat) ((2 : Int) : Rat)))) 27 (0, 0)), (b2, .cells (ratC y1 (encQ ((1 : Int) : Rat))) 27 (0, 0))]) k_ ?_
            refine RD.bat k_ [(13, none)] [2, 3, 4, 5] [] (L' := [13, 12, 10, 9, 8, 7, 4, 6, 11, 3, 5, 2, 1, 0]) (l' := [(2, pt b7), (3, .int .i64 (meanE ([(y1, (encQ ((1 : Int) : Rat))), (y3, (encQ (((-1) : Int) : Rat)))] : List PR).length ((1 : Int) : Rat) ((2 : Int) : Rat))), (4, pt b64), (5, .int .i64 (checkE ([((⟨saNil, saNil⟩ : RA), (⟨false, ([] : List Nat), ([] : List Nat)⟩ : Raw)), ((⟨saNil, saNil⟩ : RA), (⟨false, ([] : List Nat), ([] : List Nat)⟩ : Raw)), ((⟨saNil, saNil⟩ : RA), (⟨false, ([] : List Nat), ([] : List Nat)⟩ : Raw)), (y39, (encQ ((5 : Int) : Rat)))] : List PR).length ((1 : Int) : Rat) (((1 : Int) : Rat) / ((4 : Int) : Rat)) 3))]) k_ ?_
            refine RD.done k_ ?_
            refine KN.meet (y39, b70, y69, y71, b64) [2, 3, 4, 5] [0, 1, 2, 3, 4, 5, 6, 7, 8, 9, 10, 11, 12, 13, 14] (l2 := [(2, pt b7), (3, .int .i64 (meanE ([(y1, (encQ ((1 : Int) : Rat))), (y3, (encQ (((-1) : Int) : Rat)))] : List PR).length ((1 : Int) : Rat) ((2 : Int) : Rat))), (4, pt b64), (5, .int .i64 (checkE ([((⟨saNil, saNil⟩ : RA), (⟨false, ([] : List Nat), ([] : List Nat)⟩ : Raw)), ((⟨saNil, saNil⟩ : RA), (⟨false, ([] : List Nat), ([] : List Nat)⟩ : Raw)), ((⟨saNil, saNil⟩ : RA), (⟨false, ([] : List Nat), ([] : List Nat)⟩ : Raw)), (y39, (encQ ((5 : Int) : Rat)))] : List PR).length ((1 : Int) : Rat) (((1 : Int) : Rat) / ((4 : Int) : Rat)) 3))]) (by exact h72) k_ (by rfl) (by rfl) (by rfl)
      · skip
        refine RDi.new (i := 11) (fun b => pt b) (.cells (ivC (⟨saNil, saNil⟩ : RA) (⟨false, ([] : List Nat), ([] : List Nat)⟩ : Raw) (⟨saNil, saNil⟩ : RA) (⟨false, ([] : List Nat), ([] : List Nat)⟩ : Raw)) 38 (0, 0)) k_ k_ k_ (fun w => by kernel_rfl) (fun b73 => ?_)
        refine RD.call (i := 3) (r03_FromInt 5 y_l19_awake y_l19_awake) [] k_ k_ k_ k_ k_ rfl (fun y74 _ => ?_)
        refine RD.forkL (is := [4, 6]) k_ rfl k_ ⟨?_, ?_, trivial⟩
        · skip
          refine RDi.new (i := 4) (fun b => .slice (some ⟨b, 0, none⟩) 4 4) (.cells (encR ([((⟨saNil, saNil⟩ : RA), (⟨false, ([] : List Nat), ([] : List Nat)⟩ : Raw)), ((⟨saNil, saNil⟩ : RA), (⟨false, ([] : List Nat), ([] : List Nat)⟩ : Raw)), ((⟨saNil, saNil⟩ : RA), (⟨false, ([] : List Nat), ([] : List Nat)⟩ : Raw)), (y74, (encQ ((5 : Int) : Rat)))] : List PR)) 27 (0, 0)) k_ k_ k_ (fun w => by kernel_rfl) (fun b75 => ?_)
          refine RD.call (i := 6) (r03_Fraction 1 4 y_l19_awake y_l19_awake y_l19_awake y_l19_awake y_l19_awake) [] k_ k_ k_ k_ k_ rfl (fun y76 _ => ?_)
          refine RD.share 0 rfl rfl k_ ?_
          refine RD.also (fRat (⟨saNil, saNil⟩ : RA) (⟨false, ([] : List Nat), ([] : List Nat)⟩ : Raw)) (fun w h => ⟨fU_nil w, fU_nil w⟩) k_ ?_
          refine RD.also (allRat ([((⟨saNil, saNil⟩ : RA), (⟨false, ([] : List Nat), ([] : List Nat)⟩ : Raw)), ((⟨saNil, saNil⟩ : RA), (⟨false, ([] : List Nat), ([] : List Nat)⟩ : Raw)), ((⟨saNil, saNil⟩ : RA), (⟨false, ([] : List Nat), ([] : List Nat)⟩ : Raw)), (y74, (encQ ((5 : Int) : Rat)))] : List PR)) (fun w h => allRat_cons (h _ (.head _)) (allRat_cons (h _ (.head _)) (allRat_cons (h _ (.head _)) (allRat_cons (h _ (.tail _ ((.tail _ ((.tail _ ((.head _)))))))) (allRat_nil _))))) k_ ?_
          refine RD.also (fRats (⟨some ⟨b75, 0, none⟩, 4⟩ : SA) ([((⟨saNil, saNil⟩ : RA), (⟨false, ([] : List Nat), ([] : List Nat)⟩ : Raw)), ((⟨saNil, saNil⟩ : RA), (⟨false, ([] : List Nat), ([] : List Nat)⟩ : Raw)), ((⟨saNil, saNil⟩ : RA), (⟨false, ([] : List Nat), ([] : List Nat)⟩ : Raw)), (y74, (encQ ((5 : Int) : Rat)))] : List PR)) (fun w h => fRats_own (h _ (.tail _ ((.tail _ ((.head _)))))) (h _ (.head _)) x_ x_) k_ ?_
          refine RD.turn 21 (v := .slice (some ⟨b75, 0, none⟩) 4 4) (v' := sl (⟨some ⟨b75, 0, none⟩, 4⟩ : SA) ([((⟨saNil, saNil⟩ : RA), (⟨false, ([] : List Nat), ([] : List Nat)⟩ : Raw)), ((⟨saNil, saNil⟩ : RA), (⟨false, ([] : List Nat), ([] : List Nat)⟩ : Raw)), ((⟨saNil, saNil⟩ : RA), (⟨false, ([] : List Nat), ([] : List Nat)⟩ : Raw)), (y74, (encQ ((5 : Int) : Rat)))] : List PR).length) k_ (sl_eq x_) ?_
          refine RD.call (i := 7) (m19_Scale_c (⟨some ⟨b75, 0, none⟩, 4⟩ : SA) ([((⟨saNil, saNil⟩ : RA), (⟨false, ([] : List Nat), ([] : List Nat)⟩ : Raw)), ((⟨saNil, saNil⟩ : RA), (⟨false, ([] : List Nat), ([] : List Nat)⟩ : Raw)), ((⟨saNil, saNil⟩ : RA), (⟨false, ([] : List Nat), ([] : List Nat)⟩ : Raw)), (y74, (encQ ((5 : Int) : Rat)))] : List PR) y1 ((1 : Int) : Rat) y76 (((1 : Int) : Rat) / ((4 : Int) : Rat)) 3 y_l19_awake y_l19_awake y_l19_awake y_l19_awake y_l19_awake) [0, 12, 4] k_ k_ k_ k_ k_ rfl (fun y77 h78 => ?_)
          refine RD.bat k_ [(8, none), (9, none), (10, none)] [2, 3, 4, 25, 26] [] (L' := [10, 9, 8, 7, 6, 4, 3, 11, 5, 2, 1, 0]) (l' := [(2, pt b7), (3, .int .i64 (meanE ([(y1, (encQ ((1 : Int) : Rat))), (y3, (encQ (((-1) : Int) : Rat)))] : List PR).length ((1 : Int) : Rat) ((2 : Int) : Rat))), (4, pt b73), (25, .agg (ivC y77.1 (encQ y77.2.2.1) y77.2.1 (encQ y77.2.2.2))), (26, .int .i64 (checkE ([((⟨saNil, saNil⟩ : RA), (⟨false, ([] : List Nat), ([] : List Nat)⟩ : Raw)), ((⟨saNil, saNil⟩ : RA), (⟨false, ([] : List Nat), ([] : List Nat)⟩ : Raw)), ((⟨saNil, saNil⟩ : RA), (⟨false, ([] : List Nat), ([] : List Nat)⟩ : Raw)), (y74, (encQ ((5 : Int) : Rat)))] : List PR).length ((1 : Int) : Rat) (((1 : Int) : Rat) / ((4 : Int) : Rat)) 3))]) k_ ?_
          refine RD.last (i := 12) (some 0) [2, 3, 4, 26] [b73, b73, b73, b73, b73, b73] k_ k_ k_ (l' := [(2, pt b7), (3, .int .i64 (meanE ([(y1, (encQ ((1 : Int) : Rat))), (y3, (encQ (((-1) : Int) : Rat)))] : List PR).length ((1 : Int) : Rat) ((2 : Int) : Rat))), (4, pt b73), (26, .int .i64 (checkE ([((⟨saNil, saNil⟩ : RA), (⟨false, ([] : List Nat), ([] : List Nat)⟩ : Raw)), ((⟨saNil, saNil⟩ : RA), (⟨false, ([] : List Nat), ([] : List Nat)⟩ : Raw)), ((⟨saNil, saNil⟩ : RA), (⟨false, ([] : List Nat), ([] : List Nat)⟩ : Raw)), (y74, (encQ ((5 : Int) : Rat)))] : List PR).length ((1 : Int) : Rat) (((1 : Int) : Rat) / ((4 : Int) : Rat)) 3))]) (M' := [(b73, .cells (ivC y77.1 (encQ y77.2.2.1) y77.2.1 (encQ y77.2.2.2)) 38 (0, 0)), (b7, .cells (ratC y6 (encQ (meanV ([(y1, (encQ ((1 : Int) : Rat))), (y3, (encQ (((-1) : Int) : Rat)))] : List PR) ((1 : Int) : Rat) ((2 : Int) : Rat)))) 27 (0, 0)), (b2, .cells (ratC y1 (encQ ((1 : Int) : Rat))) 27 (0, 0))]) k_ ?_
          refine RD.bat k_ [(13, none)] [2, 3, 4, 5] [] (L' := [13, 12, 10, 9, 8, 7, 6, 4, 3, 11, 5, 2, 1, 0]) (l' := [(2, pt b7), (3, .int .i64 (meanE ([(y1, (encQ ((1 : Int) : Rat))), (y3, (encQ (((-1) : Int) : Rat)))] : List PR).length ((1 : Int) : Rat) ((2 : Int) : Rat))), (4, pt b73), (5, .int .i64 (checkE ([((⟨saNil, saNil⟩ : RA), (⟨false, ([] : List Nat), ([] : List Nat)⟩ : Raw)), ((⟨saNil, saNil⟩ : RA), (⟨false, ([] : List Nat), ([] : List Nat)⟩ : Raw)), ((⟨saNil, saNil⟩ : RA), (⟨false, ([] : List Nat), ([] : List Nat)⟩ : Raw)), (y74, (encQ ((5 : Int) : Rat)))] : List PR).length ((1 : Int) : Rat) (((1 : Int) : Rat) / ((4 : Int) : Rat)) 3))]) k_ ?_
          refine RD.done k_ ?_
          refine KN.meet (y74, b75, y76, y77, b73) [2, 3, 4, 5] [0, 1, 2, 3, 4, 5, 6, 7, 8, 9, 10, 11, 12, 13, 14] (l2 := [(2, pt b7), (3, .int .i64 (meanE ([(y1, (encQ ((1 : Int) : Rat))), (y3, (encQ (((-1) : Int) : Rat)))] : List PR).length ((1 : Int) : Rat) ((2 : Int) : Rat))), (4, pt b73), (5, .int .i64 (checkE ([((⟨saNil, saNil⟩ : RA), (⟨false, ([] : List Nat), ([] : List Nat)⟩ : Raw)), ((⟨saNil, saNil⟩ : RA), (⟨false, ([] : List Nat), ([] : List Nat)⟩ : Raw)), ((⟨saNil, saNil⟩ : RA), (⟨false, ([] : List Nat), ([] : List Nat)⟩ : Raw)), (y74, (encQ ((5 : Int) : Rat)))] : List PR).length ((1 : Int) : Rat) (((1 : Int) : Rat) / ((4 : Int) : Rat)) 3))]) (by exact h78) k_ (by rfl) (by rfl) (by rfl)
        · skip
          refine RDi.call (i := 6) (r03_Fraction 1 4 y_l19_awake y_l19_awake y_l19_awake y_l19_awake y_l19_awake) [] k_ k_ k_ k_ rfl (fun y79 _ => ?_)
          refine RD.new (i := 4) (fun b => .slice (some ⟨b, 0, none⟩) 4 4) (.cells (encR ([((⟨saNil, saNil⟩ : RA), (⟨false, ([] : List Nat), ([] : List Nat)⟩ : Raw)), ((⟨saNil, saNil⟩ : RA), (⟨false, ([] : List Nat), ([] : List Nat)⟩ : Raw)), ((⟨saNil, saNil⟩ : RA), (⟨false, ([] : List Nat), ([] : List Nat)⟩ : Raw)), (y74, (encQ ((5 : Int) : Rat)))] : List PR)) 27 (0, 0)) k_ k_ k_ k_ (fun w => by kernel_rfl) (fun b80 => ?_)
          refine RD.share 0 rfl rfl k_ ?_
          refine RD.also (fRat (⟨saNil, saNil⟩ : RA) (⟨false, ([] : List Nat), ([] : List Nat)⟩ : Raw)) (fun w h => ⟨fU_nil w, fU_nil w⟩) k_ ?_
          refine RD.also (allRat ([((⟨saNil, saNil⟩ : RA), (⟨false, ([] : List Nat), ([] : List Nat)⟩ : Raw)), ((⟨saNil, saNil⟩ : RA), (⟨false, ([] : List Nat), ([] : List Nat)⟩ : Raw)), ((⟨saNil, saNil⟩ : RA), (⟨false, ([] : List Nat), ([] : List Nat)⟩ : Raw)), (y74, (encQ ((5 : Int) : Rat)))] : List PR)) (fun w h => allRat_cons (h _ (.head _)) (allRat_cons (h _ (.head _)) (allRat_cons (h _ (.head _)) (allRat_cons (h _ (.tail _ ((.tail _ ((.tail _ ((.head _)))))))) (allRat_nil _))))) k_ ?_
          refine RD.also (fRats (⟨some ⟨b80, 0, none⟩, 4⟩ : SA) ([((⟨saNil, saNil⟩ : RA), (⟨false, ([] : List Nat), ([] : List Nat)⟩ : Raw)), ((⟨saNil, saNil⟩ : RA), (⟨false, ([] : List Nat), ([] : List Nat)⟩ : Raw)), ((⟨saNil, saNil⟩ : RA), (⟨false, ([] : List Nat), ([] : List Nat)⟩ : Raw)), (y74, (encQ ((5 : Int) : Rat)))] : List PR)) (fun w h => fRats_own (h _ (.tail _ ((.tail _ ((.head _)))))) (h _ (.head _)) x_ x_) k_ ?_
          refine RD.turn 21 (v := .slice (some ⟨b80, 0, none⟩) 4 4) (v' := sl (⟨some ⟨b80, 0, none⟩, 4⟩ : SA) ([((⟨saNil, saNil⟩ : RA), (⟨false, ([] : List Nat), ([] : List Nat)⟩ : Raw)), ((⟨saNil, saNil⟩ : RA), (⟨false, ([] : List Nat), ([] : List Nat)⟩ : Raw)), ((⟨saNil, saNil⟩ : RA), (⟨false, ([] : List Nat), ([] : List Nat)⟩ : Raw)), (y74, (encQ ((5 : Int) : Rat)))] : List PR).length) k_ (sl_eq x_) ?_
          refine RD.call (i := 7) (m19_Scale_c (⟨some ⟨b80, 0, none⟩, 4⟩ : SA) ([((⟨saNil, saNil⟩ : RA), (⟨false, ([] : List Nat), ([] : List Nat)⟩ : Raw)), ((⟨saNil, saNil⟩ : RA), (⟨false, ([] : List Nat), ([] : List Nat)⟩ : Raw)), ((⟨saNil, saNil⟩ : RA), (⟨false, ([] : List Nat), ([] : List Nat)⟩ : Raw)), (y74, (encQ ((5 : Int) : Rat)))] : List PR) y1 ((1 : Int) : Rat) y79 (((1 : Int) : Rat) / ((4 : Int) : Rat)) 3 y_l19_awake y_l19_awake y_l19_awake y_l19_awake y_l19_awake) [0, 12, 4] k_ k_ k_ k_ k_ rfl (fun y81 h82 => ?_)
          refine RD.bat k_ [(8, none), (9, none), (10, none)] [2, 3, 4, 25, 26] [] (L' := [10, 9, 8, 7, 4, 6, 3, 11, 5, 2, 1, 0]) (l' := [(2, pt b7), (3, .int .i64 (meanE ([(y1, (encQ ((1 : Int) : Rat))), (y3, (encQ (((-1) : Int) : Rat)))] : List PR).length ((1 : Int) : Rat) ((2 : Int) : Rat))), (4, pt b73), (25, .agg (ivC y81.1 (encQ y81.2.2.1) y81.2.1 (encQ y81.2.2.2))), (26, .int .i64 (checkE ([((⟨saNil, saNil⟩ : RA), (⟨false, ([] : List Nat), ([] : List Nat)⟩ : Raw)), ((⟨saNil, saNil⟩ : RA), (⟨false, ([] : List Nat), ([] : List Nat)⟩ : Raw)), ((⟨saNil, saNil⟩ : RA), (⟨false, ([] : List Nat), ([] : List Nat)⟩ : Raw)), (y74, (encQ ((5 : Int) : Rat)))] : List PR).length ((1 : Int) : Rat) (((1 : Int) : Rat) / ((4 : Int) : Rat)) 3))]) k_ ?_
          refine RD.last (i := 12) (some 0) [2, 3, 4, 26] [b73, b73, b73, b73, b73, b73] k_ k_ k_ (l' := [(2, pt b7), (3, .int .i64 (meanE ([(y1, (encQ ((1 : Int) : Rat))), (y3, (encQ (((-1) : Int) : Rat)))] : List PR).length ((1 : Int) : Rat) ((2 : Int) : Rat))), (4, pt b73), (26, .int .i64 (checkE ([((⟨saNil, saNil⟩ : RA), (⟨false, ([] : List Nat), ([] : List Nat)⟩ : Raw)), ((⟨saNil, saNil⟩ : RA), (⟨false, ([] : List Nat), ([] : List Nat)⟩ : Raw)), ((⟨saNil, saNil⟩ : RA), (⟨false, ([] : List Nat), ([] : List Nat)⟩ : Raw)), (y74, (encQ ((5 : Int) : Rat)))] : List PR).length ((1 : Int) : Rat) (((1 : Int) : Rat) / ((4 : Int) : Rat)) 3))]) (M' := [(b73, .cells (ivC y81.1 (encQ y81.2.2.1) y81.2.1 (encQ y81.2.2.2)) 38 (0, 0)), (b7, .cells (ratC y6 (encQ (meanV ([(y1, (encQ ((1 : Int) : Rat))), (y3, (encQ (((-1) : Int) : Rat)))] : List PR) ((1 : Int) : Rat) ((2 : Int) : Rat)))) 27 (0, 0)), (b2, .cells (ratC y1 (encQ ((1 : Int) : Rat))) 27 (0, 0))]) k_ ?_
          refine RD.bat k_ [(13, none)] [2, 3, 4, 5] [] (L' := [13, 12, 10, 9, 8, 7, 4, 6, 3, 11, 5, 2, 1, 0]) (l' := [(2, pt b7), (3, .int .i64 (meanE ([(y1, (encQ ((1 : Int) : Rat))), (y3, (encQ (((-1) : Int) : Rat)))] : List PR).length ((1 : Int) : Rat) ((2 : Int) : Rat))), (4, pt b73), (5, .int .i64 (checkE ([((⟨saNil, saNil⟩ : RA), (⟨false, ([] : List Nat), ([] : List Nat)⟩ : Raw)), ((⟨saNil, saNil⟩ : RA), (⟨false, ([] : List Nat), ([] : List Nat)⟩ : Raw)), ((⟨saNil, saNil⟩ : RA), (⟨false, ([] : List Nat), ([] : List Nat)⟩ : Raw)), (y74, (encQ ((5 : Int) : Rat)))] : List PR).length ((1 : Int) : Rat) (((1 : Int) : Rat) / ((4 : Int) : Rat)) 3))]) k_ ?_
          refine RD.done k_ ?_
          refine KN.meet (y74, b80, y79, y81, b73) [2, 3, 4, 5] [0, 1, 2, 3, 4, 5, 6, 7, 8, 9, 10, 11, 12, 13, 14] (l2 := [(2, pt b7), (3, .int .i64 (meanE ([(y1, (encQ ((1 : Int) : Rat))), (y3, (encQ (((-1) : Int) : Rat)))] : List PR).length ((1 : Int) : Rat) ((2 : Int) : Rat))), (4, pt b73), (5, .int .i64 (checkE ([((⟨saNil, saNil⟩ : RA), (⟨false, ([] : List Nat), ([] : List Nat)⟩ : Raw)), ((⟨saNil, saNil⟩ : RA), (⟨false, ([] : List Nat), ([] : List Nat)⟩ : Raw)), ((⟨saNil, saNil⟩ : RA), (⟨false, ([] : List Nat), ([] : List Nat)⟩ : Raw)), (y74, (encQ ((5 : Int) : Rat)))] : List PR).length ((1 : Int) : Rat) (((1 : Int) : Rat) / ((4 : Int) : Rat)) 3))]) (by exact h82) k_ (by rfl) (by rfl) (by rfl)
    · skip
      intro x83 hx84
      obtain ⟨y39, b40, y41, y42, b44⟩ := x83
      replace hx84 : (ScaleR (vals ([((⟨saNil, saNil⟩ : RA), (⟨false, ([] : List Nat), ([] : List Nat)⟩ : Raw)), ((⟨saNil, saNil⟩ : RA), (⟨false, ([] : List Nat), ([] : List Nat)⟩ : Raw)), ((⟨saNil, saNil⟩ : RA), (⟨false, ([] : List Nat), ([] : List Nat)⟩ : Raw)), (y39, (encQ ((5 : Int) : Rat)))] : List PR)) ([((⟨saNil, saNil⟩ : RA), (⟨false, ([] : List Nat), ([] : List Nat)⟩ : Raw)), ((⟨saNil, saNil⟩ : RA), (⟨false, ([] : List Nat), ([] : List Nat)⟩ : Raw)), ((⟨saNil, saNil⟩ : RA), (⟨false, ([] : List Nat), ([] : List Nat)⟩ : Raw)), (y39, (encQ ((5 : Int) : Rat)))] : List PR).length ((1 : Int) : Rat) (((1 : Int) : Rat) / ((4 : Int) : Rat)) 3 y42.2.2.1 y42.2.2.2) := hx84
      have h43 := hx84
      refine J.seq ?_
      refine J.regD k_ [] ?_
      refine RD.bat k_ [(0, none), (1, none), (2, none)] [2, 4, 5, 29] [] (L' := [2, 1, 0]) (l' := [(2, pt b7), (4, pt b44), (5, .int .i64 (checkE ([((⟨saNil, saNil⟩ : RA), (⟨false, ([] : List Nat), ([] : List Nat)⟩ : Raw)), ((⟨saNil, saNil⟩ : RA), (⟨false, ([] : List Nat), ([] : List Nat)⟩ : Raw)), ((⟨saNil, saNil⟩ : RA), (⟨false, ([] : List Nat), ([] : List Nat)⟩ : Raw)), (y39, (encQ ((5 : Int) : Rat)))] : List PR).length ((1 : Int) : Rat) (((1 : Int) : Rat) / ((4 : Int) : Rat)) 3)), (29, .bool (((meanE ([(y1, (encQ ((1 : Int) : Rat))), (y3, (encQ (((-1) : Int) : Rat)))] : List PR).length ((1 : Int) : Rat) ((2 : Int) : Rat)) : Int) == 0))]) k_ ?_
      refine RD.split (t := 29) (((meanE ([(y1, (encQ ((1 : Int) : Rat))), (y3, (encQ (((-1) : Int) : Rat)))] : List PR).length ((1 : Int) : Rat) ((2 : Int) : Rat)) : Int) == 0) k_ (fun c85 => ?_) (fun c85 => ?_)
      · skip
        replace c85 := eq_of_beq c85
        refine RD.bat k_ [(3, none), (4, none), (5, none), (6, none)] [2, 4, 33] [] (L' := [6, 5, 4, 3, 2, 1, 0]) (l' := [(2, pt b7), (4, pt b44), (33, .bool (((checkE ([((⟨saNil, saNil⟩ : RA), (⟨false, ([] : List Nat), ([] : List Nat)⟩ : Raw)), ((⟨saNil, saNil⟩ : RA), (⟨false, ([] : List Nat), ([] : List Nat)⟩ : Raw)), ((⟨saNil, saNil⟩ : RA), (⟨false, ([] : List Nat), ([] : List Nat)⟩ : Raw)), (y39, (encQ ((5 : Int) : Rat)))] : List PR).length ((1 : Int) : Rat) (((1 : Int) : Rat) / ((4 : Int) : Rat)) 3) : Int) == 0))]) k_ ?_
        refine RD.split (t := 33) (((checkE ([((⟨saNil, saNil⟩ : RA), (⟨false, ([] : List Nat), ([] : List Nat)⟩ : Raw)), ((⟨saNil, saNil⟩ : RA), (⟨false, ([] : List Nat), ([] : List Nat)⟩ : Raw)), ((⟨saNil, saNil⟩ : RA), (⟨false, ([] : List Nat), ([] : List Nat)⟩ : Raw)), (y39, (encQ ((5 : Int) : Rat)))] : List PR).length ((1 : Int) : Rat) (((1 : Int) : Rat) / ((4 : Int) : Rat)) 3) : Int) == 0) k_ (fun c86 => ?_) (fun c86 => ?_)
        · skip
          replace c86 := eq_of_beq c86
          refine RD.bat k_ [(7, some 1)] [4, 33, 34] [b7, b7, b7] (L' := [7, 6, 5, 4, 3, 2, 1, 0]) (l' := [(4, pt b44), (33, .bool true), (34, ratV y6 (encQ (meanV ([(y1, (encQ ((1 : Int) : Rat))), (y3, (encQ (((-1) : Int) : Rat)))] : List PR) ((1 : Int) : Rat) ((2 : Int) : Rat))))]) k_ ?_
          refine RD.call (i := 8) (r03_Fraction 7 8 y_l19_awake y_l19_awake y_l19_awake y_l19_awake y_l19_awake) [] k_ k_ k_ k_ k_ rfl (fun y87 _ => ?_)
          refine RD.call (i := 9) (r03_Same y6 (encQ (meanV ([(y1, (encQ ((1 : Int) : Rat))), (y3, (encQ (((-1) : Int) : Rat)))] : List PR) ((1 : Int) : Rat) ((2 : Int) : Rat))) y87 (encQ (((7 : Int) : Rat) / ((8 : Int) : Rat)))) [9, 0] k_ k_ k_ k_ k_ rfl (fun y88 _ => ?_)
          refine RD.bat k_ [(10, none), (11, none)] [4, 38] [] (L' := [11, 10, 9, 8, 7, 6, 5, 4, 3, 2, 1, 0]) (l' := [(4, pt b44), (38, .bool (decide ((encQ (meanV ([(y1, (encQ ((1 : Int) : Rat))), (y3, (encQ (((-1) : Int) : Rat)))] : List PR) ((1 : Int) : Rat) ((2 : Int) : Rat))) = (encQ (((7 : Int) : Rat) / ((8 : Int) : Rat))))))]) k_ ?_
          refine RD.split (t := 38) (decide ((encQ (meanV ([(y1, (encQ ((1 : Int) : Rat))), (y3, (encQ (((-1) : Int) : Rat)))] : List PR) ((1 : Int) : Rat) ((2 : Int) : Rat))) = (encQ (((7 : Int) : Rat) / ((8 : Int) : Rat))))) k_ (fun c89 => ?_) (fun c89 => ?_)
          · skip
            replace c89 := of_decide_eq_true c89
            refine RD.bat k_ [(12, some 0), (13, none)] [38, 39, 40] [b44, b44, b44, b44, b44, b44] (L' := [13, 12, 11, 10, 9, 8, 7, 6, 5, 4, 3, 2, 1, 0]) (l' := [(38, .bool true), (39, .agg (ivC y42.1 (encQ y42.2.2.1) y42.2.1 (encQ y42.2.2.2))), (40, .agg (ivC (⟨saNil, saNil⟩ : RA) (⟨false, ([] : List Nat), ([] : List Nat)⟩ : Raw) (⟨saNil, saNil⟩ : RA) (⟨false, ([] : List Nat), ([] : List Nat)⟩ : Raw)))]) k_ ?_
            refine RD.call (i := 14) (r04_Same y42.1 (encQ y42.2.2.1) y42.2.1 (encQ y42.2.2.2) ⟨saNil, saNil⟩ ⟨false, ([] : List Nat), ([] : List Nat)⟩ ⟨saNil, saNil⟩ ⟨false, ([] : List Nat), ([] : List Nat)⟩) [1, 2, 5, 5] k_ k_ k_ k_ k_ rfl (fun y90 _ => ?_)
            refine RD.bat k_ [(15, none), (16, none)] [43] [] (L' := [16, 15, 14, 13, 12, 11, 10, 9, 8, 7, 6, 5, 4, 3, 2, 1, 0]) (l' := [(43, .bool (decide ((encQ y42.2.2.1) = (⟨false, ([] : List Nat), ([] : List Nat)⟩ : Raw)) && decide ((encQ y42.2.2.2) = (⟨false, ([] : List Nat), ([] : List Nat)⟩ : Raw))))]) k_ ?_
            refine RD.split (t := 43) ((decide ((encQ y42.2.2.1) = (⟨false, ([] : List Nat), ([] : List Nat)⟩ : Raw)) && decide ((encQ y42.2.2.2) = (⟨false, ([] : List Nat), ([] : List Nat)⟩ : Raw)))) k_ (fun c91 => ?_) (fun c91 => ?_)
            · skip
              refine RD.call (i := 17) (r03_Fraction 1 2 y_l19_awake y_l19_awake y_l19_awake y_l19_awake y_l19_awake) [] k_ k_ k_ k_ k_ rfl (fun y92 _ => ?_)
              refine RD.call (i := 18) (m19_Rho_c y92 (((1 : Int) : Rat) / ((2 : Int) : Rat)) y_l19_awake y_l19_awake) [0] k_ k_ k_ k_ k_ rfl (fun y93 _ => ?_)
              refine RD.call (i := 19) (r03_Fraction 7 8 y_l19_awake y_l19_awake y_l19_awake y_l19_awake y_l19_awake) [] k_ k_ k_ k_ k_ rfl (fun y94 _ => ?_)
              refine RD.call (i := 20) (r03_Same y93 (encQ (rhoQ (((1 : Int) : Rat) / ((2 : Int) : Rat)))) y94 (encQ (((7 : Int) : Rat) / ((8 : Int) : Rat)))) [1, 0] k_ k_ k_ k_ k_ rfl (fun y95 _ => ?_)
              refine RD.bat k_ [(21, none), (22, none)] [0] [] (L' := [22, 21, 20, 19, 18, 17, 16, 15, 14, 13, 12, 11, 10, 9, 8, 7, 6, 5, 4, 3, 2, 1, 0]) (l' := [(0, .bool (decide ((encQ (rhoQ (((1 : Int) : Rat) / ((2 : Int) : Rat)))) = (encQ (((7 : Int) : Rat) / ((8 : Int) : Rat))))))]) k_ ?_
              refine RD.done k_ ?_
              refine KN.next ?_
              have e_1 : true = (decide ((encQ (rhoQ (((1 : Int) : Rat) / ((2 : Int) : Rat)))) = (encQ (((7 : Int) : Rat) / ((8 : Int) : Rat))))) := by exact (decide_eq_true (congrArg encQ aw_r)).symm
              refine J.ret (KR.ret (v := .bool (decide ((encQ (rhoQ (((1 : Int) : Rat) / ((2 : Int) : Rat)))) = (encQ (((7 : Int) : Rat) / ((8 : Int) : Rat)))))) (()) [none] [] [] k_ v1_ (trivial) v1_)
            · skip
              exact absurd c91 (by obtain ⟨e1, e2⟩ := aw_i ‹ScaleR _ _ _ _ _ _ _› (aw_s _ _ _ _ _ rfl); simp [e1, e2])
          · skip
            replace c89 := of_decide_eq_false c89
            exact absurd c89 (by exact fun h => h (congrArg encQ (aw_m _ _)))
        · skip
          replace c86 := ne_of_beq_false c86
          exact absurd c86 (by exact fun h => h aw_c)
      · skip
        replace c85 := ne_of_beq_false c85
        exact absurd c85 (by exact fun h => h aw_e)
end Go.Proofs.YtegnonhgildhoaaGreat.E
namespace Go.Proofs.YtegnonhgildhoaaGreat.E
open Go Go.RowKit
set_option linter.unusedVariables false
set_option linter.unusedSimpArgs false
theorem small_RQ {r : Raw} (h : smallB r = true) (hl : Lb r.mag ∧ Lb r.den) : RQ 64 r := by
  unfold smallB at h
  simp only [Bool.and_eq_true, decide_eq_true_eq] at h
  exact RQ.lens hl.1 hl.2 (Nat.le_trans h.1 (by decide)) (Nat.le_trans h.2 (by decide)) (by decide)
theorem light_RQ {ps : List PR} (h : lightB ps = true) (hl : ∀ i, i < ps.length → Lb (ps.getD i pr0).2.mag ∧ Lb (ps.getD i pr0).2.den) : ∀ i, i < ps.length → RQ 64 (ps.getD i pr0).2 := fun i hi => by
  unfold lightB at h
  rw [decide_eq_true_eq] at h
  exact small_RQ (h.2 i hi) (hl i hi)
theorem not_f {b : Bool} (h : (!b) = false) : b = true := by simpa using h
end Go.Proofs.YtegnonhgildhoaaGreat.E
namespace Go.Proofs.YtegnonhgildhoaaGreat.E
open Go Go.RowKit
set_option linter.unusedVariables false
set_option linter.unusedSimpArgs false
theorem check_error (n : Nat) (c b : Rat) (bits : Int) : checkE n c b bits = errorE n c b (((1 : Int) : Rat)) bits := by
  unfold checkE errorE numbersB
  have h1 : (0 : Rat) < 1 := by decide +kernel
  simp [h1]
theorem bits_pow {bits : Int} (h : 0 ≤ bits) : P2 (-bits) = 1 / two bits.toNat := by
  unfold P2
  by_cases hb : bits = 0
  · subst hb; decide +kernel
  · rw [if_pos (by omega), show (-(-bits)).toNat = bits.toNat by omega]
theorem ScaleR.cases' {x : Nat → Rat} {n : Nat} {c b : Rat} {bits : Int} {lo hi : Rat} (h : ScaleR x n c b bits lo hi) (he : checkE n c b bits = 0) : (shareN x n ≤ b ∧ lo = 0 ∧ hi = 0) ∨ (b < shareN x n ∧ ScaleOk x n c b bits lo hi) := by
  unfold ScaleR at h
  by_cases hs : shareN x n ≤ b
  · rw [if_pos (.inr hs)] at h; exact .inl ⟨hs, h⟩
  · rw [if_neg (by simp [he, hs])] at h; exact .inr ⟨Rat.not_le.1 hs, h⟩
theorem narrow_zero (bits : Int) : narrowB bits 0 0 = true := by
  unfold narrowB; simp
theorem narrow_ok {bits : Int} {lo hi : Rat} (h0 : 0 ≤ bits) (hp : 0 < lo) (hlt : lo < hi) (hn : hi - lo ≤ P2 (-bits) * hi) : narrowB bits lo hi = true := by
  unfold narrowB
  rw [if_neg (by grind), if_neg (by grind)]
  rw [Bool.and_eq_true, decide_eq_true_eq, Bool.not_eq_true', decide_eq_false_iff_not]
  refine ⟨hp, Rat.not_lt.2 ?_⟩
  rw [bits_pow h0] at hn
  have ht := two_pos bits.toNat
  have := Rat.mul_le_mul_of_nonneg_right hn (Rat.le_of_lt ht)
  have e : 1 / two bits.toNat * hi * two bits.toNat = hi := by grind
  rw [e] at this
  exact this
theorem least_zero {x : Nat → Rat} {n : Nat} {c b : Rat} : atLeastB x n c b 0 = true := by unfold atLeastB; simp
theorem least_ok {x : Nat → Rat} {n : Nat} {c b v : Rat} (hs : b < shareN x n) (h : b ≤ meanN x n c v) : atLeastB x n c b v = true := by
  unfold atLeastB nullB
  split
  · rfl
  · simp [Rat.not_le.2 hs, Rat.not_lt.2 h]
theorem most_zero {x : Nat → Rat} {n : Nat} {c b : Rat} (hs : shareN x n ≤ b) : atMostB x n c b 0 = true := by unfold atMostB nullB; simp [hs]
theorem most_ok {x : Nat → Rat} {n : Nat} {c b v : Rat} (hs : b < shareN x n) (hv : 0 < v) (h : meanN x n c v ≤ b) : atMostB x n c b v = true := by
  unfold atMostB nullB; simp [Rat.not_le.2 hs, hv, Rat.not_lt.2 h]
theorem holds_ok {x : Nat → Rat} {n : Nat} {c b : Rat} {bits : Int} {lo hi : Rat} (h : ScaleR x n c b bits lo hi) (he : checkE n c b bits = 0) : holdsB x n c b bits lo hi = true := by
  unfold holdsB
  rcases h.cases' he with ⟨hs, rfl, rfl⟩ | ⟨hs, h⟩
  · rw [narrow_zero, least_zero, most_zero hs]; rfl
  · rw [narrow_ok (checkE_0 he).2.2.2.2.2.1 h.pos h.lt h.narrow, least_ok hs (Rat.le_of_lt h.above), most_ok hs (rlt_trans h.pos h.lt) h.below]; rfl
theorem enc_zero2 {lo hi : Rat} (h : lo = 0 ∧ hi = 0) : encQ lo = ⟨false, [], []⟩ ∧ encQ hi = ⟨false, [], []⟩ := by rw [h.1, h.2, encQ_zero]; exact ⟨rfl, rfl⟩
theorem ScaleR.err {x : Nat → Rat} {n : Nat} {c b : Rat} {bits : Int} {lo hi : Rat} (h : ScaleR x n c b bits lo hi) (he : checkE n c b bits ≠ 0) : lo = 0 ∧ hi = 0 := by
  unfold ScaleR at h; rw [if_pos (.inl he)] at h; exact h
theorem y_l19_Encloses {p : Prop} (h : p := by first | assumption | exact Lb_toL _ | omega | (simp; done) | first | exact Q.le ‹_› (by decide) | exact RQ_enc (Q.le (Q_int (by decide)) (by decide)) | exact Q.le (Q_int (by decide)) (by decide) | exact Q.le hq.1 (by decide) | exact Q.le hq.2 (by decide) | exact (checkE_0 hchk).2.1 | exact (checkE_0 hchk).1 | exact (checkE_0 hchk).2.2.1 | (have h7 := (checkE_0 hchk).2.2.2.2.2; omega)) : p := h
theorem l19_Encloses (s : SA) (ps : List PR) (p : RA) (c : Raw) (u : RA) (b : Raw) (bits : Int) (hL : ∀ i, i < ps.length → Lb (ps.getD i pr0).2.mag ∧ Lb (ps.getD i pr0).2.den) (hLc : Lb c.mag ∧ Lb c.den) (hLb : Lb b.mag ∧ Lb b.den) (ht1 : -9223372036854775808 ≤ bits) (ht2 : bits < 9223372036854775808) : Spec Tryz.prog 4 #[sl s ps.length, ratV p c, ratV u b, .int .i64 bits] [fRats s ps, fRat p c, fRat u b] (ι := Unit) (fun y => .bool true) (fun y => True) (fun y => []) := by
  refine Spec.of_body _ (fn := Tryz.f4) k_ rfl k_ (fun X w0 => ?_)
  refine J.fact (φ := ps.length ≤ 140737488355328) (fun w h => by have := (h _ (.head _)).1; omega) (fun hl1 => ?_)
  refine J.fact (φ := c.mag.length ≤ 140737488355328 ∧ c.den.length ≤ 140737488355328) (fun w h => by have h1 := (h _ (.tail _ ((.head _)))).1.1; have h2 := (h _ (.tail _ ((.head _)))).2.1; omega) (fun hl2 => ?_)
  refine J.fact (φ := b.mag.length ≤ 140737488355328 ∧ b.den.length ≤ 140737488355328) (fun w h => by have h1 := (h _ (.tail _ ((.tail _ ((.head _)))))).1.1; have h2 := (h _ (.tail _ ((.tail _ ((.head _)))))).2.1; omega) (fun hl3 => ?_)
  refine J.sreg ?_
  refine RN.new (fun b => pt b) (.cells (ratC p c) 27 (0, 0)) k_ k_ (fun w => by kernel_rfl) (fun b4 => ?_)
  refine RN.new (fun b => pt b) (.cells (ratC u b) 27 (0, 0)) k_ k_ (fun w => by kernel_rfl) (fun b5 => ?_)
  refine RN.bq (no 1) [0, 3, 5, 6] [] (k' := 3) (l' := [(0, sl s ps.length), (3, .int .i64 bits), (5, pt b4), (6, pt b5)]) k_ ?_
  refine RN.fin k_ ?_
  refine J.seq ?_
  refine J.sreg ?_
  refine RN.bq (no 1) [0, 3, 5, 6, 12] [] (k' := 1) (l' := [(0, sl s ps.length), (3, .int .i64 bits), (5, pt b4), (6, pt b5), (12, sl s ps.length)]) k_ ?_
  refine RN.call (l19_light s ps) [0] k_ k_ k_ rfl (fun y6 _ => ?_)
  refine RN.bq (no 2) [0, 3, 5, 6, 15] [] (k' := 4) (l' := [(0, sl s ps.length), (3, .int .i64 bits), (5, pt b4), (6, pt b5), (15, .bool (!(lightB ps)))]) k_ ?_
  refine RN.split 15 (!(lightB ps)) k_ (fun c7 => ?_) (fun c7 => ?_)
  · skip
    refine RN.bq (no 17) [0, 3, 5, 6, 32] [] (k' := 21) (l' := [(0, sl s ps.length), (3, .int .i64 bits), (5, pt b4), (6, pt b5), (32, .bool true)]) k_ ?_
    refine RN.fin k_ ?_
    refine J.condT k_ ?_
    refine J.sreg ?_
    refine RN.call (l19_awake) [] k_ k_ k_ rfl (fun y8 _ => ?_)
    refine RN.bq (no 1) [8] [] (k' := 2) (l' := [(8, .bool true)]) k_ ?_
    refine RN.fin k_ ?_
    refine J.ret (KR.next (KR.ret (v := .bool true) (()) [none] [] [] k_ rfl (trivial) rfl))
  · skip
    have hps6 := light_RQ (not_f c7) hL
    refine RN.bq [some 1] [0, 3, 5, 6, 15, 16] [b4, b4, b4] (k' := 5) (l' := [(0, sl s ps.length), (3, .int .i64 bits), (5, pt b4), (6, pt b5), (15, .bool false), (16, ratV p c)]) k_ ?_
    refine RN.call (l19_small p c) [1] k_ k_ k_ rfl (fun y9 _ => ?_)
    refine RN.bq (no 3) [0, 3, 5, 6, 20] [] (k' := 9) (l' := [(0, sl s ps.length), (3, .int .i64 bits), (5, pt b4), (6, pt b5), (20, .bool (!(smallB c)))]) k_ ?_
    refine RN.split 20 (!(smallB c)) k_ (fun c10 => ?_) (fun c10 => ?_)
    · skip
      refine RN.bq (no 12) [0, 3, 5, 6, 32] [] (k' := 21) (l' := [(0, sl s ps.length), (3, .int .i64 bits), (5, pt b4), (6, pt b5), (32, .bool true)]) k_ ?_
      refine RN.fin k_ ?_
      refine J.condT k_ ?_
      refine J.sreg ?_
      refine RN.call (l19_awake) [] k_ k_ k_ rfl (fun y11 _ => ?_)
      refine RN.bq (no 1) [8] [] (k' := 2) (l' := [(8, .bool true)]) k_ ?_
      refine RN.fin k_ ?_
      refine J.ret (KR.next (KR.ret (v := .bool true) (()) [none] [] [] k_ rfl (trivial) rfl))
    · skip
      have hc6 := small_RQ (not_f c10) hLc
      refine RN.bq [some 0] [0, 3, 5, 6, 20, 21] [b5, b5, b5] (k' := 10) (l' := [(0, sl s ps.length), (3, .int .i64 bits), (5, pt b4), (6, pt b5), (20, .bool false), (21, ratV u b)]) k_ ?_
      refine RN.call (l19_small u b) [2] k_ k_ k_ rfl (fun y12 _ => ?_)
      refine RN.bq (no 3) [0, 3, 5, 6, 25] [] (k' := 14) (l' := [(0, sl s ps.length), (3, .int .i64 bits), (5, pt b4), (6, pt b5), (25, .bool (!(smallB b)))]) k_ ?_
      refine RN.split 25 (!(smallB b)) k_ (fun c13 => ?_) (fun c13 => ?_)
      · skip
        refine RN.bq (no 7) [0, 3, 5, 6, 32] [] (k' := 21) (l' := [(0, sl s ps.length), (3, .int .i64 bits), (5, pt b4), (6, pt b5), (32, .bool true)]) k_ ?_
        refine RN.fin k_ ?_
        refine J.condT k_ ?_
        refine J.sreg ?_
        refine RN.call (l19_awake) [] k_ k_ k_ rfl (fun y14 _ => ?_)
        refine RN.bq (no 1) [8] [] (k' := 2) (l' := [(8, .bool true)]) k_ ?_
        refine RN.fin k_ ?_
        refine J.ret (KR.next (KR.ret (v := .bool true) (()) [none] [] [] k_ rfl (trivial) rfl))
      · skip
        have hb6 := small_RQ (not_f c13) hLb
        have hcR := hc6.le (by decide : 64 ≤ 268435456)
        have hbR := hb6.le (by decide : 64 ≤ 268435456)
        have hcQ := hc6.2.2.2.2
        have hbQ := hb6.2.2.2.2
        refine RN.bq (no 3) [0, 3, 5, 6, 25, 28] [] (k' := 17) (l' := [(0, sl s ps.length), (3, .int .i64 bits), (5, pt b4), (6, pt b5), (25, .bool false), (28, .bool (decide (bits > 30)))]) k_ ?_
        refine RN.split 28 (decide (bits > 30)) k_ (fun c15 => ?_) (fun c15 => ?_)
        · skip
          replace c15 := of_decide_eq_true c15
          refine RN.bq (no 4) [0, 3, 5, 6, 32] [] (k' := 21) (l' := [(0, sl s ps.length), (3, .int .i64 bits), (5, pt b4), (6, pt b5), (32, .bool (decide (bits ≤ 128)))]) k_ ?_
          refine RN.fin k_ ?_
          refine J.cond (decide (bits ≤ 128)) k_ (fun c16 => ?_) (fun c16 => ?_)
          · skip
            replace c16 := of_decide_eq_true c16
            refine J.sreg ?_
            refine RN.call (l19_awake) [] k_ k_ k_ rfl (fun y17 _ => ?_)
            refine RN.bq (no 1) [8] [] (k' := 2) (l' := [(8, .bool true)]) k_ ?_
            refine RN.fin k_ ?_
            refine J.ret (KR.next (KR.ret (v := .bool true) (()) [none] [] [] k_ rfl (trivial) rfl))
          · skip
            replace c16 := of_decide_eq_false c16
            refine J.skip ?_
            refine KN.next ?_
            refine J.sreg ?_
            refine RN.bq [none, some 1, some 0, none] [0, 3, 5, 6, 35, 36, 37, 38] [b5, b5, b5, b4, b4, b4] (k' := 4) (l' := [(0, sl s ps.length), (3, .int .i64 bits), (5, pt b4), (6, pt b5), (35, sl s ps.length), (36, ratV p c), (37, ratV u b), (38, .int .i64 bits)]) k_ ?_
            refine RN.call (m19_Scale s ps p c u b bits y_l19_Encloses y_l19_Encloses y_l19_Encloses y_l19_Encloses y_l19_Encloses) [0, 1, 2] k_ k_ k_ rfl (fun y18 h19 => ?_)
            have hsc := h19
            have hq := hsc.Q
            refine RN.bq (no 3) [0, 3, 5, 6, 40, 41] [] (k' := 8) (l' := [(0, sl s ps.length), (3, .int .i64 bits), (5, pt b4), (6, pt b5), (40, .agg (ivC y18.1 (encQ y18.2.2.1) y18.2.1 (encQ y18.2.2.2))), (41, .int .i64 (checkE ps.length (qv c) (qv b) bits))]) k_ ?_
            refine RN.new (fun b => pt b) (.cells (ivC (⟨saNil, saNil⟩ : RA) (⟨false, ([] : List Nat), ([] : List Nat)⟩ : Raw) (⟨saNil, saNil⟩ : RA) (⟨false, ([] : List Nat), ([] : List Nat)⟩ : Raw)) 38 (0, 0)) k_ k_ (fun w => by kernel_rfl) (fun b20 => ?_)
            refine RN.bat [some 0, none] [0, 3, 5, 6, 9, 10] [b20, b20, b20, b20, b20, b20] (k' := 11) (l' := [(0, sl s ps.length), (3, .int .i64 bits), (5, pt b4), (6, pt b5), (9, pt b20), (10, .int .i64 (checkE ps.length (qv c) (qv b) bits))]) (M' := [(b20, .cells (ivC y18.1 (encQ y18.2.2.1) y18.2.1 (encQ y18.2.2.2)) 38 (0, 0)), (b5, .cells (ratC u b) 27 (0, 0)), (b4, .cells (ratC p c) 27 (0, 0))]) k_ ?_
            refine RN.fin k_ ?_
            refine J.seq ?_
            refine J.seq ?_
            refine J.regD k_ [] ?_
            refine RD.bat k_ [(0, none), (1, some 2), (2, some 1), (4, none)] [0, 3, 5, 6, 9, 10, 42, 43, 44, 46] [b5, b5, b5, b4, b4, b4] (L' := [4, 2, 1, 0]) (l' := [(0, sl s ps.length), (3, .int .i64 bits), (5, pt b4), (6, pt b5), (9, pt b20), (10, .int .i64 (checkE ps.length (qv c) (qv b) bits)), (42, sl s ps.length), (43, ratV p c), (44, ratV u b), (46, .int .i64 bits)]) k_ ?_
            refine RD.call (i := 3) (r03_FromInt 1 y_l19_Encloses y_l19_Encloses) [] k_ k_ k_ k_ k_ rfl (fun y21 _ => ?_)
            refine RD.call (i := 5) (r19_Error_d s ps p c u b y21 ((1 : Int) : Rat) bits y_l19_Encloses y_l19_Encloses y_l19_Encloses y_l19_Encloses) [3, 4, 5, 0] k_ k_ k_ k_ k_ rfl (fun y22 _ => ?_)
            refine RD.bat k_ [(6, none)] [0, 3, 5, 6, 9, 10, 11] [] (L' := [6, 5, 3, 4, 2, 1, 0]) (l' := [(0, sl s ps.length), (3, .int .i64 bits), (5, pt b4), (6, pt b5), (9, pt b20), (10, .int .i64 (checkE ps.length (qv c) (qv b) bits)), (11, .int .i64 (errorE ps.length (qv c) (qv b) ((1 : Int) : Rat) bits))]) k_ ?_
            refine RD.done k_ ?_
            refine KN.next ?_
            refine J.sreg ?_
            refine RN.bq (no 2) [0, 3, 5, 6, 9, 10, 11, 49] [] (k' := 2) (l' := [(0, sl s ps.length), (3, .int .i64 bits), (5, pt b4), (6, pt b5), (9, pt b20), (10, .int .i64 (checkE ps.length (qv c) (qv b) bits)), (11, .int .i64 (errorE ps.length (qv c) (qv b) ((1 : Int) : Rat) bits)), (49, .bool (((errorE ps.length (qv c) (qv b) ((1 : Int) : Rat) bits) : Int) != 0))]) k_ ?_
            refine RN.fin k_ ?_
            refine J.cond (((errorE ps.length (qv c) (qv b) ((1 : Int) : Rat) bits) : Int) != 0) k_ (fun c23 => ?_) (fun c23 => ?_)
            · skip
              replace c23 := bne_iff_ne.1 c23
              have herr := c23
              refine J.sreg ?_
              refine RN.call (l19_awake) [] k_ k_ k_ rfl (fun y24 _ => ?_)
              refine RN.bq (no 6) [9, 56] [] (k' := 7) (l' := [(9, pt b20), (56, .bool (((checkE ps.length (qv c) (qv b) bits) : Int) == (errorE ps.length (qv c) (qv b) ((1 : Int) : Rat) bits)))]) k_ ?_
              refine RN.split 56 (((checkE ps.length (qv c) (qv b) bits) : Int) == (errorE ps.length (qv c) (qv b) ((1 : Int) : Rat) bits)) k_ (fun c25 => ?_) (fun c25 => ?_)
              · skip
                replace c25 := eq_of_beq c25
                refine RN.bq [some 0, none] [56, 57, 58] [b20, b20, b20, b20, b20, b20] (k' := 9) (l' := [(56, .bool true), (57, .agg (ivC y18.1 (encQ y18.2.2.1) y18.2.1 (encQ y18.2.2.2))), (58, .agg (ivC (⟨saNil, saNil⟩ : RA) (⟨false, ([] : List Nat), ([] : List Nat)⟩ : Raw) (⟨saNil, saNil⟩ : RA) (⟨false, ([] : List Nat), ([] : List Nat)⟩ : Raw)))]) k_ ?_
                refine RN.also (fRat (⟨saNil, saNil⟩ : RA) (⟨false, ([] : List Nat), ([] : List Nat)⟩ : Raw)) (fun w h => ⟨fU_nil w, fU_nil w⟩) ?_
                refine RN.call (r04_Same y18.1 (encQ y18.2.2.1) y18.2.1 (encQ y18.2.2.2) ⟨saNil, saNil⟩ ⟨false, ([] : List Nat), ([] : List Nat)⟩ ⟨saNil, saNil⟩ ⟨false, ([] : List Nat), ([] : List Nat)⟩) [2, 3, 0, 0] k_ k_ k_ rfl (fun y26 _ => ?_)
                refine RN.bq (no 2) [8] [] (k' := 12) (l' := [(8, .bool (decide ((encQ y18.2.2.1) = (⟨false, ([] : List Nat), ([] : List Nat)⟩ : Raw)) && decide ((encQ y18.2.2.2) = (⟨false, ([] : List Nat), ([] : List Nat)⟩ : Raw))))]) k_ ?_
                refine RN.fin k_ ?_
                have e_1 : true = (decide ((encQ y18.2.2.1) = (⟨false, ([] : List Nat), ([] : List Nat)⟩ : Raw)) && decide ((encQ y18.2.2.2) = (⟨false, ([] : List Nat), ([] : List Nat)⟩ : Raw))) := by first | rfl | exact (holds_ok hsc hchk).symm | (have hz := enc_zero2 (hsc.err (by rw [check_error]; exact herr)); simp [hz.1, hz.2])
                refine J.ret (KR.next (KR.ret (v := .bool (decide ((encQ y18.2.2.1) = (⟨false, ([] : List Nat), ([] : List Nat)⟩ : Raw)) && decide ((encQ y18.2.2.2) = (⟨false, ([] : List Nat), ([] : List Nat)⟩ : Raw)))) (()) [none] [] [] k_ v1_ (trivial) v1_))
              · skip
                replace c25 := ne_of_beq_false c25
                exact absurd c25 (by exact fun h => h (check_error _ _ _ _))
            · skip
              replace c23 := bne_eq_false_iff_eq.1 c23
              have herr : errorE ps.length (qv c) (qv b) (((1 : Int) : Rat)) bits = 0 := by simpa using c23
              have hchk : checkE ps.length (qv c) (qv b) bits = 0 := by rw [check_error]; exact herr
              refine J.skip ?_
              refine KN.next ?_
              refine J.sreg ?_
              refine RN.call (l19_awake) [] k_ k_ k_ rfl (fun y27 _ => ?_)
              refine RN.bq (no 5) [0, 3, 5, 6, 9, 66] [] (k' := 6) (l' := [(0, sl s ps.length), (3, .int .i64 bits), (5, pt b4), (6, pt b5), (9, pt b20), (66, .bool (((checkE ps.length (qv c) (qv b) bits) : Int) == 0))]) k_ ?_
              refine RN.split 66 (((checkE ps.length (qv c) (qv b) bits) : Int) == 0) k_ (fun c28 => ?_) (fun c28 => ?_)
              · skip
                replace c28 := eq_of_beq c28
                refine RN.bq [none, some 2, some 1, none, some 0] [66, 67, 68, 69, 70, 71] [b20, b20, b20, b20, b20, b20, b5, b5, b5, b4, b4, b4] (k' := 11) (l' := [(66, .bool true), (67, sl s ps.length), (68, ratV p c), (69, ratV u b), (70, .int .i64 bits), (71, .agg (ivC y18.1 (encQ y18.2.2.1) y18.2.1 (encQ y18.2.2.2)))]) k_ ?_
                refine RN.call (r19_Holds s ps p c u b bits y18.1 y18.2.2.1 y18.2.1 y18.2.2.2 y_l19_Encloses y_l19_Encloses y_l19_Encloses y_l19_Encloses y_l19_Encloses y_l19_Encloses y_l19_Encloses y_l19_Encloses y_l19_Encloses y_l19_Encloses y_l19_Encloses) [3, 4, 5, 1, 2] k_ k_ k_ rfl (fun y29 _ => ?_)
                refine RN.bq (no 2) [8] [] (k' := 14) (l' := [(8, .bool (holdsB (vals ps) ps.length (qv c) (qv b) bits y18.2.2.1 y18.2.2.2))]) k_ ?_
                refine RN.fin k_ ?_
                have e_1 : true = (holdsB (vals ps) ps.length (qv c) (qv b) bits y18.2.2.1 y18.2.2.2) := by first | rfl | exact (holds_ok hsc hchk).symm | (have hz := enc_zero2 (hsc.err (by rw [check_error]; exact herr)); simp [hz.1, hz.2])
                refine J.ret (KR.ret (v := .bool (holdsB (vals ps) ps.length (qv c) (qv b) bits y18.2.2.1 y18.2.2.2)) (()) [none] [] [] k_ v1_ (trivial) v1_)
              · skip
                replace c28 := ne_of_beq_false c28
                exact absurd c28 (by exact fun h => h hchk)
        · skip
          replace c15 := of_decide_eq_false c15
          refine RN.bq (no 4) [0, 3, 5, 6, 32] [] (k' := 21) (l' := [(0, sl s ps.length), (3, .int .i64 bits), (5, pt b4), (6, pt b5), (32, .bool false)]) k_ ?_
          refine RN.fin k_ ?_
          refine J.condF k_ ?_
          refine J.skip ?_
          refine KN.next ?_
          refine J.sreg ?_
          refine RN.bq [none, some 1, some 0, none] [0, 3, 5, 6, 35, 36, 37, 38] [b5, b5, b5, b4, b4, b4] (k' := 4) (l' := [(0, sl s ps.length), (3, .int .i64 bits), (5, pt b4), (6, pt b5), (35, sl s ps.length), (36, ratV p c), (37, ratV u b), (38, .int .i64 bits)]) k_ ?_
          refine RN.call (m19_Scale s ps p c u b bits y_l19_Encloses y_l19_Encloses y_l19_Encloses y_l19_Encloses y_l19_Encloses) [0, 1, 2] k_ k_ k_ rfl (fun y30 h31 => ?_)
          have hsc := h31
          have hq := hsc.Q
          refine RN.bq (no 3) [0, 3, 5, 6, 40, 41] [] (k' := 8) (l' := [(0, sl s ps.length), (3, .int .i64 bits), (5, pt b4), (6, pt b5), (40, .agg (ivC y30.1 (encQ y30.2.2.1) y30.2.1 (encQ y30.2.2.2))), (41, .int .i64 (checkE ps.length (qv c) (qv b) bits))]) k_ ?_
          refine RN.new (fun b => pt b) (.cells (ivC (⟨saNil, saNil⟩ : RA) (⟨false, ([] : List Nat), ([] : List Nat)⟩ : Raw) (⟨saNil, saNil⟩ : RA) (⟨false, ([] : List Nat), ([] : List Nat)⟩ : Raw)) 38 (0, 0)) k_ k_ (fun w => by kernel_rfl) (fun b32 => ?_)
          refine RN.bat [some 0, none] [0, 3, 5, 6, 9, 10] [b32, b32, b32, b32, b32, b32] (k' := 11) (l' := [(0, sl s ps.length), (3, .int .i64 bits), (5, pt b4), (6, pt b5), (9, pt b32), (10, .int .i64 (checkE ps.length (qv c) (qv b) bits))]) (M' := [(b32, .cells (ivC y30.1 (encQ y30.2.2.1) y30.2.1 (encQ y30.2.2.2)) 38 (0, 0)), (b5, .cells (ratC u b) 27 (0, 0)), (b4, .cells (ratC p c) 27 (0, 0))]) k_ ?_
          refine RN.fin k_ ?_
          refine J.seq ?_
          refine J.seq ?_
          refine J.regD k_ [] ?_
          refine RD.bat k_ [(0, none), (1, some 2), (2, some 1), (4, none)] [0, 3, 5, 6, 9, 10, 42, 43, 44, 46] [b5, b5, b5, b4, b4, b4] (L' := [4, 2, 1, 0]) (l' := [(0, sl s ps.length), (3, .int .i64 bits), (5, pt b4), (6, pt b5), (9, pt b32), (10, .int .i64 (checkE ps.length (qv c) (qv b) bits)), (42, sl s ps.length), (43, ratV p c), (44, ratV u b), (46, .int .i64 bits)]) k_ ?_
          refine RD.call (i := 3) (r03_FromInt 1 y_l19_Encloses y_l19_Encloses) [] k_ k_ k_ k_ k_ rfl (fun y33 _ => ?_)
          refine RD.call (i := 5) (r19_Error_d s ps p c u b y33 ((1 : Int) : Rat) bits y_l19_Encloses y_l19_Encloses y_l19_Encloses y_l19_Encloses) [3, 4, 5, 0] k_ k_ k_ k_ k_ rfl (fun y34 _ => ?_)
          refine RD.bat k_ [(6, none)] [0, 3, 5, 6, 9, 10, 11] [] (L' := [6, 5, 3, 4, 2, 1, 0]) (l' := [(0, sl s ps.length), (3, .int .i64 bits), (5, pt b4), (6, pt b5), (9, pt b32), (10, .int .i64 (checkE ps.length (qv c) (qv b) bits)), (11, .int .i64 (errorE ps.length (qv c) (qv b) ((1 : Int) : Rat) bits))]) k_ ?_
          refine RD.done k_ ?_
          refine KN.next ?_
          refine J.sreg ?_
          refine RN.bq (no 2) [0, 3, 5, 6, 9, 10, 11, 49] [] (k' := 2) (l' := [(0, sl s ps.length), (3, .int .i64 bits), (5, pt b4), (6, pt b5), (9, pt b32), (10, .int .i64 (checkE ps.length (qv c) (qv b) bits)), (11, .int .i64 (errorE ps.length (qv c) (qv b) ((1 : Int) : Rat) bits)), (49, .bool (((errorE ps.length (qv c) (qv b) ((1 : Int) : Rat) bits) : Int) != 0))]) k_ ?_
          refine RN.fin k_ ?_
          refine J.cond (((errorE ps.length (qv c) (qv b) ((1 : Int) : Rat) bits) : Int) != 0) k_ (fun c35 => ?_) (fun c35 => ?_)
          · skip
            replace c35 := bne_iff_ne.1 c35
            have herr := c35
            refine J.sreg ?_
            refine RN.call (l19_awake) [] k_ k_ k_ rfl (fun y36 _ => ?_)
            refine RN.bq (no 6) [9, 56] [] (k' := 7) (l' := [(9, pt b32), (56, .bool (((checkE ps.length (qv c) (qv b) bits) : Int) == (errorE ps.length (qv c) (qv b) ((1 : Int) : Rat) bits)))]) k_ ?_
            refine RN.split 56 (((checkE ps.length (qv c) (qv b) bits) : Int) == (errorE ps.length (qv c) (qv b) ((1 : Int) : Rat) bits)) k_ (fun c37 => ?_) (fun c37 => ?_)
            · skip
              replace c37 := eq_of_beq c37
              refine RN.bq [some 0, none] [56, 57, 58] [b32, b32, b32, b32, b32, b32] (k' := 9) (l' := [(56, .bool true), (57, .agg (ivC y30.1 (encQ y30.2.2.1) y30.2.1 (encQ y30.2.2.2))), (58, .agg (ivC (⟨saNil, saNil⟩ : RA) (⟨false, ([] : List Nat), ([] : List Nat)⟩ : Raw) (⟨saNil, saNil⟩ : RA) (⟨false, ([] : List Nat), ([] : List Nat)⟩ : Raw)))]) k_ ?_
              refine RN.also (fRat (⟨saNil, saNil⟩ : RA) (⟨false, ([] : List Nat), ([] : List Nat)⟩ : Raw)) (fun w h => ⟨fU_nil w, fU_nil w⟩) ?_
              refine RN.call (r04_Same y30.1 (encQ y30.2.2.1) y30.2.1 (encQ y30.2.2.2) ⟨saNil, saNil⟩ ⟨false, ([] : List Nat), ([] : List Nat)⟩ ⟨saNil, saNil⟩ ⟨false, ([] : List Nat), ([] : List Nat)⟩) [2, 3, 0, 0] k_ k_ k_ rfl (fun y38 _ => ?_)
              refine RN.bq (no 2) [8] [] (k' := 12) (l' := [(8, .bool (decide ((encQ y30.2.2.1) = (⟨false, ([] : List Nat), ([] : List Nat)⟩ : Raw)) && decide ((encQ y30.2.2.2) = (⟨false, ([] : List Nat), ([] : List Nat)⟩ : Raw))))]) k_ ?_
              refine RN.fin k_ ?_
              have e_1 : true = (decide ((encQ y30.2.2.1) = (⟨false, ([] : List Nat), ([] : List Nat)⟩ : Raw)) && decide ((encQ y30.2.2.2) = (⟨false, ([] : List Nat), ([] : List Nat)⟩ : Raw))) := by first | rfl | exact (holds_ok hsc hchk).symm | (have hz := enc_zero2 (hsc.err (by rw [check_error]; exact herr)); simp [hz.1, hz.2])
              refine J.ret (KR.next (KR.ret (v := .bool (decide ((encQ y30.2.2.1) = (⟨false, ([] : List Nat), ([] : List Nat)⟩ : Raw)) && decide ((encQ y30.2.2.2) = (⟨false, ([] : List Nat), ([] : List Nat)⟩ : Raw)))) (()) [none] [] [] k_ v1_ (trivial) v1_))
            · skip
              replace c37 := ne_of_beq_false c37
              exact absurd c37 (by exact fun h => h (check_error _ _ _ _))
          · skip
            replace c35 := bne_eq_false_iff_eq.1 c35
            have herr : errorE ps.length (qv c) (qv b) (((1 : Int) : Rat)) bits = 0 := by simpa using c35
            have hchk : checkE ps.length (qv c) (qv b) bits = 0 := by rw [check_error]; exact herr
            obtain ⟨hn0, hn1, hc0, hb0, hb1, hbt0, hbt1⟩ := checkE_0 hchk
            refine J.skip ?_
            refine KN.next ?_
            refine J.sreg ?_
            refine RN.call (l19_awake) [] k_ k_ k_ rfl (fun y39 _ => ?_)
            refine RN.bq (no 5) [0, 3, 5, 6, 9, 66] [] (k' := 6) (l' := [(0, sl s ps.length), (3, .int .i64 bits), (5, pt b4), (6, pt b5), (9, pt b32), (66, .bool (((checkE ps.length (qv c) (qv b) bits) : Int) == 0))]) k_ ?_
            refine RN.split 66 (((checkE ps.length (qv c) (qv b) bits) : Int) == 0) k_ (fun c40 => ?_) (fun c40 => ?_)
            · skip
              replace c40 := eq_of_beq c40
              refine RN.bq [none, some 2, some 1, none, some 0] [66, 67, 68, 69, 70, 71] [b32, b32, b32, b32, b32, b32, b5, b5, b5, b4, b4, b4] (k' := 11) (l' := [(66, .bool true), (67, sl s ps.length), (68, ratV p c), (69, ratV u b), (70, .int .i64 bits), (71, .agg (ivC y30.1 (encQ y30.2.2.1) y30.2.1 (encQ y30.2.2.2)))]) k_ ?_
              refine RN.call (r19_Holds s ps p c u b bits y30.1 y30.2.2.1 y30.2.1 y30.2.2.2 y_l19_Encloses y_l19_Encloses y_l19_Encloses y_l19_Encloses y_l19_Encloses y_l19_Encloses y_l19_Encloses y_l19_Encloses y_l19_Encloses y_l19_Encloses y_l19_Encloses) [3, 4, 5, 1, 2] k_ k_ k_ rfl (fun y41 _ => ?_)
              refine RN.bq (no 2) [8] [] (k' := 14) (l' := [(8, .bool (holdsB (vals ps) ps.length (qv c) (qv b) bits y30.2.2.1 y30.2.2.2))]) k_ ?_
              refine RN.fin k_ ?_
              have e_1 : true = (holdsB (vals ps) ps.length (qv c) (qv b) bits y30.2.2.1 y30.2.2.2) := by first | rfl | exact (holds_ok hsc hchk).symm | (have hz := enc_zero2 (hsc.err (by rw [check_error]; exact herr)); simp [hz.1, hz.2])
              refine J.ret (KR.ret (v := .bool (holdsB (vals ps) ps.length (qv c) (qv b) bits y30.2.2.1 y30.2.2.2)) (()) [none] [] [] k_ v1_ (trivial) v1_)
            · skip
              replace c40 := ne_of_beq_false c40
              exact absurd c40 (by exact fun h => h hchk)
end Go.Proofs.YtegnonhgildhoaaGreat.E
/- A row's arguments, read as data, become facts about memory; a contract's frame becomes the row's. -/
namespace Go.Proofs.YtegnonhgildhoaaGreat.E
open Go Go.RowKit Go.ChangeShapes Go.WideShapes
set_option linter.unusedVariables false
set_option linter.unusedSimpArgs false
section
variable {H : Type} {enc : TypeId × Value → H} {P : Program} {w w' : World} {fuel t e : Nat} {cs : List Value} {x : DataW H × List MemPlace}
def Wt (P : Program) (t : TypeId) (d : DataW H) : Prop := ∀ n ∈ d.weights P t, n ≤ reachBytes
theorem Wt.of_each {ts : List TypeId} {ds : List (DataW H)} (h : (DataW.weightsEach P ts ds).all (· ≤ reachBytes) = true) {j : Nat} {t : TypeId} {d : DataW H} (ht : ts[j]? = some t) (hd : ds[j]? = some d) : Wt P t d := fun n hn => by
  have := List.all_eq_true.1 h n (DataW.weights_mem_each ht hd n hn)
  simpa using this
theorem Wt.of_mem {ts : List TypeId} {ds : List (DataW H)} (h : ∀ n ∈ DataW.weightsEach P ts ds, n ≤ reachBytes) {j : Nat} {t : TypeId} {d : DataW H} (ht : ts[j]? = some t) (hd : ds[j]? = some d) : Wt P t d := fun n hn =>
  h n (DataW.weights_mem_each ht hd n hn)
theorem weightsAll_mem {e : TypeId} : ∀ {ds : List (DataW H)} {d : DataW H}, d ∈ ds → ∀ n ∈ d.weights P e, n ∈ DataW.weightsAll P e ds
  | [], _, h, _, _ => by cases h
  | d0 :: r, d, h, n, hn => by
    rcases List.mem_cons.1 h with rfl | h
    · simp [DataW.weightsAll, hn]
    · simp [DataW.weightsAll, weightsAll_mem h n hn]
theorem Wt.slice {elems rest : List (DataW H)} (ht : P.underlying t = some (.slice e)) (h : Wt P t (.slice elems rest)) : (elems.length + rest.length) * P.bytesOf e ≤ reachBytes ∧ ∀ d ∈ elems, Wt P e d := by
  unfold Wt at h
  simp only [DataW.weights, ht] at h
  exact ⟨h _ List.mem_cons_self, fun d hd n hn => h n (List.mem_cons_of_mem _ (List.mem_append_left _ (weightsAll_mem hd n hn)))⟩
theorem Wt.agg {fs : Array Field} {parts : List (DataW H)} (ht : P.underlying t = some (.struct fs)) (h : Wt P t (.agg parts)) {j : Nat} {f : Field} {d : DataW H} (hf : fs[j]? = some f) (hd : parts[j]? = some d) : Wt P f.type d := by
  unfold Wt at h
  simp only [DataW.weights, ht] at h
  exact Wt.of_mem (j := j) h (by simp [List.getElem?_map, Array.getElem?_toList, hf]) hd
theorem cell_spot {a : Addr} {v : Value} (h : w.cell? a = some v) : a.spot = none := by
  unfold World.cell? at h
  split at h
  · split at h
    · cases h
    · rename_i h0; simpa using h0
  · cases h
theorem cell_off (ho : Off (fun _ => False) w w') {a : Addr} {v : Value} (h : w.cell? a = some v) : w'.cell? a = some v := by
  have hlt : a.block < w.heap.size := by
    unfold World.cell? at h
    cases hb : w.heap[a.block]? with
    | none => rw [hb] at h; cases h
    | some o => exact (Array.getElem?_eq_some_iff.1 hb).1
  unfold World.cell? at *
  rw [ho.2 a.block hlt (fun h => h)]; exact h
theorem fU_off (ho : Off (fun _ => False) w w') {s : SA} {xs : List Nat} (h : fU s xs w) : fU s xs w' := ⟨h.1, fun i hi => ⟨(h.2 i hi).1, (h.2 i hi).2.1, cell_off ho (h.2 i hi).2.2⟩⟩
theorem fRat_off (ho : Off (fun _ => False) w w') {p : RA} {r : Raw} (h : fRat p r w) : fRat p r w' := ⟨fU_off ho h.1, fU_off ho h.2⟩
theorem fRats_off (ho : Off (fun _ => False) w w') {s : SA} {ps : List PR} (h : fRats s ps w) : fRats s ps w' :=
  ⟨h.1, fun i hi => ⟨(h.2 i hi).1, (h.2 i hi).2.1, fun j hj => by
    have h3 := (h.2 i hi).2.2.1 j hj
    cases hc : (ratC (ps.getD i pr0).1 (ps.getD i pr0).2)[j]? with
    | none => exfalso; unfold ratC at hc; match j, hj with
      | 0, _ => cases hc
      | 1, _ => cases hc
      | 2, _ => cases hc
    | some v => exact cell_off ho (h3.trans hc), fRat_off ho (h.2 i hi).2.2.2⟩⟩
theorem wf_u32 {z : Int} (h : (Lit.int .u32 z).wf = true) : 0 ≤ z ∧ z < 4294967296 := by
  have := bounds_u32 h
  omega
theorem wf_i64 {z : Int} (h : (Lit.int .i64 z).wf = true) : -9223372036854775808 ≤ z ∧ z < 9223372036854775808 := by
  have := bounds_i64 h
  omega
/-- A slice of uint32. -/
theorem open_U (ht : P.underlying t = some (.slice e)) (he : P.underlying e = some (.int .u32)) (hc : P.cellsOf e = 1) (hb : 1 ≤ P.bytesOf e)
    (h : DataW.trod enc P w 0 (fun _ => true) true fuel t cs = some x) (hw : Wt P t x.1) : ∃ s xs, cs = [sl s xs.length] ∧ fU s xs w ∧ Lb xs := by
  rcases open_ints ht he hc h with ⟨rfl, rfl⟩ | ⟨a, len, cap, zs, rfl, _, hl, hm, hz, rfl, hcell, hwf⟩
  · exact ⟨saNil, [], rfl, fU_nil w, Lb_nil⟩
  · simp only [if_true] at hz
    have hlen : len ≤ zs.length := by omega
    have hb2 := (hw.slice ht).1
    have h47 : len ≤ 140737488355328 := by
      have h1 : len ≤ (lits (H := H) .u32 (zs.take len)).length + (lits (H := H) .u32 (zs.drop len)).length := by simp [lits]; omega
      have h2 := Nat.le_trans (Nat.mul_le_mul h1 hb) hb2
      have : reachBytes ≤ 140737488355328 := by decide
      omega
    have hwf' : ∀ i, i < zs.length → 0 ≤ zs.getD i 0 ∧ zs.getD i 0 < 4294967296 := fun i hi => by
      have := hwf (zs.getD i 0) (by rw [List.getD_eq_getElem?_getD, List.getElem?_eq_getElem hi]; exact List.getElem_mem hi)
      exact wf_u32 this
    refine ⟨⟨some a, cap⟩, (zs.take len).map Int.toNat, by simp [sl, Nat.min_eq_left hlen], ⟨⟨by simp; omega, by simp; omega⟩, fun i hi => ?_⟩, fun y hy => ?_⟩
    · have hi' : i < len := by simp at hi; omega
      have h0 := hcell 0 (by omega)
      have hs : a.spot = none := by have := cell_spot h0; simpa [Addr.add] using this
      refine ⟨rfl, hs, ?_⟩
      show w.cell? (a.add i) = _
      rw [hcell i (by omega)]
      have hn := (hwf' i (by omega)).1
      have e1 : ((zs.take len).map Int.toNat).getD i 0 = (zs.getD i 0).toNat := by
        simp [List.getD_eq_getElem?_getD, List.getElem?_map, List.getElem?_take, hi', List.getElem?_eq_getElem (show i < zs.length by omega)]
      rw [e1, Int.toNat_of_nonneg hn]
    · obtain ⟨z, hz1, rfl⟩ := List.mem_map.1 hy
      have hz2 := List.mem_of_mem_take hz1
      have := wf_u32 (hwf z hz2)
      rw [W_eq]; omega
/-- The types of a number. -/
def structOf (P : Program) (t : TypeId) : Option (List (TypeId × Nat)) := match P.underlying t with
  | some (.struct fs) => some (fs.toList.map fun f => (f.type, f.offset))
  | _ => none
theorem structOf_two {a b : TypeId} {o p : Nat} (h : structOf P t = some [(a, o), (b, p)]) : ∃ fs f g, P.underlying t = some (.struct fs) ∧ fs[0]? = some f ∧ fs[1]? = some g ∧ fs.size = 2 ∧ f.type = a ∧ f.offset = o ∧ g.type = b ∧ g.offset = p := by
  unfold structOf at h
  split at h
  · rename_i fs hfs
    simp only [Option.some.injEq] at h
    have hl : fs.toList.length = 2 := by have := congrArg List.length h; simpa using this
    match hL : fs.toList, hl with
    | [f, g], _ =>
      rw [hL] at h
      simp only [List.map_cons, List.map_nil, List.cons.injEq, Prod.mk.injEq, and_true] at h
      obtain ⟨⟨h1, h2⟩, h3, h4⟩ := h
      refine ⟨fs, f, g, hfs, by rw [← Array.getElem?_toList, hL]; rfl, by rw [← Array.getElem?_toList, hL]; rfl, by simpa using congrArg List.length hL, h1, h2, h3, h4⟩
  · cases h
structure RTy (P : Program) (tR tI tU tB tE : TypeId) : Prop where
  r : structOf P tR = some [(tI, 0), (tU, 2)]
  i : structOf P tI = some [(tB, 0), (tU, 1)]
  u : P.underlying tU = some (.slice tE)
  b : P.underlying tB = some .bool
  e : P.underlying tE = some (.int .u32)
  cR : P.cellsOf tR = 3
  cI : P.cellsOf tI = 2
  cU : P.cellsOf tU = 1
  cB : P.cellsOf tB = 1
  cE : P.cellsOf tE = 1
  bE : 1 ≤ P.bytesOf tE
variable {tR tI tU tB tE : TypeId}
theorem open_R (T : RTy P tR tI tU tB tE) (h : DataW.trod enc P w 0 (fun _ => true) true fuel tR cs = some x) (hw : Wt P tR x.1) : ∃ p r, cs = (ratC p r).toList ∧ fRat p r w ∧ Lb r.mag ∧ Lb r.den := by
  obtain ⟨fs, f, g, hu, hf, hg, hs, rfl, ho1, hg1, ho2⟩ := structOf_two T.r
  obtain ⟨xs, n, _, rfl, hl, hxl, hx⟩ := DataW.trod_struct hu h
  rw [T.cR] at hl
  match cs, hl with
  | [c0, c1, c2], _ =>
    rw [hs] at hxl
    match xs, hxl with
    | [x0, x1], _ =>
      have h0 := hx 0 f hf
      have h1 := hx 1 g hg
      rw [ho1, T.cI] at h0
      rw [ho2, hg1, T.cU] at h1
      have w0 : Wt P f.type x0.1 := hw.agg hu (j := 0) hf rfl
      have w1 : Wt P g.type x1.1 := hw.agg hu (j := 1) hg rfl
      rw [hg1] at w1
      obtain ⟨sd, ds, e2, fd, ld⟩ := open_U T.u T.e T.cE T.bE (x := x1) (by simpa using h1) w1
      obtain ⟨fs', f', g', hu', hf', hg', hs', ha', ho1', hg1', ho2'⟩ := structOf_two T.i
      obtain ⟨ys, m, _, hy0, hl', hyl, hy⟩ := DataW.trod_struct hu' (x := x0) (by simpa using h0)
      rw [hs'] at hyl
      match ys, hyl with
      | [y0, y1], _ =>
        have k0 := hy 0 f' hf'
        have k1 := hy 1 g' hg'
        rw [ho1', ha', T.cB] at k0
        rw [ho2', hg1', T.cU] at k1
        obtain ⟨b, eb, _⟩ := DataW.trod_bool T.b (x := y0) (by simpa using k0)
        rw [hy0] at w0
        have w3 : Wt P g'.type y1.1 := w0.agg hu' (j := 1) hg' rfl
        rw [hg1'] at w3
        obtain ⟨sm, ms, e1, fm, lm⟩ := open_U T.u T.e T.cE T.bE (x := y1) (by simpa using k1) w3
        simp at eb e1 e2
        subst eb e1 e2
        exact ⟨⟨sm, sd⟩, ⟨b, ms, ds⟩, rfl, ⟨fm, fd⟩, lm, ld⟩
theorem cells_get {base : Nat} {a : Addr} {n : Nat} (h : w.cells? base a n = some cs) : cs.length = n ∧ ∀ i, i < n → w.cell? (a.add i) = cs[i]? := by
  unfold World.cells? at h
  split at h
  · have hl : ∀ (l : List Nat) (ys : List Value), l.mapM (fun i => w.cell? (a.add i)) = some ys → ys.length = l.length ∧ ∀ (k i : Nat), l[k]? = some i → w.cell? (a.add i) = ys[k]? := by
      intro l
      induction l with
      | nil => intro ys hy; simp at hy; subst hy; exact ⟨rfl, fun k i hk => by simp at hk⟩
      | cons j r ih =>
        intro ys hy
        rw [List.mapM_cons] at hy
        cases hj : w.cell? (a.add j) with
        | none => rw [hj] at hy; cases hy
        | some v =>
          rw [hj] at hy
          cases hr : r.mapM (fun i => w.cell? (a.add i)) with
          | none => rw [hr] at hy; cases hy
          | some vs =>
            rw [hr] at hy
            simp at hy
            subst hy
            obtain ⟨i1, i2⟩ := ih vs hr
            refine ⟨by simp [i1], fun k i hk => ?_⟩
            cases k with
            | zero => simp at hk; subst hk; simpa using hj
            | succ k => simp at hk ⊢; exact i2 k i hk
    obtain ⟨h1, h2⟩ := hl _ _ h
    refine ⟨by simpa using h1, fun i hi => h2 i i (by simp [hi])⟩
  · cases h
/-- A slice of numbers. -/
theorem open_Rats (T : RTy P tR tI tU tB tE) (ht : P.underlying t = some (.slice tR)) (hb : 1 ≤ P.bytesOf tR) (h : DataW.trod enc P w 0 (fun _ => true) true fuel t cs = some x) (hw : Wt P t x.1) :
    ∃ s ps, cs = [sl s ps.length] ∧ fRats s ps w ∧ ∀ i, i < ps.length → Lb (ps.getD i pr0).2.mag ∧ Lb (ps.getD i pr0).2.den := by
  rcases DataW.trod_slice ht h with ⟨rfl, rfl⟩ | ⟨a, len, cap, elems, rest, n, _, rfl, rfl, _, hl, hm, hlen, hel, hsp, _⟩
  · exact ⟨saNil, [], rfl, fRats_nil w, fun i hi => absurd hi (Nat.not_lt_zero _)⟩
  · obtain ⟨hb2, hwe⟩ := hw.slice ht
    have h47 : len ≤ 140737488355328 := by
      have h1 : len ≤ (elems.map (·.1)).length + (rest.map (·.1)).length := by simp; omega
      have h2 := Nat.le_trans (Nat.mul_le_mul h1 hb) hb2
      have : reachBytes ≤ 140737488355328 := by decide
      omega
    have each : ∀ i, i < len → ∃ q : PR, (∀ j, j < 3 → w.cell? ((a.add (i * 3)).add j) = (ratC q.1 q.2)[j]?) ∧ fRat q.1 q.2 w ∧ Lb q.2.mag ∧ Lb q.2.den := by
      intro i hi
      have hi' := hel i hi
      rw [T.cR, List.getElem?_eq_getElem (by omega)] at hi'
      obtain ⟨c, hc1, hc2⟩ := Option.bind_eq_some_iff.1 hi'
      obtain ⟨p, r, rfl, h2, h3, h4⟩ := open_R T hc2 (hwe _ (List.mem_map.2 ⟨_, List.getElem_mem _, rfl⟩))
      obtain ⟨_, hg⟩ := cells_get hc1
      exact ⟨(p, r), fun j hj => by rw [hg j hj, Array.getElem?_toList], h2, h3, h4⟩
    let f : Nat → PR := fun i => if hi : i < len then Classical.choose (each i hi) else pr0
    have hf : ∀ i (hi : i < len), f i = Classical.choose (each i hi) := fun i hi => dif_pos hi
    have hget : ∀ i, i < len → ((List.range len).map f).getD i pr0 = f i := fun i hi => by
      simp [List.getD_eq_getElem?_getD, List.getElem?_map, List.getElem?_range, hi]
    refine ⟨⟨some a, cap⟩, (List.range len).map f, by simp [sl], ⟨⟨by simp; omega, by simp; omega⟩, fun i hi => ?_⟩, fun i hi => ?_⟩
    · have hi' : i < len := by simpa using hi
      have hc := Classical.choose_spec (each i hi')
      rw [← hf i hi'] at hc
      have hc0 := Classical.choose_spec (each 0 (by omega))
      have hs : a.spot = none := by
        have := hc0.1 0 (by omega)
        exact cell_spot (a := a) (v := .bool (Classical.choose (each 0 (by omega))).2.neg) (by simpa [Addr.add, ratC] using this)
      refine ⟨rfl, hs, fun j hj => ?_, ?_⟩
      · rw [hget i hi', ← hc.1 j hj]
        show w.cell? (a.add (i * 3 + j)) = _
        rw [← add_add hs]
      · rw [hget i hi']; exact hc.2.1
    · have hi' : i < len := by simpa using hi
      have hc := Classical.choose_spec (each i hi')
      rw [← hf i hi'] at hc
      rw [hget i hi']; exact hc.2.2
theorem okWide_struct {r : Reach} {b0 : Nat} {v : Value} {l : List (TypeId × Nat)} (hs : structOf P t = some l) (h : Value.okWide P w r b0 t v) : ∃ cs, v = .agg cs := by
  unfold structOf at hs
  split at hs
  · rename_i fs hu
    simp only [Value.okWide, hu] at h
    obtain ⟨cs, h1, _⟩ := h
    exact ⟨cs, h1⟩
  · cases hs
theorem arg_R {r : Reach} {b0 : Nat} {v : Value} {d : DataW H} {pl : List MemPlace} (T : RTy P tR tI tU tB tE) (hv : Value.okWide P w r b0 tR v) (h : DataW.Trod enc P w 0 (fun _ => true) true tR v d pl) (hw : Wt P tR d) :
    ∃ p r, v = ratV p r ∧ fRat p r w ∧ Lb r.mag ∧ Lb r.den := by
  obtain ⟨cs, rfl⟩ := okWide_struct T.r hv
  obtain ⟨n, hn⟩ := h
  obtain ⟨p, r, h1, h2, h3, h4⟩ := open_R T (x := (d, pl)) hn hw
  refine ⟨p, r, ?_, h2, h3, h4⟩
  show Value.agg cs = .agg (ratC p r)
  congr 1
  apply Array.ext'
  exact h1
theorem sl_of {v : Value} {A : Option Addr} {len cap : Nat} {s : SA} {k : Nat} (hv : v = .slice A len cap) (h : v.cells.toList = [sl s k]) : v = sl s k := by
  subst hv
  simpa [Value.cells] using h
theorem arg_Rats {r : Reach} {b0 : Nat} {v : Value} {d : DataW H} {pl : List MemPlace} (T : RTy P tR tI tU tB tE) (ht : P.underlying t = some (.slice tR)) (hb : 1 ≤ P.bytesOf tR) (hv : Value.okWide P w r b0 t v) (h : DataW.Trod enc P w 0 (fun _ => true) true t v d pl) (hw : Wt P t d) :
    ∃ s ps, v = sl s ps.length ∧ fRats s ps w ∧ ∀ i, i < ps.length → Lb (ps.getD i pr0).2.mag ∧ Lb (ps.getD i pr0).2.den := by
  obtain ⟨A, len, cap, hA⟩ := okWide_slice ht hv
  obtain ⟨n, hn⟩ := h
  obtain ⟨s, ps, h1, h2, h3⟩ := open_Rats T ht hb (x := (d, pl)) hn hw
  exact ⟨s, ps, sl_of hA h1, h2, h3⟩
theorem arg_int {r : Reach} {b0 : Nat} {v : Value} {d : DataW H} {pl : List MemPlace} (ht : P.underlying t = some (.int .i64)) (hv : Value.okWide P w r b0 t v) (h : DataW.Trod enc P w 0 (fun _ => true) true t v d pl) :
    ∃ z : Int, v = .int .i64 z ∧ -9223372036854775808 ≤ z ∧ z < 9223372036854775808 := by
  obtain ⟨z, h1, _, _, h2⟩ := open_int ht hv h
  exact ⟨z, h1, wf_i64 h2⟩
theorem Frm.below (h : Frm (fun _ => False) w w') : Below w.heap.size w w' := ⟨h.os, h.tape, h.output, h.off.1, fun k hk => h.off.2 k hk (fun h => h)⟩
/-- A contract that answers true, called at a row's start. -/
theorem row_call {f : FuncId} {args : Array Value} {Fin : List Fact} {ι : Type} {φ : ι → Prop} {Fout : ι → List Fact} (spec : Spec P f args Fin (ι := ι) (fun _ => .bool true) φ Fout) (hF : ∀ p ∈ Fin, Rob (fun _ => False) p w) :
    Calls P f args w fun e w' => e = .returned (.bool true) ∧ Below w.heap.size w w' :=
  (spec.calls (fun _ => False) w (fun k hk => hk.elim) hF).mono (by
    rintro e w' ⟨x, rfl, _, hf, _⟩
    exact ⟨rfl, hf.below⟩)
end
end Go.Proofs.YtegnonhgildhoaaGreat.E
