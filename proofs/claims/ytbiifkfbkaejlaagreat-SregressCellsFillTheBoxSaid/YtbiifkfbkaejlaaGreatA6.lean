/- Lemmas and contracts of functions on the way to the law, part 6. -/
import Derived.WalkKit
import Derived.ProofKit
import Derived.OpenShut
import Derived.ChangeOld
import Derived.Below
import Derived.SizedLaws
import Derived.Test.YtbiifkfbkaejlaaGreatA5
namespace Go.Proofs.YtbiifkfbkaejlaaGreat.E
open Go Go.RowKit
set_option linter.unusedVariables false
set_option linter.unusedSimpArgs false
theorem y_r04_Contains {p : Prop} (h : p := by first | assumption | exact Lb_toL _ | omega | (simp; done) | with_reducible exact Q.le ha (by decide) | with_reducible exact Q.le hb (by decide) | with_reducible exact Q.le hc (by decide) | with_reducible exact Q.le l1 (by decide) | with_reducible exact Q.le r1 (by decide) | with_reducible exact Q.le d1 (by decide) | with_reducible exact Q.le d2 (by decide) | with_reducible exact Q.le d3 (by decide) | with_reducible exact Q.le d4 (by decide) | with_reducible exact Q.le d5 (by decide) | with_reducible exact Q.le d6 (by decide)) : p := h
theorem r04_Contains (p : RA) (a : Rat) (u : RA) (b : Rat) (v : RA) (c : Rat) (ha : Q 10000000 a) (hb : Q 10000000 b) (hc : Q 10000000 c) : Spec Tryz.prog 21 #[.agg (ivC p (encQ a) u (encQ b)), ratV v (encQ c)] [fRat p (encQ a), fRat u (encQ b), fRat v (encQ c)] (ι := Unit) (fun y => .bool (!decide (c < loQ a b) && !decide (hiQ a b < c))) (fun y => True) (fun y => []) := by
 refine Spec.of_body _ (fn := Tryz.f21) k_ rfl k_ (fun X w0 => ?_)
 refine J.fact (φ := (encQ a).mag.length ≤ 140737488355328 ∧ (encQ a).den.length ≤ 140737488355328) (fun w h => by have h1 := (h _ (.head _)).1.1; have h2 := (h _ (.head _)).2.1; omega) (fun hl1 => ?_)
 refine J.fact (φ := (encQ b).mag.length ≤ 140737488355328 ∧ (encQ b).den.length ≤ 140737488355328) (fun w h => by have h1 := (h _ (.tail _ ((.head _)))).1.1; have h2 := (h _ (.tail _ ((.head _)))).2.1; omega) (fun hl2 => ?_)
 refine J.fact (φ := (encQ c).mag.length ≤ 140737488355328 ∧ (encQ c).den.length ≤ 140737488355328) (fun w h => by have h1 := (h _ (.tail _ ((.tail _ ((.head _)))))).1.1; have h2 := (h _ (.tail _ ((.tail _ ((.head _)))))).2.1; omega) (fun hl3 => ?_)
 have l1 := Q_lo2 (b := b) ha (by decide)
 have r1 := Q_hi2 (a := a) hb (by decide)
 have d1 := l1.sub hc
 have d2 := hc.sub r1
 have d3 := hb.sub ha
 have d4 := hc.sub l1
 have d5 := r1.sub hc
 have d6 := ha.sub hb
 refine J.sreg ?_
 refine RN.new (fun b => pt b) (.cells (ivC p (encQ a) u (encQ b)) 43 (0, 0)) k_ k_ (fun w => by kernel_rfl) (fun b4 => ?_)
 refine RN.new (fun b => pt b) (.cells (ratC v (encQ c)) 40 (0, 0)) k_ k_ (fun w => by kernel_rfl) (fun b5 => ?_)
 refine RN.bq (no 1) [2, 3] [] 3 [(2, pt b4), (3, pt b5)] k_ ?_
 refine RN.fs k_ ?_
 refine RN.bq [some 1] [2, 3, 5] [b4, b4, b4, b4, b4, b4] 1 [(2, pt b4), (3, pt b5), (5, .agg (ivC p (encQ a) u (encQ b)))] k_ ?_
 refine RN.call (r04_Take_c p a u b y_r04_Contains y_r04_Contains y_r04_Contains) [0, 1] k_ k_ k_ rfl (fun y6 _ => ?_)
 refine RN.bs [some 1] [2, 3] [b4, b4, b4, b4, b4, b4] 3 [(2, pt b4), (3, pt b5)] ([(b5, .cells (ratC v (encQ c)) 40 (0, 0)), (b4, .cells (ivC y6.1 (encQ (loQ a b)) y6.2 (encQ (hiQ a b))) 43 (0, 0))]) k_ ?_
 refine RN.fs k_ ?_
 refine RN.bq [some 0, none, some 1] [2, 3, 7, 9] [b4, b4, b4, b5, b5, b5] 3 [(2, pt b4), (3, pt b5), (7, ratV v (encQ c)), (9, ratV y6.1 (encQ (loQ a b)))] k_ ?_
 refine RN.call (r03_Less_c v c y6.1 (loQ a b) y_r04_Contains y_r04_Contains y_r04_Contains) [4, 0] k_ k_ k_ rfl (fun y7 _ => ?_)
 refine RN.bq (no 2) [2, 3, 12] [] 6 [(2, pt b4), (3, pt b5), (12, .bool (!(decide (c < (loQ a b)))))] k_ ?_
 refine RN.split 12 (!(decide (c < (loQ a b)))) k_ (fun c8 => ?_) (fun c8 => ?_)
 ·replace c8 := of_decide_eq_false ((Bool.not_eq_true' _).mp c8)
  refine RN.bq [none, some 1, some 0] [12, 14, 15] [b5, b5, b5, b4, b4, b4] 9 [(12, .bool true), (14, ratV y6.2 (encQ (hiQ a b))), (15, ratV v (encQ c))] k_ ?_
  refine RN.call (r03_Less_c y6.2 (hiQ a b) v c y_r04_Contains y_r04_Contains y_r04_Contains) [1, 4] k_ k_ k_ rfl (fun y9 _ => ?_)
  refine RN.bq (no 3) [4] [] 13 [(4, .bool (!(decide ((hiQ a b) < c))))] k_ ?_
  refine RN.fin k_ ?_
  have e_1 : (!decide (c < loQ a b) && !decide (hiQ a b < c)) = (!(decide ((hiQ a b) < c))) := by simp_all
  refine J.ret (KR.ret (v := .bool (!(decide ((hiQ a b) < c)))) (()) [none] [] [] k_ v1_ (trivial) v1_)
 ·replace c8 := of_decide_eq_true ((Bool.not_eq_false' _).mp c8)
  refine RN.bq (no 7) [4] [] 13 [(4, .bool false)] k_ ?_
  refine RN.fin k_ ?_
  have e_1 : (!decide (c < loQ a b) && !decide (hiQ a b < c)) = false := by simp_all
  refine J.ret (KR.ret (v := .bool false) (()) [none] [] [] k_ v1_ (trivial) v1_)
theorem y_r04_Within {p : Prop} (h : p := by first | assumption | exact Lb_toL _ | omega | (simp; done) | with_reducible exact Q.le ha (by decide) | with_reducible exact Q.le hb (by decide) | with_reducible exact Q.le hc (by decide) | with_reducible exact Q.le hd (by decide) | with_reducible exact Q.le l1 (by decide) | with_reducible exact Q.le l2 (by decide) | with_reducible exact Q.le r1 (by decide) | with_reducible exact Q.le r2 (by decide) | with_reducible exact Q.le d3 (by decide) | with_reducible exact Q.le d6 (by decide)) : p := h
theorem r04_Within (p : RA) (a : Rat) (u : RA) (b : Rat) (v : RA) (c : Rat) (w : RA) (d : Rat) (ha : Q 10000000 a) (hb : Q 10000000 b) (hc : Q 10000000 c) (hd : Q 10000000 d) : Spec Tryz.prog 22 #[.agg (ivC p (encQ a) u (encQ b)), .agg (ivC v (encQ c) w (encQ d))] [fRat p (encQ a), fRat u (encQ b), fRat v (encQ c), fRat w (encQ d)] (ι := Unit) (fun y => .bool ((!decide (loQ a b < loQ c d) && !decide (hiQ c d < loQ a b)) && (!decide (hiQ a b < loQ c d) && !decide (hiQ c d < hiQ a b)))) (fun y => True) (fun y => []) := by
 refine Spec.of_body _ (fn := Tryz.f22) k_ rfl k_ (fun X w0 => ?_)
 refine J.fact (φ := (encQ a).mag.length ≤ 140737488355328 ∧ (encQ a).den.length ≤ 140737488355328) (fun w h => by have h1 := (h _ (.head _)).1.1; have h2 := (h _ (.head _)).2.1; omega) (fun hl1 => ?_)
 refine J.fact (φ := (encQ b).mag.length ≤ 140737488355328 ∧ (encQ b).den.length ≤ 140737488355328) (fun w h => by have h1 := (h _ (.tail _ ((.head _)))).1.1; have h2 := (h _ (.tail _ ((.head _)))).2.1; omega) (fun hl2 => ?_)
 refine J.fact (φ := (encQ c).mag.length ≤ 140737488355328 ∧ (encQ c).den.length ≤ 140737488355328) (fun w h => by have h1 := (h _ (.tail _ ((.tail _ ((.head _)))))).1.1; have h2 := (h _ (.tail _ ((.tail _ ((.head _)))))).2.1; omega) (fun hl3 => ?_)
 refine J.fact (φ := (encQ d).mag.length ≤ 140737488355328 ∧ (encQ d).den.length ≤ 140737488355328) (fun w h => by have h1 := (h _ (.tail _ ((.tail _ ((.tail _ ((.head _)))))))).1.1; have h2 := (h _ (.tail _ ((.tail _ ((.tail _ ((.head _)))))))).2.1; omega) (fun hl4 => ?_)
 have l1 := Q_lo2 (b := b) ha (by decide)
 have l2 := Q_lo2 (b := d) hc (by decide)
 have r1 := Q_hi2 (a := a) hb (by decide)
 have r2 := Q_hi2 (a := c) hd (by decide)
 have d3 := hb.sub ha
 have d6 := ha.sub hb
 refine J.sreg ?_
 refine RN.new (fun b => pt b) (.cells (ivC p (encQ a) u (encQ b)) 43 (0, 0)) k_ k_ (fun w => by kernel_rfl) (fun b5 => ?_)
 refine RN.new (fun b => pt b) (.cells (ivC v (encQ c) w (encQ d)) 43 (0, 0)) k_ k_ (fun w => by kernel_rfl) (fun b6 => ?_)
 refine RN.bq (no 1) [2, 3] [] 3 [(2, pt b5), (3, pt b6)] k_ ?_
 refine RN.fs k_ ?_
 refine RN.bq [some 1] [2, 3, 5] [b5, b5, b5, b5, b5, b5] 1 [(2, pt b5), (3, pt b6), (5, .agg (ivC p (encQ a) u (encQ b)))] k_ ?_
 refine RN.call (r04_Take_c p a u b y_r04_Within y_r04_Within y_r04_Within) [0, 1] k_ k_ k_ rfl (fun y7 _ => ?_)
 refine RN.bs [some 1] [2, 3] [b5, b5, b5, b5, b5, b5] 3 [(2, pt b5), (3, pt b6)] ([(b6, .cells (ivC v (encQ c) w (encQ d)) 43 (0, 0)), (b5, .cells (ivC y7.1 (encQ (loQ a b)) y7.2 (encQ (hiQ a b))) 43 (0, 0))]) k_ ?_
 refine RN.fs k_ ?_
 refine RN.bq [some 0, none, some 1] [2, 3, 7, 9] [b5, b5, b5, b6, b6, b6, b6, b6, b6] 3 [(2, pt b5), (3, pt b6), (7, .agg (ivC v (encQ c) w (encQ d))), (9, ratV y7.1 (encQ (loQ a b)))] k_ ?_
 refine RN.call (r04_Contains v c w d y7.1 (loQ a b) y_r04_Within y_r04_Within y_r04_Within) [4, 5, 0] k_ k_ k_ rfl (fun y8 _ => ?_)
 refine RN.bq (no 1) [2, 3, 11] [] 5 [(2, pt b5), (3, pt b6), (11, .bool (!decide ((loQ a b) < loQ c d) && !decide (hiQ c d < (loQ a b))))] k_ ?_
 refine RN.split 11 ((!decide ((loQ a b) < loQ c d) && !decide (hiQ c d < (loQ a b)))) k_ (fun c9 => ?_) (fun c9 => ?_)
 ·refine RN.bq [some 0, none, some 1] [11, 12, 14] [b5, b5, b5, b6, b6, b6, b6, b6, b6] 8 [(11, .bool true), (12, .agg (ivC v (encQ c) w (encQ d))), (14, ratV y7.2 (encQ (hiQ a b)))] k_ ?_
  refine RN.call (r04_Contains v c w d y7.2 (hiQ a b) y_r04_Within y_r04_Within y_r04_Within) [4, 5, 1] k_ k_ k_ rfl (fun y10 _ => ?_)
  refine RN.bq (no 2) [4] [] 11 [(4, .bool (!decide ((hiQ a b) < loQ c d) && !decide (hiQ c d < (hiQ a b))))] k_ ?_
  refine RN.fin k_ ?_
  have e_1 : ((!decide (loQ a b < loQ c d) && !decide (hiQ c d < loQ a b)) && (!decide (hiQ a b < loQ c d) && !decide (hiQ c d < hiQ a b))) = (!decide ((hiQ a b) < loQ c d) && !decide (hiQ c d < (hiQ a b))) := by simp_all
  refine J.ret (KR.ret (v := .bool (!decide ((hiQ a b) < loQ c d) && !decide (hiQ c d < (hiQ a b)))) (()) [none] [] [] k_ v1_ (trivial) v1_)
 ·refine RN.bq (no 6) [4] [] 11 [(4, .bool false)] k_ ?_
  refine RN.fin k_ ?_
  have e_1 : ((!decide (loQ a b < loQ c d) && !decide (hiQ c d < loQ a b)) && (!decide (hiQ a b < loQ c d) && !decide (hiQ c d < hiQ a b))) = false := by simp_all
  refine J.ret (KR.ret (v := .bool false) (()) [none] [] [] k_ v1_ (trivial) v1_)
def sameL (ps qs : List PR) : Prop := ps.length = qs.length ∧ ∀ k, k < ps.length → (ps.getD k pr0).2 = (qs.getD k pr0).2
instance (ps qs : List PR) : Decidable (sameL ps qs) := by unfold sameL; infer_instance
theorem r03_SameList (s : SA) (ps : List PR) (t : SA) (qs' : List PR) : Spec Tryz.prog 47 #[sl s ps.length, sl t qs'.length] [fRats s ps, fRats t qs'] (ι := Unit) (fun y => .bool (decide (sameL ps qs'))) (fun y => True) (fun y => []) := by
 refine Spec.of_body _ (fn := Tryz.f47) k_ rfl k_ (fun X w0 => ?_)
 refine J.fact (φ := ps.length ≤ 140737488355328) (fun w h => by have := (h _ (.head _)).1; omega) (fun hl1 => ?_)
 refine J.fact (φ := qs'.length ≤ 140737488355328) (fun w h => by have := (h _ (.tail _ ((.head _)))).1; omega) (fun hl2 => ?_)
 refine J.sreg ?_
 refine RN.bq (no 1) [0, 1] [] 1 [(0, sl s ps.length), (1, sl t qs'.length)] k_ ?_
 refine RN.fin k_ ?_
 refine J.seq ?_
 refine J.sreg ?_
 refine RN.bq (no 5) [0, 1, 10] [] 5 [(0, sl s ps.length), (1, sl t qs'.length), (10, .bool ((((ps.length : Nat) : Int) : Int) != ((qs'.length : Nat) : Int)))] k_ ?_
 refine RN.fin k_ ?_
 refine J.cond ((((ps.length : Nat) : Int) : Int) != ((qs'.length : Nat) : Int)) k_ (fun c3 => ?_) (fun c3 => ?_)
 ·replace c3 := bne_iff_ne.1 c3
  refine J.sreg ?_
  refine RN.bq (no 1) [4] [] 1 [(4, .bool false)] k_ ?_
  refine RN.fin k_ ?_
  have e_1 : (decide (sameL ps qs')) = false := by first | exact decide_eq_false (fun h => by have h1 := h.1; omega) | exact decide_eq_false (fun h => absurd (h.2 i (by omega)) (by simpa using hne)) | exact decide_eq_true ⟨by omega, fun k hk => hI2 k (by omega)⟩
  refine J.ret (KR.next (KR.ret (v := .bool false) (()) [none] [] [] k_ v1_ (trivial) v1_))
 ·replace c3 := bne_eq_false_iff_eq.1 c3
  refine J.skip ?_
  refine KN.next ?_
  refine J.seq ?_
  refine J.sreg ?_
  refine RN.bq (no 1) [0, 1, 5] [] 1 [(0, sl s ps.length), (1, sl t qs'.length), (5, .int .i64 0)] k_ ?_
  refine RN.fin k_ ?_
  refine J.block ?_
  refine J.loop (ι := (Nat)) (fun x => x ≤ ps.length ∧ ∀ k, k < x → (ps.getD k pr0).2 = (qs'.getD k pr0).2) (fun x => ps.length - x) (fun x => [(0, sl s ps.length), (1, sl t qs'.length), (5, .int .i64 ((x : Nat) : Int))]) (fun x => []) (fun x => [fRats s ps, fRats t qs']) (0) [0, 1, 5] [0, 1] (⟨Nat.zero_le _, fun k h => absurd h (Nat.not_lt_zero _)⟩) k_ (by first | rfl | (simp only [encQ_zero]; done) | (simp only [encQ_zero]; rfl)) (by rfl) (fun i hI => ?_)
  replace hI : i ≤ ps.length ∧ ∀ k, k < i → (ps.getD k pr0).2 = (qs'.getD k pr0).2 := hI
  obtain ⟨hI1, hI2⟩ := hI
  refine J.seq ?_
  refine J.sreg ?_
  refine RN.bq (no 4) [0, 1, 5, 14] [] 4 [(0, sl s ps.length), (1, sl t qs'.length), (5, .int .i64 ((i : Nat) : Int)), (14, .bool (decide (((i : Nat) : Int) < ((ps.length : Nat) : Int))))] k_ ?_
  refine RN.fin k_ ?_
  refine J.cond (decide (((i : Nat) : Int) < ((ps.length : Nat) : Int))) k_ (fun c4 => ?_) (fun c4 => ?_)
  ·replace c4 := of_decide_eq_true c4
   refine J.skip ?_
   refine KN.next ?_
   refine J.seq ?_
   refine J.block ?_
   refine J.seq ?_
   refine J.regD k_ [] ?_
   refine RD.bq (nl [0, 1, 4, 5]) [0, 1, 5, 17, 18, 21, 22] [] [(0, sl s ps.length), (1, sl t qs'.length), (5, .int .i64 ((i : Nat) : Int)), (17, sl s ps.length), (18, .int .i64 ((i : Nat) : Int)), (21, sl t qs'.length), (22, .int .i64 ((i : Nat) : Int))] k_ k_ ?_
   refine RD.val (i := 2) _ k_ k_ k_ (q_ridx (t := 28) (x := (.tmp 17)) (ix := (.tmp 18)) (K := .i64) (i0 := ((i : Nat) : Int)) (m := i) (e := 40) 0 rfl k_ k_ k_ k_ k_ (by omega) x_) ?_
   refine RD.val (i := 3) _ k_ k_ k_ (q_rload (T := 40) (x := (.tmp 19)) (m := i) (s := s) (ps := ps) 0 rfl k_ k_ k_ k_ x_) ?_
   refine RD.also (fRat ((ps.getD i pr0).1) ((ps.getD i pr0).2)) (fun w h => rat_of (h _ (.head _)) x_) k_ ?_
   refine RD.val (i := 6) _ k_ k_ k_ (q_ridx (t := 28) (x := (.tmp 21)) (ix := (.tmp 22)) (K := .i64) (i0 := ((i : Nat) : Int)) (m := i) (e := 40) 2 rfl k_ k_ k_ k_ k_ (by omega) x_) ?_
   refine RD.val (i := 7) _ k_ k_ k_ (q_rload (T := 40) (x := (.tmp 23)) (m := i) (s := t) (ps := qs') 2 rfl k_ k_ k_ k_ x_) ?_
   refine RD.also (fRat ((qs'.getD i pr0).1) ((qs'.getD i pr0).2)) (fun w h => rat_of (h _ (.tail _ ((.tail _ ((.head _)))))) x_) k_ ?_
   refine RD.call (i := 8) (r03_Same ((ps.getD i pr0).1) ((ps.getD i pr0).2) ((qs'.getD i pr0).1) ((qs'.getD i pr0).2)) [1, 0] k_ k_ k_ k_ k_ rfl (fun y5 _ => ?_)
   refine RD.bq (nl [9]) [0, 1, 5, 26] [] [(0, sl s ps.length), (1, sl t qs'.length), (5, .int .i64 ((i : Nat) : Int)), (26, .bool (!(decide (((ps.getD i pr0).2) = ((qs'.getD i pr0).2)))))] k_ k_ ?_
   refine RD.done k_ ?_
   refine KN.next ?_
   refine J.cond (!(decide (((ps.getD i pr0).2) = ((qs'.getD i pr0).2)))) k_ (fun c6 => ?_) (fun c6 => ?_)
   ·replace c6 := of_decide_eq_false ((Bool.not_eq_true' _).mp c6)
    have hne := c6
    refine J.sreg ?_
    refine RN.bq (no 1) [4] [] 1 [(4, .bool false)] k_ ?_
    refine RN.fin k_ ?_
    have e_1 : (decide (sameL ps qs')) = false := by first | exact decide_eq_false (fun h => by have h1 := h.1; omega) | exact decide_eq_false (fun h => absurd (h.2 i (by omega)) (by simpa using hne)) | exact decide_eq_true ⟨by omega, fun k hk => hI2 k (by omega)⟩
    refine J.ret (KR.blk (KR.next (KR.next (KR.blk (KR.next (KR.ret (v := .bool false) (()) [none] [] [] k_ v1_ (trivial) v1_))))))
   ·replace c6 := of_decide_eq_true ((Bool.not_eq_false' _).mp c6)
    have hse : (ps.getD i pr0).2 = (qs'.getD i pr0).2 := by simpa using c6
    refine J.skip ?_
    refine KN.blk ?_
    refine KN.next ?_
    refine J.regN ?_
    refine RN.bq (no 2) [0, 1, 16] [] 2 [(0, sl s ps.length), (1, sl t qs'.length), (16, .int .i64 (IntKind.i64.wrap (((i : Nat) : Int) + 1)))] k_ ?_
    rw [show IntKind.i64.wrap (((i : Nat) : Int) + 1) = ((i + 1 : Nat) : Int) from by rw [IntKind.wrap_i64]; omega]
    refine RN.bq (no 1) [0, 1, 5] [] 3 [(0, sl s ps.length), (1, sl t qs'.length), (5, .int .i64 ((i + 1 : Nat) : Int))] k_ ?_
    refine RN.done k_ ?_
    refine KN.roundE (i + 1) [0, 1, 5] [2, 3] (l2 := [(0, sl s ps.length), (1, sl t qs'.length), (5, .int .i64 ((i + 1 : Nat) : Int))]) (by (try dsimp only); omega) (by (try dsimp only); exact ⟨by omega, fun k hk => by rcases Nat.lt_succ_iff_lt_or_eq.1 hk with hk | rfl; exact hI2 k hk; exact hse⟩) k_ (by rfl) (by rfl) (by rfl)
  ·replace c4 := of_decide_eq_false c4
   refine J.exit (KX.next (KX.next (KX.hit ?_)))
   refine KN.next ?_
   refine J.sreg ?_
   refine RN.bq (no 1) [4] [] 1 [(4, .bool true)] k_ ?_
   refine RN.fin k_ ?_
   have e_1 : (decide (sameL ps qs')) = true := by first | exact decide_eq_false (fun h => by have h1 := h.1; omega) | exact decide_eq_false (fun h => absurd (h.2 i (by omega)) (by simpa using hne)) | exact decide_eq_true ⟨by omega, fun k hk => hI2 k (by omega)⟩
   refine J.ret (KR.ret (v := .bool true) (()) [none] [] [] k_ v1_ (trivial) v1_)
def boxE (lo sz : List Int) (j : Nat) : Rat × Rat := (numQ (lo.getD j 0), numQ (lo.getD j 0) + absQ (numQ (sz.getD j 0)))
theorem I64 {xs : List Int} (h : ∀ z ∈ xs, -9223372036854775808 ≤ z ∧ z < 9223372036854775808) (i : Nat) : -9223372036854775808 ≤ xs.getD i 0 ∧ xs.getD i 0 < 9223372036854775808 := by
  rcases Nat.lt_or_ge i xs.length with hi | hi
  · exact h _ (getI_mem hi)
  · rw [getI_ge hi]; omega
theorem Q_numQ (v : Int) : Q 5 (numQ v) := by
  have h1 := emod_b (k := v) (n := 61) (by decide)
  have h2 := emod_b (k := Int.tdiv v 61) (n := 4) (by decide)
  exact (Q_int (by omega)).div (Q_int (by omega))
theorem Q_abs {k : Nat} {q : Rat} (h : Q k q) : Q k (absQ q) := by unfold absQ; split; exact h.neg; exact h
theorem y_l21_Intervals {p : Prop} (h : p := by first | omega | assumption | exact Lb_toL _ | (simp; done) | with_reducible exact Q.le q1 (by decide) | with_reducible exact Q.le q2 (by decide) | with_reducible exact Q.le q3 (by decide)) : p := h
theorem l21_Intervals (s : SA) (lo : List Int) (t : SA) (sz : List Int) (k : Nat) (hlo : ∀ z ∈ lo, -9223372036854775808 ≤ z ∧ z < 9223372036854775808) (hsz : ∀ z ∈ sz, -9223372036854775808 ≤ z ∧ z < 9223372036854775808) (hk : k ≤ 1000) : Spec Tryz.prog 7 #[.agg #[sl s lo.length, sl t sz.length], .int .i64 ((k : Nat) : Int)] [fI s lo, fI t sz] (ι := SA × List QV) (fun y => sl y.1 y.2.length) (fun y => y.2.length = k ∧ ∀ j, j < y.2.length → (y.2.getD j qv0).1.2 = (boxE lo sz j).1 ∧ (y.2.getD j qv0).2.2 = (boxE lo sz j).2) (fun y => [fL elv y.1 y.2]) := by
 refine Spec.of_body _ (fn := Tryz.f7) k_ rfl k_ (fun X w0 => ?_)
 refine J.fact (φ := lo.length ≤ 140737488355328) (fun w h => by have := (h _ (.head _)).1; omega) (fun hl1 => ?_)
 refine J.fact (φ := sz.length ≤ 140737488355328) (fun w h => by have := (h _ (.tail _ ((.head _)))).1; omega) (fun hl2 => ?_)
 refine J.sreg ?_
 refine RN.new (fun b => pt b) (.cells #[sl s lo.length, sl t sz.length] 26 (0, 0)) k_ k_ (fun w => by kernel_rfl) (fun b3 => ?_)
 refine RN.bq (no 1) [1, 2] [] 2 [(1, .int .i64 ((k : Nat) : Int)), (2, pt b3)] k_ ?_
 refine RN.fs k_ ?_
 refine RN.bq (no 1) [1, 2, 5] [] 1 [(1, .int .i64 ((k : Nat) : Int)), (2, pt b3), (5, .slice none 0 0)] k_ ?_
 refine RN.fin k_ ?_
 refine J.seq ?_
 refine J.sreg ?_
 refine RN.bq (no 1) [1, 2, 5, 6] [] 1 [(1, .int .i64 ((k : Nat) : Int)), (2, pt b3), (5, .slice none 0 0), (6, .int .i64 0)] k_ ?_
 refine RN.fin k_ ?_
 refine J.block ?_
 refine J.also (allL elv ([] : List QV)) (fun w h => allL_nil elv w) ?_
 refine J.loop (ι := (Option GB) × (List QV) × (Nat)) (fun x => x.2.2 ≤ k ∧ gOk 6 x.1 x.2.1.length ∧ x.2.1.length = x.2.2 ∧ ∀ kk, kk < x.2.1.length → (x.2.1.getD kk qv0).1.2 = (boxE lo sz kk).1 ∧ (x.2.1.getD kk qv0).2.2 = (boxE lo sz kk).2) (fun x => k - x.2.2) (fun x => [(1, .int .i64 ((k : Nat) : Int)), (2, pt b3), (5, sl (glS x.1) x.2.1.length), (6, .int .i64 ((x.2.2 : Nat) : Int))]) (fun x => [(b3, .cells #[sl s lo.length, sl t sz.length] 26 (0, 0))] ++ (glM x.1 (encv x.2.1) 43 ++ ([]))) (fun x => [allL elv x.2.1, fI s lo, fI t sz]) (none, ([] : List QV), 0) [1, 2, 5, 6] [0, 1, 2] (⟨Nat.zero_le _, rfl, rfl, fun k h => absurd h (Nat.not_lt_zero _)⟩) k_ (by first | rfl | (simp only [encQ_zero]; done) | (simp only [encQ_zero]; rfl)) (by rfl) (fun x4 hI => ?_)
 obtain ⟨go, out, j⟩ := x4
 replace hI : j ≤ k ∧ gOk 6 go out.length ∧ out.length = j ∧ ∀ kk, kk < out.length → (out.getD kk qv0).1.2 = (boxE lo sz kk).1 ∧ (out.getD kk qv0).2.2 = (boxE lo sz kk).2 := hI
 obtain ⟨hI1, hI2, hI3, hI4⟩ := hI
 have q1 := Q_numQ (lo.getD j 0)
 have q2 := Q_numQ (sz.getD j 0)
 have q3 := Q_abs q2
 have i1 := I64 hlo j
 have i2 := I64 hsz j
 refine J.seq ?_
 refine J.sreg ?_
 refine RN.bq (no 3) [1, 2, 5, 6, 10] [] 3 [(1, .int .i64 ((k : Nat) : Int)), (2, pt b3), (5, sl (glS go) out.length), (6, .int .i64 ((j : Nat) : Int)), (10, .bool (decide (((j : Nat) : Int) < ((k : Nat) : Int))))] k_ ?_
 refine RN.fin k_ ?_
 refine J.cond (decide (((j : Nat) : Int) < ((k : Nat) : Int))) k_ (fun c5 => ?_) (fun c5 => ?_)
 ·replace c5 := of_decide_eq_true c5
  refine J.skip ?_
  refine KN.next ?_
  refine J.seq ?_
  refine J.block ?_
  refine J.sreg ?_
  refine RN.bq [none, some 0, none] [1, 2, 5, 6, 14, 15] [b3] 3 [(1, .int .i64 ((k : Nat) : Int)), (2, pt b3), (5, sl (glS go) out.length), (6, .int .i64 ((j : Nat) : Int)), (14, sl s lo.length), (15, .int .i64 ((j : Nat) : Int))] k_ ?_
  refine RN.call (made_At s lo j) [1] k_ k_ k_ rfl (fun y6 _ => ?_)
  refine RN.call (made_Number (lo.getD j 0) y_l21_Intervals y_l21_Intervals) [] k_ k_ k_ rfl (fun y7 _ => ?_)
  refine RN.new (fun b => pt b) (.cells (ratC (⟨saNil, saNil⟩ : RA) (⟨false, ([] : List Nat), ([] : List Nat)⟩ : Raw)) 40 (0, 0)) k_ k_ (fun w => by kernel_rfl) (fun b8 => ?_)
  refine RN.bs [some 0] [1, 2, 5, 6, 7] [b8, b8, b8] 7 [(1, .int .i64 ((k : Nat) : Int)), (2, pt b3), (5, sl (glS go) out.length), (6, .int .i64 ((j : Nat) : Int)), (7, pt b8)] ([(b8, .cells (ratC y7 (encQ (numQ (lo.getD j 0)))) 40 (0, 0)), (b3, .cells #[sl s lo.length, sl t sz.length] 26 (0, 0))] ++ (glM go (encv out) 43 ++ ([]))) k_ ?_
  refine RN.fin k_ ?_
  refine J.regD k_ [12] ?_
  refine RD.bq [(0, none), (1, some 0), (2, some 0), (3, none), (4, some 1), (5, none)] [1, 2, 6, 18, 19, 20, 22, 23] [b3, b8, b8, b8, b8, b8, b8] [(1, .int .i64 ((k : Nat) : Int)), (2, pt b3), (6, .int .i64 ((j : Nat) : Int)), (18, sl (glS go) out.length), (19, ratV y7 (encQ (numQ (lo.getD j 0)))), (20, ratV y7 (encQ (numQ (lo.getD j 0)))), (22, sl t sz.length), (23, .int .i64 ((j : Nat) : Int))] k_ k_ ?_
  refine RD.call (i := 6) (made_At t sz j) [3] k_ k_ k_ k_ k_ rfl (fun y9 _ => ?_)
  refine RD.call (i := 7) (made_Number (sz.getD j 0) y_l21_Intervals y_l21_Intervals) [] k_ k_ k_ k_ k_ rfl (fun y10 _ => ?_)
  refine RD.call (i := 8) (r03_Abs_c y10 (numQ (sz.getD j 0)) y_l21_Intervals) [0] k_ k_ k_ k_ k_ rfl (fun y11 _ => ?_)
  refine RD.call (i := 9) (r03_Add_c y7 (numQ (lo.getD j 0)) y11 (absQ (numQ (sz.getD j 0))) y_l21_Intervals y_l21_Intervals) [2, 0] k_ k_ k_ k_ k_ rfl (fun y12 _ => ?_)
  refine RD.bq (nl [10]) [1, 2, 6, 18, 28] [] [(1, .int .i64 ((k : Nat) : Int)), (2, pt b3), (6, .int .i64 ((j : Nat) : Int)), (18, sl (glS go) out.length), (28, .agg (ivC y7 (encQ (numQ (lo.getD j 0))) y12 (encQ ((numQ (lo.getD j 0)) + (absQ (numQ (sz.getD j 0)))))))] k_ k_ ?_
  refine RD.new (i := 11) (fun b => .slice (some ⟨b, 0, none⟩) 1 1) (.cells (encv ([((y7, ((numQ (lo.getD j 0)) : Rat)), (y12, (((numQ (lo.getD j 0)) + (absQ (numQ (sz.getD j 0)))) : Rat)))] : List QV)) 43 (0, 0)) k_ k_ k_ k_ (fun w => by kernel_rfl) (fun b13 => ?_)
  refine RD.also (allL elv ([((y7, ((numQ (lo.getD j 0)) : Rat)), (y12, (((numQ (lo.getD j 0)) + (absQ (numQ (sz.getD j 0)))) : Rat)))] : List QV)) (fun w h => allL_cons (And.intro (h _ (.tail _ ((.tail _ ((.tail _ ((.head _)))))))) (h _ (.head _))) (allL_nil _ _)) k_ ?_
  refine RD.ot (i := 12) k_ k_ k_ k_ (ot_lapp (z := .agg #[.bool false, .slice none 0 0, .slice none 0 0, .bool false, .slice none 0 0, .slice none 0 0]) (E := elv) (sz := 6) (T := 31) (e := 43) (by_ := 112) (mi := 0) (b := b13) (k := 1) (c := 1) (x := (.tmp 18)) (y := (.tmp 29)) (go := go) (xs := out) (ys := ([((y7, ((numQ (lo.getD j 0)) : Rat)), (y12, (((numQ (lo.getD j 0)) + (absQ (numQ (sz.getD j 0)))) : Rat)))] : List QV)) [(b13, .cells (encv ([((y7, ((numQ (lo.getD j 0)) : Rat)), (y12, (((numQ (lo.getD j 0)) + (absQ (numQ (sz.getD j 0)))) : Rat)))] : List QV)) 43 (0, 0)), (b8, .cells (ratC y7 (encQ (numQ (lo.getD j 0)))) 40 (0, 0)), (b3, .cells #[sl s lo.length, sl t sz.length] 26 (0, 0))] ([]) rfl rfl rfl k_ k_ k_ k_ k_ k_ rfl rfl (by first | decide | exact Nat.zero_lt_one | simp) (by assumption) x_ x_) (fun g14 hg15 => ?_)
  refine RD.also (allL elv (out ++ ([((y7, ((numQ (lo.getD j 0)) : Rat)), (y12, (((numQ (lo.getD j 0)) + (absQ (numQ (sz.getD j 0)))) : Rat)))] : List QV))) (fun w h => allL_app (h _ (.tail _ ((.tail _ ((.tail _ ((.tail _ ((.tail _ ((.head _)))))))))))) (h _ (.head _))) k_ ?_
  refine RD.bq (nl [13]) [1, 2, 5, 6] [] [(1, .int .i64 ((k : Nat) : Int)), (2, pt b3), (5, sl (glS (some g14)) (out ++ ([((y7, ((numQ (lo.getD j 0)) : Rat)), (y12, (((numQ (lo.getD j 0)) + (absQ (numQ (sz.getD j 0)))) : Rat)))] : List QV)).length), (6, .int .i64 ((j : Nat) : Int))] k_ k_ ?_
  refine RD.done k_ ?_
  refine KN.blk ?_
  refine KN.next ?_
  refine J.regN ?_
  refine RN.bq (no 2) [1, 2, 5, 12] [] 2 [(1, .int .i64 ((k : Nat) : Int)), (2, pt b3), (5, sl (glS (some g14)) (out ++ ([((y7, ((numQ (lo.getD j 0)) : Rat)), (y12, (((numQ (lo.getD j 0)) + (absQ (numQ (sz.getD j 0)))) : Rat)))] : List QV)).length), (12, .int .i64 (IntKind.i64.wrap (((j : Nat) : Int) + 1)))] k_ ?_
  rw [show IntKind.i64.wrap (((j : Nat) : Int) + 1) = ((j + 1 : Nat) : Int) from by rw [IntKind.wrap_i64]; omega]
  refine RN.bq (no 1) [1, 2, 5, 6] [] 3 [(1, .int .i64 ((k : Nat) : Int)), (2, pt b3), (5, sl (glS (some g14)) (out ++ ([((y7, ((numQ (lo.getD j 0)) : Rat)), (y12, (((numQ (lo.getD j 0)) + (absQ (numQ (sz.getD j 0)))) : Rat)))] : List QV)).length), (6, .int .i64 ((j + 1 : Nat) : Int))] k_ ?_
  refine RN.done k_ ?_
  refine KN.dropF 2 ?_
  refine KN.roundE (some g14, out ++ ([((y7, ((numQ (lo.getD j 0)) : Rat)), (y12, (((numQ (lo.getD j 0)) + (absQ (numQ (sz.getD j 0)))) : Rat)))] : List QV), j + 1) [1, 2, 5, 6] [0, 7, 8] (l2 := [(1, .int .i64 ((k : Nat) : Int)), (2, pt b3), (5, sl (glS (some g14)) (out ++ ([((y7, ((numQ (lo.getD j 0)) : Rat)), (y12, (((numQ (lo.getD j 0)) + (absQ (numQ (sz.getD j 0)))) : Rat)))] : List QV)).length), (6, .int .i64 ((j + 1 : Nat) : Int))]) (by (try dsimp only); omega) (by (try dsimp only); exact ⟨by omega, by assumption, by simp; omega, snocP (P := fun j (e : QV) => e.1.2 = (boxE lo sz j).1 ∧ e.2.2 = (boxE lo sz j).2) hI4 (by rw [hI3]; exact ⟨rfl, rfl⟩)⟩) k_ (by rfl) (by rfl) (by rfl)
 ·replace c5 := of_decide_eq_false c5
  refine J.exit (KX.next (KX.next (KX.hit ?_)))
  refine KN.next ?_
  refine J.sreg ?_
  refine RN.bq (no 2) [4] [] 2 [(4, sl (glS go) out.length)] k_ ?_
  refine RN.fin k_ ?_
  refine J.shareG [(b3, .cells #[sl s lo.length, sl t sz.length] 26 (0, 0))] ([]) rfl (fL elv (glS go) out) (fun w hb h => fL_gl hb (h _ (.head _)) (by assumption) x_) ?_
  refine J.ret (KR.ret (v := sl (glS go) out.length) (⟨glS go, out⟩) [none] [0] [] k_ rfl (⟨by show out.length = _; omega, hI4⟩) rfl)
theorem smR1 {p : RA} {v : Rat} (h : Q 100 v) : smR [(p, v)] := fun i hi => by
  match i, hi with
  | 0, _ => exact h
theorem smR2 {p q : RA} {v w : Rat} (h : Q 100 v) (h2 : Q 100 w) : smR [(p, v), (q, w)] := fun i hi => by
  match i, hi with
  | 0, _ => exact h
  | 1, _ => exact h2
theorem smV1 {p q : RA} {v w : Rat} (h : Q 100 v) (h2 : Q 100 w) : smV [((p, v), (q, w))] := fun i hi => by
  match i, hi with
  | 0, _ => exact ⟨h, h2⟩
theorem rows2 {s1 s2 : SA} {p1 p2 : RA} {v w : Rat} {e : QV} (h : Q 100 v) (h2 : Q 100 w) : ∀ i, i < [(s1, [(p1, v)]), (s2, [(p2, w)])].length → (([(s1, [(p1, v)]), (s2, [(p2, w)])] : List QRRow).getD i (saNil, [])).2.length = [e].length ∧ smR (([(s1, [(p1, v)]), (s2, [(p2, w)])] : List QRRow).getD i (saNil, [])).2 := fun i hi => by
  match i, hi with
  | 0, _ => exact ⟨rfl, smR1 h⟩
  | 1, _ => exact ⟨rfl, smR1 h2⟩
theorem boxQ1 {p q : RA} {v w : Rat} (h : Q 100 v) (h2 : Q 100 w) : boxQ [((p, v), (q, w))] := fun i hi => by
  match i, hi with
  | 0, _ => exact ⟨h.le (by decide), h2.le (by decide)⟩
def bnd1 (y v b d : Rat) : Rat :=
  leastQ (loQ (loQ y y - hiQ (mulLo v v (loQ b d) (hiQ b d)) (mulHi v v (loQ b d) (hiQ b d))) (hiQ y y - loQ (mulLo v v (loQ b d) (hiQ b d)) (mulHi v v (loQ b d) (hiQ b d)))) (hiQ (loQ y y - hiQ (mulLo v v (loQ b d) (hiQ b d)) (mulHi v v (loQ b d) (hiQ b d))) (hiQ y y - loQ (mulLo v v (loQ b d) (hiQ b d)) (mulHi v v (loQ b d) (hiQ b d))))
theorem bnd1_eq (p q r : RA) (y v b d : Rat) : bndQ [(p, v)] y [((q, b), (r, d))] = bnd1 y v b d := rfl
theorem bnd1_0 : bnd1 (0 : Rat) ((1 : Int) : Rat) (0 : Rat) ((1 : Int) : Rat) = 0 := by decide +kernel
theorem bnd1_1 : bnd1 ((2 : Int) : Rat) ((1 : Int) : Rat) (0 : Rat) ((1 : Int) : Rat) = ((1 : Int) : Rat) := by decide +kernel
theorem aw_same {ys : List QR} {s1 s2 : SA} {p1 p2 p3 p4 p5 p6 p7 p8 : RA} (h : ys.length = 2 ∧ ∀ i, i < ys.length → (ys.getD i qr0).2 = bndQ (([(s1, [(p1, ((1 : Int) : Rat))]), (s2, [(p2, ((1 : Int) : Rat))])] : List QRRow).getD i (saNil, [])).2 (([(p3, (0 : Rat)), (p4, ((2 : Int) : Rat))] : List QR).getD i qr0).2 [((p5, (0 : Rat)), (p6, ((1 : Int) : Rat)))]) : sameL (rawR ys) (rawR [(p7, (0 : Rat)), (p8, ((1 : Int) : Rat))]) := by
  refine ⟨by rw [rawR_len, h.1]; rfl, fun k hk => ?_⟩
  rw [rawR_len] at hk
  rw [rawR_get hk, h.2 k hk]
  have hk2 : k < 2 := by omega
  match k, hk2 with
  | 0, _ => exact congrArg encQ ((bnd1_eq _ _ _ _ _ _ _).trans bnd1_0)
  | 1, _ => exact congrArg encQ ((bnd1_eq _ _ _ _ _ _ _).trans bnd1_1)
theorem Qi {v : Int} (h : v.natAbs < 18446744073709551616) : Q 100 (v : Rat) := (Q_int h).le (by decide)
theorem Qz : Q 100 (0 : Rat) := Q_0 (by decide)
theorem y_l21_awake {p : Prop} (h : p := by first | omega | assumption | exact Lb_toL _ | (simp; done) | rfl | (show (_ : Nat) ≤ _; decide) | exact rows2 (Qi (by decide)) (Qi (by decide)) | exact smR2 Qz (Qi (by decide)) | exact smV1 Qz (Qi (by decide)) | exact boxQ1 Qz (Qi (by decide)) | (show cel 2 1 ≤ 4096; decide)) : p := h
theorem l21_awake : Spec Tryz.prog 19 #[] [] (ι := Unit) (fun y => .bool true) (fun y => True) (fun y => []) := by
 refine Spec.of_body _ (fn := Tryz.f19) k_ rfl k_ (fun X w0 => ?_)
 refine J.sreg ?_
 refine RN.bq (no 1) [] [] 1 [] k_ ?_
 refine RN.fs k_ ?_
 refine RN.call (r03_FromInt 1 y_l21_awake y_l21_awake) [] k_ k_ k_ rfl (fun y1 _ => ?_)
 refine RN.new (fun b => pt b) (.cells (ratC (⟨saNil, saNil⟩ : RA) (⟨false, ([] : List Nat), ([] : List Nat)⟩ : Raw)) 40 (0, 0)) k_ k_ (fun w => by kernel_rfl) (fun b2 => ?_)
 refine RN.bs [some 0] [1] [b2, b2, b2] 3 [(1, pt b2)] ([(b2, .cells (ratC y1 (encQ ((1 : Int) : Rat))) 40 (0, 0))]) k_ ?_
 refine RN.fin k_ ?_
 refine J.seqC (ι := (Nat) × (Nat) × (Nat) × (RA) × (Nat)) (fun x => True) (fun x => [(1, pt b2), (2, .slice (some ⟨x.2.2.1, 0, none⟩) 2 2), (3, .slice (some ⟨x.2.2.2.2, 0, none⟩) 2 2)]) (fun x => [(x.2.2.2.2, .cells (encr ([((⟨saNil, saNil⟩ : RA), ((0 : Rat) : Rat)), (x.2.2.2.1, (((2 : Int) : Rat) : Rat))] : List QR)) 40 (0, 0)), (x.2.2.1, .cells (encm ([((⟨some ⟨x.1, 0, none⟩, 1⟩ : SA), ([(y1, (((1 : Int) : Rat) : Rat))] : List QR)), ((⟨some ⟨x.2.1, 0, none⟩, 1⟩ : SA), ([(y1, (((1 : Int) : Rat) : Rat))] : List QR))] : List QRRow)) 28 (0, 0)), (b2, .cells (ratC y1 (encQ ((1 : Int) : Rat))) 40 (0, 0))]) (fun x => [fRat x.2.2.2.1 (encQ ((2 : Int) : Rat)), fL elr (⟨some ⟨x.2.1, 0, none⟩, 1⟩ : SA) ([(y1, (((1 : Int) : Rat) : Rat))] : List QR), fBlk x.2.1 (.cells (encr ([(y1, (((1 : Int) : Rat) : Rat))] : List QR)) 40 (0, 0)), fL elr (⟨some ⟨x.1, 0, none⟩, 1⟩ : SA) ([(y1, (((1 : Int) : Rat) : Rat))] : List QR), allL elr ([(y1, (((1 : Int) : Rat) : Rat))] : List QR), fBlk x.1 (.cells (encr ([(y1, (((1 : Int) : Rat) : Rat))] : List QR)) 40 (0, 0)), fRat y1 (encQ ((1 : Int) : Rat))]) ?_ ?_
 ·refine J.regD k_ [] ?_
  refine RD.bq [(0, some 0), (2, some 0), (5, none)] [1, 9, 11, 14] [b2, b2, b2, b2, b2, b2] [(1, pt b2), (9, ratV y1 (encQ ((1 : Int) : Rat))), (11, ratV y1 (encQ ((1 : Int) : Rat))), (14, ratV (⟨saNil, saNil⟩ : RA) (⟨false, ([] : List Nat), ([] : List Nat)⟩ : Raw))] k_ k_ ?_
  refine RD.forkL (is := [1, 3, 6]) k_ rfl k_ ⟨?_, ?_, ?_, trivial⟩
  ·refine RDi.new (i := 1) (fun b => .slice (some ⟨b, 0, none⟩) 1 1) (.cells (encr ([(y1, (((1 : Int) : Rat) : Rat))] : List QR)) 40 (0, 0)) k_ k_ k_ (fun w => by kernel_rfl) (fun b3 => ?_)
   refine RD.forkL (is := [3, 6]) k_ rfl k_ ⟨?_, ?_, trivial⟩
   ·refine RDi.new (i := 3) (fun b => .slice (some ⟨b, 0, none⟩) 1 1) (.cells (encr ([(y1, (((1 : Int) : Rat) : Rat))] : List QR)) 40 (0, 0)) k_ k_ k_ (fun w => by kernel_rfl) (fun b4 => ?_)
    refine RD.share 1 rfl rfl k_ ?_
    refine RD.also (allL elr ([(y1, (((1 : Int) : Rat) : Rat))] : List QR)) (fun w h => allL_cons (h _ (.tail _ ((.head _)))) (allL_nil _ _)) k_ ?_
    refine RD.also (fL elr (⟨some ⟨b3, 0, none⟩, 1⟩ : SA) ([(y1, (((1 : Int) : Rat) : Rat))] : List QR)) (fun w h => fL_own (h _ (.tail _ ((.head _)))) (h _ (.head _)) x_ x_) k_ ?_
    refine RD.turn 10 (v := .slice (some ⟨b3, 0, none⟩) 1 1) (v' := sl (⟨some ⟨b3, 0, none⟩, 1⟩ : SA) ([(y1, (((1 : Int) : Rat) : Rat))] : List QR).length) k_ (sl_eq x_) ?_
    refine RD.share 0 rfl rfl k_ ?_
    refine RD.also (fL elr (⟨some ⟨b4, 0, none⟩, 1⟩ : SA) ([(y1, (((1 : Int) : Rat) : Rat))] : List QR)) (fun w h => fL_own (h _ (.head _)) (h _ (.tail _ ((.tail _ ((.head _)))))) x_ x_) k_ ?_
    refine RD.turn 12 (v := .slice (some ⟨b4, 0, none⟩) 1 1) (v' := sl (⟨some ⟨b4, 0, none⟩, 1⟩ : SA) ([(y1, (((1 : Int) : Rat) : Rat))] : List QR).length) k_ (sl_eq x_) ?_
    refine RD.forkL (is := [4, 6]) k_ rfl k_ ⟨?_, ?_, trivial⟩
    ·refine RDi.new (i := 4) (fun b => .slice (some ⟨b, 0, none⟩) 2 2) (.cells (encm ([((⟨some ⟨b3, 0, none⟩, 1⟩ : SA), ([(y1, (((1 : Int) : Rat) : Rat))] : List QR)), ((⟨some ⟨b4, 0, none⟩, 1⟩ : SA), ([(y1, (((1 : Int) : Rat) : Rat))] : List QR))] : List QRRow)) 28 (0, 0)) k_ k_ k_ (fun w => by kernel_rfl) (fun b5 => ?_)
     refine RD.call (i := 6) (r03_FromInt 2 y_l21_awake y_l21_awake) [] k_ k_ k_ k_ k_ rfl (fun y6 _ => ?_)
     refine RD.bq (nl [8]) [1, 2, 14, 15] [] [(1, pt b2), (2, .slice (some ⟨b5, 0, none⟩) 2 2), (14, ratV (⟨saNil, saNil⟩ : RA) (⟨false, ([] : List Nat), ([] : List Nat)⟩ : Raw)), (15, ratV y6 (encQ ((2 : Int) : Rat)))] k_ k_ ?_
     refine RD.turn 14 (v := ratV (⟨saNil, saNil⟩ : RA) (⟨false, ([] : List Nat), ([] : List Nat)⟩ : Raw)) (v' := ratV (⟨saNil, saNil⟩ : RA) (encQ (0 : Rat))) k_ (by first | (rw [encQ_zero]; done) | (rw [encQ_zero]; rfl)) ?_
     refine RD.new (i := 7) (fun b => .slice (some ⟨b, 0, none⟩) 2 2) (.cells (encr ([((⟨saNil, saNil⟩ : RA), ((0 : Rat) : Rat)), (y6, (((2 : Int) : Rat) : Rat))] : List QR)) 40 (0, 0)) k_ k_ k_ k_ (fun w => by kernel_rfl) (fun b7 => ?_)
     refine RD.bq (nl [9]) [1, 2, 3] [] [(1, pt b2), (2, .slice (some ⟨b5, 0, none⟩) 2 2), (3, .slice (some ⟨b7, 0, none⟩) 2 2)] k_ k_ ?_
     refine RD.done k_ ?_
     refine KN.meet (b3, b4, b5, y6, b7) [1, 2, 3] [0, 1, 2, 3, 4, 5, 6] (l2 := [(1, pt b2), (2, .slice (some ⟨b5, 0, none⟩) 2 2), (3, .slice (some ⟨b7, 0, none⟩) 2 2)]) (by exact trivial) k_ (by rfl) (by rfl) (by rfl)
    ·refine RDi.call (i := 6) (r03_FromInt 2 y_l21_awake y_l21_awake) [] k_ k_ k_ k_ rfl (fun y8 _ => ?_)
     refine RD.turn 14 (v := ratV (⟨saNil, saNil⟩ : RA) (⟨false, ([] : List Nat), ([] : List Nat)⟩ : Raw)) (v' := ratV (⟨saNil, saNil⟩ : RA) (encQ (0 : Rat))) k_ (by first | (rw [encQ_zero]; done) | (rw [encQ_zero]; rfl)) ?_
     refine RD.forkL (is := [4, 7]) k_ rfl k_ ⟨?_, ?_, trivial⟩
     ·refine RDi.new (i := 4) (fun b => .slice (some ⟨b, 0, none⟩) 2 2) (.cells (encm ([((⟨some ⟨b3, 0, none⟩, 1⟩ : SA), ([(y1, (((1 : Int) : Rat) : Rat))] : List QR)), ((⟨some ⟨b4, 0, none⟩, 1⟩ : SA), ([(y1, (((1 : Int) : Rat) : Rat))] : List QR))] : List QRRow)) 28 (0, 0)) k_ k_ k_ (fun w => by kernel_rfl) (fun b9 => ?_)
      refine RD.bq (nl [8]) [1, 2, 14, 15] [] [(1, pt b2), (2, .slice (some ⟨b9, 0, none⟩) 2 2), (14, ratV (⟨saNil, saNil⟩ : RA) (encQ (0 : Rat))), (15, ratV y8 (encQ ((2 : Int) : Rat)))] k_ k_ ?_
      refine RD.new (i := 7) (fun b => .slice (some ⟨b, 0, none⟩) 2 2) (.cells (encr ([((⟨saNil, saNil⟩ : RA), ((0 : Rat) : Rat)), (y8, (((2 : Int) : Rat) : Rat))] : List QR)) 40 (0, 0)) k_ k_ k_ k_ (fun w => by kernel_rfl) (fun b10 => ?_)
      refine RD.bq (nl [9]) [1, 2, 3] [] [(1, pt b2), (2, .slice (some ⟨b9, 0, none⟩) 2 2), (3, .slice (some ⟨b10, 0, none⟩) 2 2)] k_ k_ ?_
      refine RD.done k_ ?_
      refine KN.meet (b3, b4, b9, y8, b10) [1, 2, 3] [0, 1, 2, 3, 4, 5, 6] (l2 := [(1, pt b2), (2, .slice (some ⟨b9, 0, none⟩) 2 2), (3, .slice (some ⟨b10, 0, none⟩) 2 2)]) (by exact trivial) k_ (by rfl) (by rfl) (by rfl)
     ·refine RDi.new (i := 7) (fun b => .slice (some ⟨b, 0, none⟩) 2 2) (.cells (encr ([((⟨saNil, saNil⟩ : RA), ((0 : Rat) : Rat)), (y8, (((2 : Int) : Rat) : Rat))] : List QR)) 40 (0, 0)) k_ k_ k_ (fun w => by kernel_rfl) (fun b11 => ?_)
      refine RD.new (i := 4) (fun b => .slice (some ⟨b, 0, none⟩) 2 2) (.cells (encm ([((⟨some ⟨b3, 0, none⟩, 1⟩ : SA), ([(y1, (((1 : Int) : Rat) : Rat))] : List QR)), ((⟨some ⟨b4, 0, none⟩, 1⟩ : SA), ([(y1, (((1 : Int) : Rat) : Rat))] : List QR))] : List QRRow)) 28 (0, 0)) k_ k_ k_ k_ (fun w => by kernel_rfl) (fun b12 => ?_)
      refine RD.bq (nl [8, 9]) [1, 2, 3] [] [(1, pt b2), (2, .slice (some ⟨b12, 0, none⟩) 2 2), (3, .slice (some ⟨b11, 0, none⟩) 2 2)] k_ k_ ?_
      refine RD.done k_ ?_
      refine KN.pickB [(b12, .cells (encm ([((⟨some ⟨b3, 0, none⟩, 1⟩ : SA), ([(y1, (((1 : Int) : Rat) : Rat))] : List QR)), ((⟨some ⟨b4, 0, none⟩, 1⟩ : SA), ([(y1, (((1 : Int) : Rat) : Rat))] : List QR))] : List QRRow)) 28 (0, 0)), (b11, .cells (encr ([((⟨saNil, saNil⟩ : RA), ((0 : Rat) : Rat)), (y8, (((2 : Int) : Rat) : Rat))] : List QR)) 40 (0, 0)), (b2, .cells (ratC y1 (encQ ((1 : Int) : Rat))) 40 (0, 0))] ([]) [1, 0, 2] rfl k_ (M' := [(b11, .cells (encr ([((⟨saNil, saNil⟩ : RA), ((0 : Rat) : Rat)), (y8, (((2 : Int) : Rat) : Rat))] : List QR)) 40 (0, 0)), (b12, .cells (encm ([((⟨some ⟨b3, 0, none⟩, 1⟩ : SA), ([(y1, (((1 : Int) : Rat) : Rat))] : List QR)), ((⟨some ⟨b4, 0, none⟩, 1⟩ : SA), ([(y1, (((1 : Int) : Rat) : Rat))] : List QR))] : List QRRow)) 28 (0, 0)), (b2, .cells (ratC y1 (encQ ((1 : Int) : Rat))) 40 (0, 0))]) rfl ?_
      refine KN.meet (b3, b4, b12, y8, b11) [1, 2, 3] [0, 1, 2, 3, 4, 5, 6] (l2 := [(1, pt b2), (2, .slice (some ⟨b12, 0, none⟩) 2 2), (3, .slice (some ⟨b11, 0, none⟩) 2 2)]) (by exact trivial) k_ (by rfl) (by rfl) (by rfl)
   ·refine RDi.call (i := 6) (r03_FromInt 2 y_l21_awake y_l21_awake) [] k_ k_ k_ k_ rfl (fun y13 _ => ?_)
    refine RD.turn 14 (v := ratV (⟨saNil, saNil⟩ : RA) (⟨false, ([] : List Nat), ([] : List Nat)⟩ : Raw)) (v' := ratV (⟨saNil, saNil⟩ : RA) (encQ (0 : Rat))) k_ (by first | (rw [encQ_zero]; done) | (rw [encQ_zero]; rfl)) ?_
    refine RD.forkL (is := [3, 7]) k_ rfl k_ ⟨?_, ?_, trivial⟩
    ·refine RDi.new (i := 3) (fun b => .slice (some ⟨b, 0, none⟩) 1 1) (.cells (encr ([(y1, (((1 : Int) : Rat) : Rat))] : List QR)) 40 (0, 0)) k_ k_ k_ (fun w => by kernel_rfl) (fun b14 => ?_)
     refine RD.share 1 rfl rfl k_ ?_
     refine RD.also (allL elr ([(y1, (((1 : Int) : Rat) : Rat))] : List QR)) (fun w h => allL_cons (h _ (.tail _ ((.tail _ ((.head _)))))) (allL_nil _ _)) k_ ?_
     refine RD.also (fL elr (⟨some ⟨b3, 0, none⟩, 1⟩ : SA) ([(y1, (((1 : Int) : Rat) : Rat))] : List QR)) (fun w h => fL_own (h _ (.tail _ ((.head _)))) (h _ (.head _)) x_ x_) k_ ?_
     refine RD.turn 10 (v := .slice (some ⟨b3, 0, none⟩) 1 1) (v' := sl (⟨some ⟨b3, 0, none⟩, 1⟩ : SA) ([(y1, (((1 : Int) : Rat) : Rat))] : List QR).length) k_ (sl_eq x_) ?_
     refine RD.share 0 rfl rfl k_ ?_
     refine RD.also (fL elr (⟨some ⟨b14, 0, none⟩, 1⟩ : SA) ([(y1, (((1 : Int) : Rat) : Rat))] : List QR)) (fun w h => fL_own (h _ (.head _)) (h _ (.tail _ ((.tail _ ((.head _)))))) x_ x_) k_ ?_
     refine RD.turn 12 (v := .slice (some ⟨b14, 0, none⟩) 1 1) (v' := sl (⟨some ⟨b14, 0, none⟩, 1⟩ : SA) ([(y1, (((1 : Int) : Rat) : Rat))] : List QR).length) k_ (sl_eq x_) ?_
     refine RD.forkL (is := [4, 7]) k_ rfl k_ ⟨?_, ?_, trivial⟩
     ·refine RDi.new (i := 4) (fun b => .slice (some ⟨b, 0, none⟩) 2 2) (.cells (encm ([((⟨some ⟨b3, 0, none⟩, 1⟩ : SA), ([(y1, (((1 : Int) : Rat) : Rat))] : List QR)), ((⟨some ⟨b14, 0, none⟩, 1⟩ : SA), ([(y1, (((1 : Int) : Rat) : Rat))] : List QR))] : List QRRow)) 28 (0, 0)) k_ k_ k_ (fun w => by kernel_rfl) (fun b15 => ?_)
      refine RD.bq (nl [8]) [1, 2, 14, 15] [] [(1, pt b2), (2, .slice (some ⟨b15, 0, none⟩) 2 2), (14, ratV (⟨saNil, saNil⟩ : RA) (encQ (0 : Rat))), (15, ratV y13 (encQ ((2 : Int) : Rat)))] k_ k_ ?_
      refine RD.new (i := 7) (fun b => .slice (some ⟨b, 0, none⟩) 2 2) (.cells (encr ([((⟨saNil, saNil⟩ : RA), ((0 : Rat) : Rat)), (y13, (((2 : Int) : Rat) : Rat))] : List QR)) 40 (0, 0)) k_ k_ k_ k_ (fun w => by kernel_rfl) (fun b16 => ?_)
      refine RD.bq (nl [9]) [1, 2, 3] [] [(1, pt b2), (2, .slice (some ⟨b15, 0, none⟩) 2 2), (3, .slice (some ⟨b16, 0, none⟩) 2 2)] k_ k_ ?_
      refine RD.done k_ ?_
      refine KN.meet (b3, b14, b15, y13, b16) [1, 2, 3] [5, 0, 1, 2, 3, 4, 6] (l2 := [(1, pt b2), (2, .slice (some ⟨b15, 0, none⟩) 2 2), (3, .slice (some ⟨b16, 0, none⟩) 2 2)]) (by exact trivial) k_ (by rfl) (by rfl) (by rfl)
     ·refine RDi.new (i := 7) (fun b => .slice (some ⟨b, 0, none⟩) 2 2) (.cells (encr ([((⟨saNil, saNil⟩ : RA), ((0 : Rat) : Rat)), (y13, (((2 : Int) : Rat) : Rat))] : List QR)) 40 (0, 0)) k_ k_ k_ (fun w => by kernel_rfl) (fun b17 => ?_)
      refine RD.new (i := 4) (fun b => .slice (some ⟨b, 0, none⟩) 2 2) (.cells (encm ([((⟨some ⟨b3, 0, none⟩, 1⟩ : SA), ([(y1, (((1 : Int) : Rat) : Rat))] : List QR)), ((⟨some ⟨b14, 0, none⟩, 1⟩ : SA), ([(y1, (((1 : Int) : Rat) : Rat))] : List QR))] : List QRRow)) 28 (0, 0)) k_ k_ k_ k_ (fun w => by kernel_rfl) (fun b18 => ?_)
      refine RD.bq (nl [8, 9]) [1, 2, 3] [] [(1, pt b2), (2, .slice (some ⟨b18, 0, none⟩) 2 2), (3, .slice (some ⟨b17, 0, none⟩) 2 2)] k_ k_ ?_
      refine RD.done k_ ?_
      refine KN.pickB [(b18, .cells (encm ([((⟨some ⟨b3, 0, none⟩, 1⟩ : SA), ([(y1, (((1 : Int) : Rat) : Rat))] : List QR)), ((⟨some ⟨b14, 0, none⟩, 1⟩ : SA), ([(y1, (((1 : Int) : Rat) : Rat))] : List QR))] : List QRRow)) 28 (0, 0)), (b17, .cells (encr ([((⟨saNil, saNil⟩ : RA), ((0 : Rat) : Rat)), (y13, (((2 : Int) : Rat) : Rat))] : List QR)) 40 (0, 0)), (b2, .cells (ratC y1 (encQ ((1 : Int) : Rat))) 40 (0, 0))] ([]) [1, 0, 2] rfl k_ (M' := [(b17, .cells (encr ([((⟨saNil, saNil⟩ : RA), ((0 : Rat) : Rat)), (y13, (((2 : Int) : Rat) : Rat))] : List QR)) 40 (0, 0)), (b18, .cells (encm ([((⟨some ⟨b3, 0, none⟩, 1⟩ : SA), ([(y1, (((1 : Int) : Rat) : Rat))] : List QR)), ((⟨some ⟨b14, 0, none⟩, 1⟩ : SA), ([(y1, (((1 : Int) : Rat) : Rat))] : List QR))] : List QRRow)) 28 (0, 0)), (b2, .cells (ratC y1 (encQ ((1 : Int) : Rat))) 40 (0, 0))]) rfl ?_
      refine KN.meet (b3, b14, b18, y13, b17) [1, 2, 3] [5, 0, 1, 2, 3, 4, 6] (l2 := [(1, pt b2), (2, .slice (some ⟨b18, 0, none⟩) 2 2), (3, .slice (some ⟨b17, 0, none⟩) 2 2)]) (by exact trivial) k_ (by rfl) (by rfl) (by rfl)
    ·refine RDi.new (i := 7) (fun b => .slice (some ⟨b, 0, none⟩) 2 2) (.cells (encr ([((⟨saNil, saNil⟩ : RA), ((0 : Rat) : Rat)), (y13, (((2 : Int) : Rat) : Rat))] : List QR)) 40 (0, 0)) k_ k_ k_ (fun w => by kernel_rfl) (fun b19 => ?_)
     refine RD.new (i := 3) (fun b => .slice (some ⟨b, 0, none⟩) 1 1) (.cells (encr ([(y1, (((1 : Int) : Rat) : Rat))] : List QR)) 40 (0, 0)) k_ k_ k_ k_ (fun w => by kernel_rfl) (fun b20 => ?_)
     refine RD.share 2 rfl rfl k_ ?_
     refine RD.also (allL elr ([(y1, (((1 : Int) : Rat) : Rat))] : List QR)) (fun w h => allL_cons (h _ (.tail _ ((.tail _ ((.head _)))))) (allL_nil _ _)) k_ ?_
     refine RD.also (fL elr (⟨some ⟨b3, 0, none⟩, 1⟩ : SA) ([(y1, (((1 : Int) : Rat) : Rat))] : List QR)) (fun w h => fL_own (h _ (.tail _ ((.head _)))) (h _ (.head _)) x_ x_) k_ ?_
     refine RD.turn 10 (v := .slice (some ⟨b3, 0, none⟩) 1 1) (v' := sl (⟨some ⟨b3, 0, none⟩, 1⟩ : SA) ([(y1, (((1 : Int) : Rat) : Rat))] : List QR).length) k_ (sl_eq x_) ?_
     refine RD.share 0 rfl rfl k_ ?_
     refine RD.also (fL elr (⟨some ⟨b20, 0, none⟩, 1⟩ : SA) ([(y1, (((1 : Int) : Rat) : Rat))] : List QR)) (fun w h => fL_own (h _ (.head _)) (h _ (.tail _ ((.tail _ ((.head _)))))) x_ x_) k_ ?_
     refine RD.turn 12 (v := .slice (some ⟨b20, 0, none⟩) 1 1) (v' := sl (⟨some ⟨b20, 0, none⟩, 1⟩ : SA) ([(y1, (((1 : Int) : Rat) : Rat))] : List QR).length) k_ (sl_eq x_) ?_
     refine RD.new (i := 4) (fun b => .slice (some ⟨b, 0, none⟩) 2 2) (.cells (encm ([((⟨some ⟨b3, 0, none⟩, 1⟩ : SA), ([(y1, (((1 : Int) : Rat) : Rat))] : List QR)), ((⟨some ⟨b20, 0, none⟩, 1⟩ : SA), ([(y1, (((1 : Int) : Rat) : Rat))] : List QR))] : List QRRow)) 28 (0, 0)) k_ k_ k_ k_ (fun w => by kernel_rfl) (fun b21 => ?_)
     refine RD.bq (nl [8, 9]) [1, 2, 3] [] [(1, pt b2), (2, .slice (some ⟨b21, 0, none⟩) 2 2), (3, .slice (some ⟨b19, 0, none⟩) 2 2)] k_ k_ ?_
     refine RD.done k_ ?_
     refine KN.pickB [(b21, .cells (encm ([((⟨some ⟨b3, 0, none⟩, 1⟩ : SA), ([(y1, (((1 : Int) : Rat) : Rat))] : List QR)), ((⟨some ⟨b20, 0, none⟩, 1⟩ : SA), ([(y1, (((1 : Int) : Rat) : Rat))] : List QR))] : List QRRow)) 28 (0, 0)), (b19, .cells (encr ([((⟨saNil, saNil⟩ : RA), ((0 : Rat) : Rat)), (y13, (((2 : Int) : Rat) : Rat))] : List QR)) 40 (0, 0)), (b2, .cells (ratC y1 (encQ ((1 : Int) : Rat))) 40 (0, 0))] ([]) [1, 0, 2] rfl k_ (M' := [(b19, .cells (encr ([((⟨saNil, saNil⟩ : RA), ((0 : Rat) : Rat)), (y13, (((2 : Int) : Rat) : Rat))] : List QR)) 40 (0, 0)), (b21, .cells (encm ([((⟨some ⟨b3, 0, none⟩, 1⟩ : SA), ([(y1, (((1 : Int) : Rat) : Rat))] : List QR)), ((⟨some ⟨b20, 0, none⟩, 1⟩ : SA), ([(y1, (((1 : Int) : Rat) : Rat))] : List QR))] : List QRRow)) 28 (0, 0)), (b2, .cells (ratC y1 (encQ ((1 : Int) : Rat))) 40 (0, 0))]) rfl ?_
     refine KN.meet (b3, b20, b21, y13, b19) [1, 2, 3] [5, 0, 1, 2, 3, 4, 6] (l2 := [(1, pt b2), (2, .slice (some ⟨b21, 0, none⟩) 2 2), (3, .slice (some ⟨b19, 0, none⟩) 2 2)]) (by exact trivial) k_ (by rfl) (by rfl) (by rfl)
  ·refine RDi.new (i := 3) (fun b => .slice (some ⟨b, 0, none⟩) 1 1) (.cells (encr ([(y1, (((1 : Int) : Rat) : Rat))] : List QR)) 40 (0, 0)) k_ k_ k_ (fun w => by kernel_rfl) (fun b22 => ?_)
   refine RD.forkL (is := [1, 6]) k_ rfl k_ ⟨?_, ?_, trivial⟩
   ·refine RDi.new (i := 1) (fun b => .slice (some ⟨b, 0, none⟩) 1 1) (.cells (encr ([(y1, (((1 : Int) : Rat) : Rat))] : List QR)) 40 (0, 0)) k_ k_ k_ (fun w => by kernel_rfl) (fun b23 => ?_)
    refine RD.share 0 rfl rfl k_ ?_
    refine RD.also (allL elr ([(y1, (((1 : Int) : Rat) : Rat))] : List QR)) (fun w h => allL_cons (h _ (.tail _ ((.head _)))) (allL_nil _ _)) k_ ?_
    refine RD.also (fL elr (⟨some ⟨b23, 0, none⟩, 1⟩ : SA) ([(y1, (((1 : Int) : Rat) : Rat))] : List QR)) (fun w h => fL_own (h _ (.tail _ ((.head _)))) (h _ (.head _)) x_ x_) k_ ?_
    refine RD.turn 10 (v := .slice (some ⟨b23, 0, none⟩) 1 1) (v' := sl (⟨some ⟨b23, 0, none⟩, 1⟩ : SA) ([(y1, (((1 : Int) : Rat) : Rat))] : List QR).length) k_ (sl_eq x_) ?_
    refine RD.share 0 rfl rfl k_ ?_
    refine RD.also (fL elr (⟨some ⟨b22, 0, none⟩, 1⟩ : SA) ([(y1, (((1 : Int) : Rat) : Rat))] : List QR)) (fun w h => fL_own (h _ (.head _)) (h _ (.tail _ ((.tail _ ((.head _)))))) x_ x_) k_ ?_
    refine RD.turn 12 (v := .slice (some ⟨b22, 0, none⟩) 1 1) (v' := sl (⟨some ⟨b22, 0, none⟩, 1⟩ : SA) ([(y1, (((1 : Int) : Rat) : Rat))] : List QR).length) k_ (sl_eq x_) ?_
    refine RD.forkL (is := [4, 6]) k_ rfl k_ ⟨?_, ?_, trivial⟩
    ·refine RDi.new (i := 4) (fun b => .slice (some ⟨b, 0, none⟩) 2 2) (.cells (encm ([((⟨some ⟨b23, 0, none⟩, 1⟩ : SA), ([(y1, (((1 : Int) : Rat) : Rat))] : List QR)), ((⟨some ⟨b22, 0, none⟩, 1⟩ : SA), ([(y1, (((1 : Int) : Rat) : Rat))] : List QR))] : List QRRow)) 28 (0, 0)) k_ k_ k_ (fun w => by kernel_rfl) (fun b24 => ?_)
     refine RD.call (i := 6) (r03_FromInt 2 y_l21_awake y_l21_awake) [] k_ k_ k_ k_ k_ rfl (fun y25 _ => ?_)
     refine RD.bq (nl [8]) [1, 2, 14, 15] [] [(1, pt b2), (2, .slice (some ⟨b24, 0, none⟩) 2 2), (14, ratV (⟨saNil, saNil⟩ : RA) (⟨false, ([] : List Nat), ([] : List Nat)⟩ : Raw)), (15, ratV y25 (encQ ((2 : Int) : Rat)))] k_ k_ ?_
     refine RD.turn 14 (v := ratV (⟨saNil, saNil⟩ : RA) (⟨false, ([] : List Nat), ([] : List Nat)⟩ : Raw)) (v' := ratV (⟨saNil, saNil⟩ : RA) (encQ (0 : Rat))) k_ (by first | (rw [encQ_zero]; done) | (rw [encQ_zero]; rfl)) ?_
     refine RD.new (i := 7) (fun b => .slice (some ⟨b, 0, none⟩) 2 2) (.cells (encr ([((⟨saNil, saNil⟩ : RA), ((0 : Rat) : Rat)), (y25, (((2 : Int) : Rat) : Rat))] : List QR)) 40 (0, 0)) k_ k_ k_ k_ (fun w => by kernel_rfl) (fun b26 => ?_)
     refine RD.bq (nl [9]) [1, 2, 3] [] [(1, pt b2), (2, .slice (some ⟨b24, 0, none⟩) 2 2), (3, .slice (some ⟨b26, 0, none⟩) 2 2)] k_ k_ ?_
     refine RD.done k_ ?_
     refine KN.meet (b23, b22, b24, y25, b26) [1, 2, 3] [0, 1, 2, 3, 4, 5, 6] (l2 := [(1, pt b2), (2, .slice (some ⟨b24, 0, none⟩) 2 2), (3, .slice (some ⟨b26, 0, none⟩) 2 2)]) (by exact trivial) k_ (by rfl) (by rfl) (by rfl)
    ·refine RDi.call (i := 6) (r03_FromInt 2 y_l21_awake y_l21_awake) [] k_ k_ k_ k_ rfl (fun y27 _ => ?_)
     refine RD.turn 14 (v := ratV (⟨saNil, saNil⟩ : RA) (⟨false, ([] : List Nat), ([] : List Nat)⟩ : Raw)) (v' := ratV (⟨saNil, saNil⟩ : RA) (encQ (0 : Rat))) k_ (by first | (rw [encQ_zero]; done) | (rw [encQ_zero]; rfl)) ?_
     refine RD.forkL (is := [4, 7]) k_ rfl k_ ⟨?_, ?_, trivial⟩
     ·refine RDi.new (i := 4) (fun b => .slice (some ⟨b, 0, none⟩) 2 2) (.cells (encm ([((⟨some ⟨b23, 0, none⟩, 1⟩ : SA), ([(y1, (((1 : Int) : Rat) : Rat))] : List QR)), ((⟨some ⟨b22, 0, none⟩, 1⟩ : SA), ([(y1, (((1 : Int) : Rat) : Rat))] : List QR))] : List QRRow)) 28 (0, 0)) k_ k_ k_ (fun w => by kernel_rfl) (fun b28 => ?_)
      refine RD.bq (nl [8]) [1, 2, 14, 15] [] [(1, pt b2), (2, .slice (some ⟨b28, 0, none⟩) 2 2), (14, ratV (⟨saNil, saNil⟩ : RA) (encQ (0 : Rat))), (15, ratV y27 (encQ ((2 : Int) : Rat)))] k_ k_ ?_
      refine RD.new (i := 7) (fun b => .slice (some ⟨b, 0, none⟩) 2 2) (.cells (encr ([((⟨saNil, saNil⟩ : RA), ((0 : Rat) : Rat)), (y27, (((2 : Int) : Rat) : Rat))] : List QR)) 40 (0, 0)) k_ k_ k_ k_ (fun w => by kernel_rfl) (fun b29 => ?_)
      refine RD.bq (nl [9]) [1, 2, 3] [] [(1, pt b2), (2, .slice (some ⟨b28, 0, none⟩) 2 2), (3, .slice (some ⟨b29, 0, none⟩) 2 2)] k_ k_ ?_
      refine RD.done k_ ?_
      refine KN.meet (b23, b22, b28, y27, b29) [1, 2, 3] [0, 1, 2, 3, 4, 5, 6] (l2 := [(1, pt b2), (2, .slice (some ⟨b28, 0, none⟩) 2 2), (3, .slice (some ⟨b29, 0, none⟩) 2 2)]) (by exact trivial) k_ (by rfl) (by rfl) (by rfl)
     ·refine RDi.new (i := 7) (fun b => .slice (some ⟨b, 0, none⟩) 2 2) (.cells (encr ([((⟨saNil, saNil⟩ : RA), ((0 : Rat) : Rat)), (y27, (((2 : Int) : Rat) : Rat))] : List QR)) 40 (0, 0)) k_ k_ k_ (fun w => by kernel_rfl) (fun b30 => ?_)
      refine RD.new (i := 4) (fun b => .slice (some ⟨b, 0, none⟩) 2 2) (.cells (encm ([((⟨some ⟨b23, 0, none⟩, 1⟩ : SA), ([(y1, (((1 : Int) : Rat) : Rat))] : List QR)), ((⟨some ⟨b22, 0, none⟩, 1⟩ : SA), ([(y1, (((1 : Int) : Rat) : Rat))] : List QR))] : List QRRow)) 28 (0, 0)) k_ k_ k_ k_ (fun w => by kernel_rfl) (fun b31 => ?_)
      refine RD.bq (nl [8, 9]) [1, 2, 3] [] [(1, pt b2), (2, .slice (some ⟨b31, 0, none⟩) 2 2), (3, .slice (some ⟨b30, 0, none⟩) 2 2)] k_ k_ ?_
      refine RD.done k_ ?_
      refine KN.pickB [(b31, .cells (encm ([((⟨some ⟨b23, 0, none⟩, 1⟩ : SA), ([(y1, (((1 : Int) : Rat) : Rat))] : List QR)), ((⟨some ⟨b22, 0, none⟩, 1⟩ : SA), ([(y1, (((1 : Int) : Rat) : Rat))] : List QR))] : List QRRow)) 28 (0, 0)), (b30, .cells (encr ([((⟨saNil, saNil⟩ : RA), ((0 : Rat) : Rat)), (y27, (((2 : Int) : Rat) : Rat))] : List QR)) 40 (0, 0)), (b2, .cells (ratC y1 (encQ ((1 : Int) : Rat))) 40 (0, 0))] ([]) [1, 0, 2] rfl k_ (M' := [(b30, .cells (encr ([((⟨saNil, saNil⟩ : RA), ((0 : Rat) : Rat)), (y27, (((2 : Int) : Rat) : Rat))] : List QR)) 40 (0, 0)), (b31, .cells (encm ([((⟨some ⟨b23, 0, none⟩, 1⟩ : SA), ([(y1, (((1 : Int) : Rat) : Rat))] : List QR)), ((⟨some ⟨b22, 0, none⟩, 1⟩ : SA), ([(y1, (((1 : Int) : Rat) : Rat))] : List QR))] : List QRRow)) 28 (0, 0)), (b2, .cells (ratC y1 (encQ ((1 : Int) : Rat))) 40 (0, 0))]) rfl ?_
      refine KN.meet (b23, b22, b31, y27, b30) [1, 2, 3] [0, 1, 2, 3, 4, 5, 6] (l2 := [(1, pt b2), (2, .slice (some ⟨b31, 0, none⟩) 2 2), (3, .slice (some ⟨b30, 0, none⟩) 2 2)]) (by exact trivial) k_ (by rfl) (by rfl) (by rfl)
   ·refine RDi.call (i := 6) (r03_FromInt 2 y_l21_awake y_l21_awake) [] k_ k_ k_ k_ rfl (fun y32 _ => ?_)
    refine RD.turn 14 (v := ratV (⟨saNil, saNil⟩ : RA) (⟨false, ([] : List Nat), ([] : List Nat)⟩ : Raw)) (v' := ratV (⟨saNil, saNil⟩ : RA) (encQ (0 : Rat))) k_ (by first | (rw [encQ_zero]; done) | (rw [encQ_zero]; rfl)) ?_
    refine RD.forkL (is := [1, 7]) k_ rfl k_ ⟨?_, ?_, trivial⟩
    ·refine RDi.new (i := 1) (fun b => .slice (some ⟨b, 0, none⟩) 1 1) (.cells (encr ([(y1, (((1 : Int) : Rat) : Rat))] : List QR)) 40 (0, 0)) k_ k_ k_ (fun w => by kernel_rfl) (fun b33 => ?_)
     refine RD.share 0 rfl rfl k_ ?_
     refine RD.also (allL elr ([(y1, (((1 : Int) : Rat) : Rat))] : List QR)) (fun w h => allL_cons (h _ (.tail _ ((.tail _ ((.head _)))))) (allL_nil _ _)) k_ ?_
     refine RD.also (fL elr (⟨some ⟨b33, 0, none⟩, 1⟩ : SA) ([(y1, (((1 : Int) : Rat) : Rat))] : List QR)) (fun w h => fL_own (h _ (.tail _ ((.head _)))) (h _ (.head _)) x_ x_) k_ ?_
     refine RD.turn 10 (v := .slice (some ⟨b33, 0, none⟩) 1 1) (v' := sl (⟨some ⟨b33, 0, none⟩, 1⟩ : SA) ([(y1, (((1 : Int) : Rat) : Rat))] : List QR).length) k_ (sl_eq x_) ?_
     refine RD.share 0 rfl rfl k_ ?_
     refine RD.also (fL elr (⟨some ⟨b22, 0, none⟩, 1⟩ : SA) ([(y1, (((1 : Int) : Rat) : Rat))] : List QR)) (fun w h => fL_own (h _ (.head _)) (h _ (.tail _ ((.tail _ ((.head _)))))) x_ x_) k_ ?_
     refine RD.turn 12 (v := .slice (some ⟨b22, 0, none⟩) 1 1) (v' := sl (⟨some ⟨b22, 0, none⟩, 1⟩ : SA) ([(y1, (((1 : Int) : Rat) : Rat))] : List QR).length) k_ (sl_eq x_) ?_
     refine RD.forkL (is := [4, 7]) k_ rfl k_ ⟨?_, ?_, trivial⟩
     ·refine RDi.new (i := 4) (fun b => .slice (some ⟨b, 0, none⟩) 2 2) (.cells (encm ([((⟨some ⟨b33, 0, none⟩, 1⟩ : SA), ([(y1, (((1 : Int) : Rat) : Rat))] : List QR)), ((⟨some ⟨b22, 0, none⟩, 1⟩ : SA), ([(y1, (((1 : Int) : Rat) : Rat))] : List QR))] : List QRRow)) 28 (0, 0)) k_ k_ k_ (fun w => by kernel_rfl) (fun b34 => ?_)
      refine RD.bq (nl [8]) [1, 2, 14, 15] [] [(1, pt b2), (2, .slice (some ⟨b34, 0, none⟩) 2 2), (14, ratV (⟨saNil, saNil⟩ : RA) (encQ (0 : Rat))), (15, ratV y32 (encQ ((2 : Int) : Rat)))] k_ k_ ?_
      refine RD.new (i := 7) (fun b => .slice (some ⟨b, 0, none⟩) 2 2) (.cells (encr ([((⟨saNil, saNil⟩ : RA), ((0 : Rat) : Rat)), (y32, (((2 : Int) : Rat) : Rat))] : List QR)) 40 (0, 0)) k_ k_ k_ k_ (fun w => by kernel_rfl) (fun b35 => ?_)
      refine RD.bq (nl [9]) [1, 2, 3] [] [(1, pt b2), (2, .slice (some ⟨b34, 0, none⟩) 2 2), (3, .slice (some ⟨b35, 0, none⟩) 2 2)] k_ k_ ?_
      refine RD.done k_ ?_
      refine KN.meet (b33, b22, b34, y32, b35) [1, 2, 3] [5, 0, 1, 2, 3, 4, 6] (l2 := [(1, pt b2), (2, .slice (some ⟨b34, 0, none⟩) 2 2), (3, .slice (some ⟨b35, 0, none⟩) 2 2)]) (by exact trivial) k_ (by rfl) (by rfl) (by rfl)
     ·refine RDi.new (i := 7) (fun b => .slice (some ⟨b, 0, none⟩) 2 2) (.cells (encr ([((⟨saNil, saNil⟩ : RA), ((0 : Rat) : Rat)), (y32, (((2 : Int) : Rat) : Rat))] : List QR)) 40 (0, 0)) k_ k_ k_ (fun w => by kernel_rfl) (fun b36 => ?_)
      refine RD.new (i := 4) (fun b => .slice (some ⟨b, 0, none⟩) 2 2) (.cells (encm ([((⟨some ⟨b33, 0, none⟩, 1⟩ : SA), ([(y1, (((1 : Int) : Rat) : Rat))] : List QR)), ((⟨some ⟨b22, 0, none⟩, 1⟩ : SA), ([(y1, (((1 : Int) : Rat) : Rat))] : List QR))] : List QRRow)) 28 (0, 0)) k_ k_ k_ k_ (fun w => by kernel_rfl) (fun b37 => ?_)
      refine RD.bq (nl [8, 9]) [1, 2, 3] [] [(1, pt b2), (2, .slice (some ⟨b37, 0, none⟩) 2 2), (3, .slice (some ⟨b36, 0, none⟩) 2 2)] k_ k_ ?_
      refine RD.done k_ ?_
      refine KN.pickB [(b37, .cells (encm ([((⟨some ⟨b33, 0, none⟩, 1⟩ : SA), ([(y1, (((1 : Int) : Rat) : Rat))] : List QR)), ((⟨some ⟨b22, 0, none⟩, 1⟩ : SA), ([(y1, (((1 : Int) : Rat) : Rat))] : List QR))] : List QRRow)) 28 (0, 0)), (b36, .cells (encr ([((⟨saNil, saNil⟩ : RA), ((0 : Rat) : Rat)), (y32, (((2 : Int) : Rat) : Rat))] : List QR)) 40 (0, 0)), (b2, .cells (ratC y1 (encQ ((1 : Int) : Rat))) 40 (0, 0))] ([]) [1, 0, 2] rfl k_ (M' := [(b36, .cells (encr ([((⟨saNil, saNil⟩ : RA), ((0 : Rat) : Rat)), (y32, (((2 : Int) : Rat) : Rat))] : List QR)) 40 (0, 0)), (b37, .cells (encm ([((⟨some ⟨b33, 0, none⟩, 1⟩ : SA), ([(y1, (((1 : Int) : Rat) : Rat))] : List QR)), ((⟨some ⟨b22, 0, none⟩, 1⟩ : SA), ([(y1, (((1 : Int) : Rat) : Rat))] : List QR))] : List QRRow)) 28 (0, 0)), (b2, .cells (ratC y1 (encQ ((1 : Int) : Rat))) 40 (0, 0))]) rfl ?_
      refine KN.meet (b33, b22, b37, y32, b36) [1, 2, 3] [5, 0, 1, 2, 3, 4, 6] (l2 := [(1, pt b2), (2, .slice (some ⟨b37, 0, none⟩) 2 2), (3, .slice (some ⟨b36, 0, none⟩) 2 2)]) (by exact trivial) k_ (by rfl) (by rfl) (by rfl)
    ·refine RDi.new (i := 7) (fun b => .slice (some ⟨b, 0, none⟩) 2 2) (.cells (encr ([((⟨saNil, saNil⟩ : RA), ((0 : Rat) : Rat)), (y32, (((2 : Int) : Rat) : Rat))] : List QR)) 40 (0, 0)) k_ k_ k_ (fun w => by kernel_rfl) (fun b38 => ?_)
     refine RD.new (i := 1) (fun b => .slice (some ⟨b, 0, none⟩) 1 1) (.cells (encr ([(y1, (((1 : Int) : Rat) : Rat))] : List QR)) 40 (0, 0)) k_ k_ k_ k_ (fun w => by kernel_rfl) (fun b39 => ?_)
     refine RD.share 0 rfl rfl k_ ?_
     refine RD.also (allL elr ([(y1, (((1 : Int) : Rat) : Rat))] : List QR)) (fun w h => allL_cons (h _ (.tail _ ((.tail _ ((.head _)))))) (allL_nil _ _)) k_ ?_
     refine RD.also (fL elr (⟨some ⟨b39, 0, none⟩, 1⟩ : SA) ([(y1, (((1 : Int) : Rat) : Rat))] : List QR)) (fun w h => fL_own (h _ (.tail _ ((.head _)))) (h _ (.head _)) x_ x_) k_ ?_
     refine RD.turn 10 (v := .slice (some ⟨b39, 0, none⟩) 1 1) (v' := sl (⟨some ⟨b39, 0, none⟩, 1⟩ : SA) ([(y1, (((1 : Int) : Rat) : Rat))] : List QR).length) k_ (sl_eq x_) ?_
     refine RD.share 1 rfl rfl k_ ?_
     refine RD.also (fL elr (⟨some ⟨b22, 0, none⟩, 1⟩ : SA) ([(y1, (((1 : Int) : Rat) : Rat))] : List QR)) (fun w h => fL_own (h _ (.head _)) (h _ (.tail _ ((.tail _ ((.head _)))))) x_ x_) k_ ?_
     refine RD.turn 12 (v := .slice (some ⟨b22, 0, none⟩) 1 1) (v' := sl (⟨some ⟨b22, 0, none⟩, 1⟩ : SA) ([(y1, (((1 : Int) : Rat) : Rat))] : List QR).length) k_ (sl_eq x_) ?_
     refine RD.new (i := 4) (fun b => .slice (some ⟨b, 0, none⟩) 2 2) (.cells (encm ([((⟨some ⟨b39, 0, none⟩, 1⟩ : SA), ([(y1, (((1 : Int) : Rat) : Rat))] : List QR)), ((⟨some ⟨b22, 0, none⟩, 1⟩ : SA), ([(y1, (((1 : Int) : Rat) : Rat))] : List QR))] : List QRRow)) 28 (0, 0)) k_ k_ k_ k_ (fun w => by kernel_rfl) (fun b40 => ?_)
     refine RD.bq (nl [8, 9]) [1, 2, 3] [] [(1, pt b2), (2, .slice (some ⟨b40, 0, none⟩) 2 2), (3, .slice (some ⟨b38, 0, none⟩) 2 2)] k_ k_ ?_
     refine RD.done k_ ?_
     refine KN.pickB [(b40, .cells (encm ([((⟨some ⟨b39, 0, none⟩, 1⟩ : SA), ([(y1, (((1 : Int) : Rat) : Rat))] : List QR)), ((⟨some ⟨b22, 0, none⟩, 1⟩ : SA), ([(y1, (((1 : Int) : Rat) : Rat))] : List QR))] : List QRRow)) 28 (0, 0)), (b38, .cells (encr ([((⟨saNil, saNil⟩ : RA), ((0 : Rat) : Rat)), (y32, (((2 : Int) : Rat) : Rat))] : List QR)) 40 (0, 0)), (b2, .cells (ratC y1 (encQ ((1 : Int) : Rat))) 40 (0, 0))] ([]) [1, 0, 2] rfl k_ (M' := [(b38, .cells (encr ([((⟨saNil, saNil⟩ : RA), ((0 : Rat) : Rat)), (y32, (((2 : Int) : Rat) : Rat))] : List QR)) 40 (0, 0)), (b40, .cells (encm ([((⟨some ⟨b39, 0, none⟩, 1⟩ : SA), ([(y1, (((1 : Int) : Rat) : Rat))] : List QR)), ((⟨some ⟨b22, 0, none⟩, 1⟩ : SA), ([(y1, (((1 : Int) : Rat) : Rat))] : List QR))] : List QRRow)) 28 (0, 0)), (b2, .cells (ratC y1 (encQ ((1 : Int) : Rat))) 40 (0, 0))]) rfl ?_
     refine KN.meet (b39, b22, b40, y32, b38) [1, 2, 3] [5, 0, 1, 2, 3, 4, 6] (l2 := [(1, pt b2), (2, .slice (some ⟨b40, 0, none⟩) 2 2), (3, .slice (some ⟨b38, 0, none⟩) 2 2)]) (by exact trivial) k_ (by rfl) (by rfl) (by rfl)
  ·refine RDi.call (i := 6) (r03_FromInt 2 y_l21_awake y_l21_awake) [] k_ k_ k_ k_ rfl (fun y41 _ => ?_)
   refine RD.turn 14 (v := ratV (⟨saNil, saNil⟩ : RA) (⟨false, ([] : List Nat), ([] : List Nat)⟩ : Raw)) (v' := ratV (⟨saNil, saNil⟩ : RA) (encQ (0 : Rat))) k_ (by first | (rw [encQ_zero]; done) | (rw [encQ_zero]; rfl)) ?_
   refine RD.forkL (is := [1, 3, 7]) k_ rfl k_ ⟨?_, ?_, ?_, trivial⟩
   ·refine RDi.new (i := 1) (fun b => .slice (some ⟨b, 0, none⟩) 1 1) (.cells (encr ([(y1, (((1 : Int) : Rat) : Rat))] : List QR)) 40 (0, 0)) k_ k_ k_ (fun w => by kernel_rfl) (fun b42 => ?_)
    refine RD.forkL (is := [3, 7]) k_ rfl k_ ⟨?_, ?_, trivial⟩
    ·refine RDi.new (i := 3) (fun b => .slice (some ⟨b, 0, none⟩) 1 1) (.cells (encr ([(y1, (((1 : Int) : Rat) : Rat))] : List QR)) 40 (0, 0)) k_ k_ k_ (fun w => by kernel_rfl) (fun b43 => ?_)
     refine RD.share 1 rfl rfl k_ ?_
     refine RD.also (allL elr ([(y1, (((1 : Int) : Rat) : Rat))] : List QR)) (fun w h => allL_cons (h _ (.tail _ ((.tail _ ((.head _)))))) (allL_nil _ _)) k_ ?_
     refine RD.also (fL elr (⟨some ⟨b42, 0, none⟩, 1⟩ : SA) ([(y1, (((1 : Int) : Rat) : Rat))] : List QR)) (fun w h => fL_own (h _ (.tail _ ((.head _)))) (h _ (.head _)) x_ x_) k_ ?_
     refine RD.turn 10 (v := .slice (some ⟨b42, 0, none⟩) 1 1) (v' := sl (⟨some ⟨b42, 0, none⟩, 1⟩ : SA) ([(y1, (((1 : Int) : Rat) : Rat))] : List QR).length) k_ (sl_eq x_) ?_
     refine RD.share 0 rfl rfl k_ ?_
     refine RD.also (fL elr (⟨some ⟨b43, 0, none⟩, 1⟩ : SA) ([(y1, (((1 : Int) : Rat) : Rat))] : List QR)) (fun w h => fL_own (h _ (.head _)) (h _ (.tail _ ((.tail _ ((.head _)))))) x_ x_) k_ ?_
     refine RD.turn 12 (v := .slice (some ⟨b43, 0, none⟩) 1 1) (v' := sl (⟨some ⟨b43, 0, none⟩, 1⟩ : SA) ([(y1, (((1 : Int) : Rat) : Rat))] : List QR).length) k_ (sl_eq x_) ?_
     refine RD.forkL (is := [4, 7]) k_ rfl k_ ⟨?_, ?_, trivial⟩
     ·refine RDi.new (i := 4) (fun b => .slice (some ⟨b, 0, none⟩) 2 2) (.cells (encm ([((⟨some ⟨b42, 0, none⟩, 1⟩ : SA), ([(y1, (((1 : Int) : Rat) : Rat))] : List QR)), ((⟨some ⟨b43, 0, none⟩, 1⟩ : SA), ([(y1, (((1 : Int) : Rat) : Rat))] : List QR))] : List QRRow)) 28 (0, 0)) k_ k_ k_ (fun w => by kernel_rfl) (fun b44 => ?_)
      refine RD.bq (nl [8]) [1, 2, 14, 15] [] [(1, pt b2), (2, .slice (some ⟨b44, 0, none⟩) 2 2), (14, ratV (⟨saNil, saNil⟩ : RA) (encQ (0 : Rat))), (15, ratV y41 (encQ ((2 : Int) : Rat)))] k_ k_ ?_
      refine RD.new (i := 7) (fun b => .slice (some ⟨b, 0, none⟩) 2 2) (.cells (encr ([((⟨saNil, saNil⟩ : RA), ((0 : Rat) : Rat)), (y41, (((2 : Int) : Rat) : Rat))] : List QR)) 40 (0, 0)) k_ k_ k_ k_ (fun w => by kernel_rfl) (fun b45 => ?_)
      refine RD.bq (nl [9]) [1, 2, 3] [] [(1, pt b2), (2, .slice (some ⟨b44, 0, none⟩) 2 2), (3, .slice (some ⟨b45, 0, none⟩) 2 2)] k_ k_ ?_
      refine RD.done k_ ?_
      refine KN.meet (b42, b43, b44, y41, b45) [1, 2, 3] [5, 0, 1, 2, 3, 4, 6] (l2 := [(1, pt b2), (2, .slice (some ⟨b44, 0, none⟩) 2 2), (3, .slice (some ⟨b45, 0, none⟩) 2 2)]) (by exact trivial) k_ (by rfl) (by rfl) (by rfl)
     ·refine RDi.new (i := 7) (fun b => .slice (some ⟨b, 0, none⟩) 2 2) (.cells (encr ([((⟨saNil, saNil⟩ : RA), ((0 : Rat) : Rat)), (y41, (((2 : Int) : Rat) : Rat))] : List QR)) 40 (0, 0)) k_ k_ k_ (fun w => by kernel_rfl) (fun b46 => ?_)
      refine RD.new (i := 4) (fun b => .slice (some ⟨b, 0, none⟩) 2 2) (.cells (encm ([((⟨some ⟨b42, 0, none⟩, 1⟩ : SA), ([(y1, (((1 : Int) : Rat) : Rat))] : List QR)), ((⟨some ⟨b43, 0, none⟩, 1⟩ : SA), ([(y1, (((1 : Int) : Rat) : Rat))] : List QR))] : List QRRow)) 28 (0, 0)) k_ k_ k_ k_ (fun w => by kernel_rfl) (fun b47 => ?_)
      refine RD.bq (nl [8, 9]) [1, 2, 3] [] [(1, pt b2), (2, .slice (some ⟨b47, 0, none⟩) 2 2), (3, .slice (some ⟨b46, 0, none⟩) 2 2)] k_ k_ ?_
      refine RD.done k_ ?_
      refine KN.pickB [(b47, .cells (encm ([((⟨some ⟨b42, 0, none⟩, 1⟩ : SA), ([(y1, (((1 : Int) : Rat) : Rat))] : List QR)), ((⟨some ⟨b43, 0, none⟩, 1⟩ : SA), ([(y1, (((1 : Int) : Rat) : Rat))] : List QR))] : List QRRow)) 28 (0, 0)), (b46, .cells (encr ([((⟨saNil, saNil⟩ : RA), ((0 : Rat) : Rat)), (y41, (((2 : Int) : Rat) : Rat))] : List QR)) 40 (0, 0)), (b2, .cells (ratC y1 (encQ ((1 : Int) : Rat))) 40 (0, 0))] ([]) [1, 0, 2] rfl k_ (M' := [(b46, .cells (encr ([((⟨saNil, saNil⟩ : RA), ((0 : Rat) : Rat)), (y41, (((2 : Int) : Rat) : Rat))] : List QR)) 40 (0, 0)), (b47, .cells (encm ([((⟨some ⟨b42, 0, none⟩, 1⟩ : SA), ([(y1, (((1 : Int) : Rat) : Rat))] : List QR)), ((⟨some ⟨b43, 0, none⟩, 1⟩ : SA), ([(y1, (((1 : Int) : Rat) : Rat))] : List QR))] : List QRRow)) 28 (0, 0)), (b2, .cells (ratC y1 (encQ ((1 : Int) : Rat))) 40 (0, 0))]) rfl ?_
      refine KN.meet (b42, b43, b47, y41, b46) [1, 2, 3] [5, 0, 1, 2, 3, 4, 6] (l2 := [(1, pt b2), (2, .slice (some ⟨b47, 0, none⟩) 2 2), (3, .slice (some ⟨b46, 0, none⟩) 2 2)]) (by exact trivial) k_ (by rfl) (by rfl) (by rfl)
    ·refine RDi.new (i := 7) (fun b => .slice (some ⟨b, 0, none⟩) 2 2) (.cells (encr ([((⟨saNil, saNil⟩ : RA), ((0 : Rat) : Rat)), (y41, (((2 : Int) : Rat) : Rat))] : List QR)) 40 (0, 0)) k_ k_ k_ (fun w => by kernel_rfl) (fun b48 => ?_)
     refine RD.new (i := 3) (fun b => .slice (some ⟨b, 0, none⟩) 1 1) (.cells (encr ([(y1, (((1 : Int) : Rat) : Rat))] : List QR)) 40 (0, 0)) k_ k_ k_ k_ (fun w => by kernel_rfl) (fun b49 => ?_)
     refine RD.share 2 rfl rfl k_ ?_
     refine RD.also (allL elr ([(y1, (((1 : Int) : Rat) : Rat))] : List QR)) (fun w h => allL_cons (h _ (.tail _ ((.tail _ ((.head _)))))) (allL_nil _ _)) k_ ?_
     refine RD.also (fL elr (⟨some ⟨b42, 0, none⟩, 1⟩ : SA) ([(y1, (((1 : Int) : Rat) : Rat))] : List QR)) (fun w h => fL_own (h _ (.tail _ ((.head _)))) (h _ (.head _)) x_ x_) k_ ?_
     refine RD.turn 10 (v := .slice (some ⟨b42, 0, none⟩) 1 1) (v' := sl (⟨some ⟨b42, 0, none⟩, 1⟩ : SA) ([(y1, (((1 : Int) : Rat) : Rat))] : List QR).length) k_ (sl_eq x_) ?_
     refine RD.share 0 rfl rfl k_ ?_
     refine RD.also (fL elr (⟨some ⟨b49, 0, none⟩, 1⟩ : SA) ([(y1, (((1 : Int) : Rat) : Rat))] : List QR)) (fun w h => fL_own (h _ (.head _)) (h _ (.tail _ ((.tail _ ((.head _)))))) x_ x_) k_ ?_
     refine RD.turn 12 (v := .slice (some ⟨b49, 0, none⟩) 1 1) (v' := sl (⟨some ⟨b49, 0, none⟩, 1⟩ : SA) ([(y1, (((1 : Int) : Rat) : Rat))] : List QR).length) k_ (sl_eq x_) ?_
     refine RD.new (i := 4) (fun b => .slice (some ⟨b, 0, none⟩) 2 2) (.cells (encm ([((⟨some ⟨b42, 0, none⟩, 1⟩ : SA), ([(y1, (((1 : Int) : Rat) : Rat))] : List QR)), ((⟨some ⟨b49, 0, none⟩, 1⟩ : SA), ([(y1, (((1 : Int) : Rat) : Rat))] : List QR))] : List QRRow)) 28 (0, 0)) k_ k_ k_ k_ (fun w => by kernel_rfl) (fun b50 => ?_)
     refine RD.bq (nl [8, 9]) [1, 2, 3] [] [(1, pt b2), (2, .slice (some ⟨b50, 0, none⟩) 2 2), (3, .slice (some ⟨b48, 0, none⟩) 2 2)] k_ k_ ?_
     refine RD.done k_ ?_
     refine KN.pickB [(b50, .cells (encm ([((⟨some ⟨b42, 0, none⟩, 1⟩ : SA), ([(y1, (((1 : Int) : Rat) : Rat))] : List QR)), ((⟨some ⟨b49, 0, none⟩, 1⟩ : SA), ([(y1, (((1 : Int) : Rat) : Rat))] : List QR))] : List QRRow)) 28 (0, 0)), (b48, .cells (encr ([((⟨saNil, saNil⟩ : RA), ((0 : Rat) : Rat)), (y41, (((2 : Int) : Rat) : Rat))] : List QR)) 40 (0, 0)), (b2, .cells (ratC y1 (encQ ((1 : Int) : Rat))) 40 (0, 0))] ([]) [1, 0, 2] rfl k_ (M' := [(b48, .cells (encr ([((⟨saNil, saNil⟩ : RA), ((0 : Rat) : Rat)), (y41, (((2 : Int) : Rat) : Rat))] : List QR)) 40 (0, 0)), (b50, .cells (encm ([((⟨some ⟨b42, 0, none⟩, 1⟩ : SA), ([(y1, (((1 : Int) : Rat) : Rat))] : List QR)), ((⟨some ⟨b49, 0, none⟩, 1⟩ : SA), ([(y1, (((1 : Int) : Rat) : Rat))] : List QR))] : List QRRow)) 28 (0, 0)), (b2, .cells (ratC y1 (encQ ((1 : Int) : Rat))) 40 (0, 0))]) rfl ?_
     refine KN.meet (b42, b49, b50, y41, b48) [1, 2, 3] [5, 0, 1, 2, 3, 4, 6] (l2 := [(1, pt b2), (2, .slice (some ⟨b50, 0, none⟩) 2 2), (3, .slice (some ⟨b48, 0, none⟩) 2 2)]) (by exact trivial) k_ (by rfl) (by rfl) (by rfl)
   ·refine RDi.new (i := 3) (fun b => .slice (some ⟨b, 0, none⟩) 1 1) (.cells (encr ([(y1, (((1 : Int) : Rat) : Rat))] : List QR)) 40 (0, 0)) k_ k_ k_ (fun w => by kernel_rfl) (fun b51 => ?_)
    refine RD.forkL (is := [1, 7]) k_ rfl k_ ⟨?_, ?_, trivial⟩
    ·refine RDi.new (i := 1) (fun b => .slice (some ⟨b, 0, none⟩) 1 1) (.cells (encr ([(y1, (((1 : Int) : Rat) : Rat))] : List QR)) 40 (0, 0)) k_ k_ k_ (fun w => by kernel_rfl) (fun b52 => ?_)
     refine RD.share 0 rfl rfl k_ ?_
     refine RD.also (allL elr ([(y1, (((1 : Int) : Rat) : Rat))] : List QR)) (fun w h => allL_cons (h _ (.tail _ ((.tail _ ((.head _)))))) (allL_nil _ _)) k_ ?_
     refine RD.also (fL elr (⟨some ⟨b52, 0, none⟩, 1⟩ : SA) ([(y1, (((1 : Int) : Rat) : Rat))] : List QR)) (fun w h => fL_own (h _ (.tail _ ((.head _)))) (h _ (.head _)) x_ x_) k_ ?_
     refine RD.turn 10 (v := .slice (some ⟨b52, 0, none⟩) 1 1) (v' := sl (⟨some ⟨b52, 0, none⟩, 1⟩ : SA) ([(y1, (((1 : Int) : Rat) : Rat))] : List QR).length) k_ (sl_eq x_) ?_
     refine RD.share 0 rfl rfl k_ ?_
     refine RD.also (fL elr (⟨some ⟨b51, 0, none⟩, 1⟩ : SA) ([(y1, (((1 : Int) : Rat) : Rat))] : List QR)) (fun w h => fL_own (h _ (.head _)) (h _ (.tail _ ((.tail _ ((.head _)))))) x_ x_) k_ ?_
     refine RD.turn 12 (v := .slice (some ⟨b51, 0, none⟩) 1 1) (v' := sl (⟨some ⟨b51, 0, none⟩, 1⟩ : SA) ([(y1, (((1 : Int) : Rat) : Rat))] : List QR).length) k_ (sl_eq x_) ?_
     refine RD.forkL (is := [4, 7]) k_ rfl k_ ⟨?_, ?_, trivial⟩
     ·refine RDi.new (i := 4) (fun b => .slice (some ⟨b, 0, none⟩) 2 2) (.cells (encm ([((⟨some ⟨b52, 0, none⟩, 1⟩ : SA), ([(y1, (((1 : Int) : Rat) : Rat))] : List QR)), ((⟨some ⟨b51, 0, none⟩, 1⟩ : SA), ([(y1, (((1 : Int) : Rat) : Rat))] : List QR))] : List QRRow)) 28 (0, 0)) k_ k_ k_ (fun w => by kernel_rfl) (fun b53 => ?_)
      refine RD.bq (nl [8]) [1, 2, 14, 15] [] [(1, pt b2), (2, .slice (some ⟨b53, 0, none⟩) 2 2), (14, ratV (⟨saNil, saNil⟩ : RA) (encQ (0 : Rat))), (15, ratV y41 (encQ ((2 : Int) : Rat)))] k_ k_ ?_
      refine RD.new (i := 7) (fun b => .slice (some ⟨b, 0, none⟩) 2 2) (.cells (encr ([((⟨saNil, saNil⟩ : RA), ((0 : Rat) : Rat)), (y41, (((2 : Int) : Rat) : Rat))] : List QR)) 40 (0, 0)) k_ k_ k_ k_ (fun w => by kernel_rfl) (fun b54 => ?_)
      refine RD.bq (nl [9]) [1, 2, 3] [] [(1, pt b2), (2, .slice (some ⟨b53, 0, none⟩) 2 2), (3, .slice (some ⟨b54, 0, none⟩) 2 2)] k_ k_ ?_
      refine RD.done k_ ?_
      refine KN.meet (b52, b51, b53, y41, b54) [1, 2, 3] [5, 0, 1, 2, 3, 4, 6] (l2 := [(1, pt b2), (2, .slice (some ⟨b53, 0, none⟩) 2 2), (3, .slice (some ⟨b54, 0, none⟩) 2 2)]) (by exact trivial) k_ (by rfl) (by rfl) (by rfl)
     ·refine RDi.new (i := 7) (fun b => .slice (some ⟨b, 0, none⟩) 2 2) (.cells (encr ([((⟨saNil, saNil⟩ : RA), ((0 : Rat) : Rat)), (y41, (((2 : Int) : Rat) : Rat))] : List QR)) 40 (0, 0)) k_ k_ k_ (fun w => by kernel_rfl) (fun b55 => ?_)
      refine RD.new (i := 4) (fun b => .slice (some ⟨b, 0, none⟩) 2 2) (.cells (encm ([((⟨some ⟨b52, 0, none⟩, 1⟩ : SA), ([(y1, (((1 : Int) : Rat) : Rat))] : List QR)), ((⟨some ⟨b51, 0, none⟩, 1⟩ : SA), ([(y1, (((1 : Int) : Rat) : Rat))] : List QR))] : List QRRow)) 28 (0, 0)) k_ k_ k_ k_ (fun w => by kernel_rfl) (fun b56 => ?_)
      refine RD.bq (nl [8, 9]) [1, 2, 3] [] [(1, pt b2), (2, .slice (some ⟨b56, 0, none⟩) 2 2), (3, .slice (some ⟨b55, 0, none⟩) 2 2)] k_ k_ ?_
      refine RD.done k_ ?_
      refine KN.pickB [(b56, .cells (encm ([((⟨some ⟨b52, 0, none⟩, 1⟩ : SA), ([(y1, (((1 : Int) : Rat) : Rat))] : List QR)), ((⟨some ⟨b51, 0, none⟩, 1⟩ : SA), ([(y1, (((1 : Int) : Rat) : Rat))] : List QR))] : List QRRow)) 28 (0, 0)), (b55, .cells (encr ([((⟨saNil, saNil⟩ : RA), ((0 : Rat) : Rat)), (y41, (((2 : Int) : Rat) : Rat))] : List QR)) 40 (0, 0)), (b2, .cells (ratC y1 (encQ ((1 : Int) : Rat))) 40 (0, 0))] ([]) [1, 0, 2] rfl k_ (M' := [(b55, .cells (encr ([((⟨saNil, saNil⟩ : RA), ((0 : Rat) : Rat)), (y41, (((2 : Int) : Rat) : Rat))] : List QR)) 40 (0, 0)), (b56, .cells (encm ([((⟨some ⟨b52, 0, none⟩, 1⟩ : SA), ([(y1, (((1 : Int) : Rat) : Rat))] : List QR)), ((⟨some ⟨b51, 0, none⟩, 1⟩ : SA), ([(y1, (((1 : Int) : Rat) : Rat))] : List QR))] : List QRRow)) 28 (0, 0)), (b2, .cells (ratC y1 (encQ ((1 : Int) : Rat))) 40 (0, 0))]) rfl ?_
      refine KN.meet (b52, b51, b56, y41, b55) [1, 2, 3] [5, 0, 1, 2, 3, 4, 6] (l2 := [(1, pt b2), (2, .slice (some ⟨b56, 0, none⟩) 2 2), (3, .slice (some ⟨b55, 0, none⟩) 2 2)]) (by exact trivial) k_ (by rfl) (by rfl) (by rfl)
    ·refine RDi.new (i := 7) (fun b => .slice (some ⟨b, 0, none⟩) 2 2) (.cells (encr ([((⟨saNil, saNil⟩ : RA), ((0 : Rat) : Rat)), (y41, (((2 : Int) : Rat) : Rat))] : List QR)) 40 (0, 0)) k_ k_ k_ (fun w => by kernel_rfl) (fun b57 => ?_)
     refine RD.new (i := 1) (fun b => .slice (some ⟨b, 0, none⟩) 1 1) (.cells (encr ([(y1, (((1 : Int) : Rat) : Rat))] : List QR)) 40 (0, 0)) k_ k_ k_ k_ (fun w => by kernel_rfl) (fun b58 => ?_)
     refine RD.share 0 rfl rfl k_ ?_
     refine RD.also (allL elr ([(y1, (((1 : Int) : Rat) : Rat))] : List QR)) (fun w h => allL_cons (h _ (.tail _ ((.tail _ ((.head _)))))) (allL_nil _ _)) k_ ?_
     refine RD.also (fL elr (⟨some ⟨b58, 0, none⟩, 1⟩ : SA) ([(y1, (((1 : Int) : Rat) : Rat))] : List QR)) (fun w h => fL_own (h _ (.tail _ ((.head _)))) (h _ (.head _)) x_ x_) k_ ?_
     refine RD.turn 10 (v := .slice (some ⟨b58, 0, none⟩) 1 1) (v' := sl (⟨some ⟨b58, 0, none⟩, 1⟩ : SA) ([(y1, (((1 : Int) : Rat) : Rat))] : List QR).length) k_ (sl_eq x_) ?_
     refine RD.share 1 rfl rfl k_ ?_
     refine RD.also (fL elr (⟨some ⟨b51, 0, none⟩, 1⟩ : SA) ([(y1, (((1 : Int) : Rat) : Rat))] : List QR)) (fun w h => fL_own (h _ (.head _)) (h _ (.tail _ ((.tail _ ((.head _)))))) x_ x_) k_ ?_
     refine RD.turn 12 (v := .slice (some ⟨b51, 0, none⟩) 1 1) (v' := sl (⟨some ⟨b51, 0, none⟩, 1⟩ : SA) ([(y1, (((1 : Int) : Rat) : Rat))] : List QR).length) k_ (sl_eq x_) ?_
     refine RD.new (i := 4) (fun b => .slice (some ⟨b, 0, none⟩) 2 2) (.cells (encm ([((⟨some ⟨b58, 0, none⟩, 1⟩ : SA), ([(y1, (((1 : Int) : Rat) : Rat))] : List QR)), ((⟨some ⟨b51, 0, none⟩, 1⟩ : SA), ([(y1, (((1 : Int) : Rat) : Rat))] : List QR))] : List QRRow)) 28 (0, 0)) k_ k_ k_ k_ (fun w => by kernel_rfl) (fun b59 => ?_)
     refine RD.bq (nl [8, 9]) [1, 2, 3] [] [(1, pt b2), (2, .slice (some ⟨b59, 0, none⟩) 2 2), (3, .slice (some ⟨b57, 0, none⟩) 2 2)] k_ k_ ?_
     refine RD.done k_ ?_
     refine KN.pickB [(b59, .cells (encm ([((⟨some ⟨b58, 0, none⟩, 1⟩ : SA), ([(y1, (((1 : Int) : Rat) : Rat))] : List QR)), ((⟨some ⟨b51, 0, none⟩, 1⟩ : SA), ([(y1, (((1 : Int) : Rat) : Rat))] : List QR))] : List QRRow)) 28 (0, 0)), (b57, .cells (encr ([((⟨saNil, saNil⟩ : RA), ((0 : Rat) : Rat)), (y41, (((2 : Int) : Rat) : Rat))] : List QR)) 40 (0, 0)), (b2, .cells (ratC y1 (encQ ((1 : Int) : Rat))) 40 (0, 0))] ([]) [1, 0, 2] rfl k_ (M' := [(b57, .cells (encr ([((⟨saNil, saNil⟩ : RA), ((0 : Rat) : Rat)), (y41, (((2 : Int) : Rat) : Rat))] : List QR)) 40 (0, 0)), (b59, .cells (encm ([((⟨some ⟨b58, 0, none⟩, 1⟩ : SA), ([(y1, (((1 : Int) : Rat) : Rat))] : List QR)), ((⟨some ⟨b51, 0, none⟩, 1⟩ : SA), ([(y1, (((1 : Int) : Rat) : Rat))] : List QR))] : List QRRow)) 28 (0, 0)), (b2, .cells (ratC y1 (encQ ((1 : Int) : Rat))) 40 (0, 0))]) rfl ?_
     refine KN.meet (b58, b51, b59, y41, b57) [1, 2, 3] [5, 0, 1, 2, 3, 4, 6] (l2 := [(1, pt b2), (2, .slice (some ⟨b59, 0, none⟩) 2 2), (3, .slice (some ⟨b57, 0, none⟩) 2 2)]) (by exact trivial) k_ (by rfl) (by rfl) (by rfl)
   ·refine RDi.new (i := 7) (fun b => .slice (some ⟨b, 0, none⟩) 2 2) (.cells (encr ([((⟨saNil, saNil⟩ : RA), ((0 : Rat) : Rat)), (y41, (((2 : Int) : Rat) : Rat))] : List QR)) 40 (0, 0)) k_ k_ k_ (fun w => by kernel_rfl) (fun b60 => ?_)
    refine RD.forkL (is := [1, 3]) k_ rfl k_ ⟨?_, ?_, trivial⟩
    ·refine RDi.new (i := 1) (fun b => .slice (some ⟨b, 0, none⟩) 1 1) (.cells (encr ([(y1, (((1 : Int) : Rat) : Rat))] : List QR)) 40 (0, 0)) k_ k_ k_ (fun w => by kernel_rfl) (fun b61 => ?_)
     refine RD.new (i := 3) (fun b => .slice (some ⟨b, 0, none⟩) 1 1) (.cells (encr ([(y1, (((1 : Int) : Rat) : Rat))] : List QR)) 40 (0, 0)) k_ k_ k_ k_ (fun w => by kernel_rfl) (fun b62 => ?_)
     refine RD.share 1 rfl rfl k_ ?_
     refine RD.also (allL elr ([(y1, (((1 : Int) : Rat) : Rat))] : List QR)) (fun w h => allL_cons (h _ (.tail _ ((.tail _ ((.head _)))))) (allL_nil _ _)) k_ ?_
     refine RD.also (fL elr (⟨some ⟨b61, 0, none⟩, 1⟩ : SA) ([(y1, (((1 : Int) : Rat) : Rat))] : List QR)) (fun w h => fL_own (h _ (.tail _ ((.head _)))) (h _ (.head _)) x_ x_) k_ ?_
     refine RD.turn 10 (v := .slice (some ⟨b61, 0, none⟩) 1 1) (v' := sl (⟨some ⟨b61, 0, none⟩, 1⟩ : SA) ([(y1, (((1 : Int) : Rat) : Rat))] : List QR).length) k_ (sl_eq x_) ?_
     refine RD.share 0 rfl rfl k_ ?_
     refine RD.also (fL elr (⟨some ⟨b62, 0, none⟩, 1⟩ : SA) ([(y1, (((1 : Int) : Rat) : Rat))] : List QR)) (fun w h => fL_own (h _ (.head _)) (h _ (.tail _ ((.tail _ ((.head _)))))) x_ x_) k_ ?_
     refine RD.turn 12 (v := .slice (some ⟨b62, 0, none⟩) 1 1) (v' := sl (⟨some ⟨b62, 0, none⟩, 1⟩ : SA) ([(y1, (((1 : Int) : Rat) : Rat))] : List QR).length) k_ (sl_eq x_) ?_
     refine RD.new (i := 4) (fun b => .slice (some ⟨b, 0, none⟩) 2 2) (.cells (encm ([((⟨some ⟨b61, 0, none⟩, 1⟩ : SA), ([(y1, (((1 : Int) : Rat) : Rat))] : List QR)), ((⟨some ⟨b62, 0, none⟩, 1⟩ : SA), ([(y1, (((1 : Int) : Rat) : Rat))] : List QR))] : List QRRow)) 28 (0, 0)) k_ k_ k_ k_ (fun w => by kernel_rfl) (fun b63 => ?_)
     refine RD.bq (nl [8, 9]) [1, 2, 3] [] [(1, pt b2), (2, .slice (some ⟨b63, 0, none⟩) 2 2), (3, .slice (some ⟨b60, 0, none⟩) 2 2)] k_ k_ ?_
     refine RD.done k_ ?_
     refine KN.pickB [(b63, .cells (encm ([((⟨some ⟨b61, 0, none⟩, 1⟩ : SA), ([(y1, (((1 : Int) : Rat) : Rat))] : List QR)), ((⟨some ⟨b62, 0, none⟩, 1⟩ : SA), ([(y1, (((1 : Int) : Rat) : Rat))] : List QR))] : List QRRow)) 28 (0, 0)), (b60, .cells (encr ([((⟨saNil, saNil⟩ : RA), ((0 : Rat) : Rat)), (y41, (((2 : Int) : Rat) : Rat))] : List QR)) 40 (0, 0)), (b2, .cells (ratC y1 (encQ ((1 : Int) : Rat))) 40 (0, 0))] ([]) [1, 0, 2] rfl k_ (M' := [(b60, .cells (encr ([((⟨saNil, saNil⟩ : RA), ((0 : Rat) : Rat)), (y41, (((2 : Int) : Rat) : Rat))] : List QR)) 40 (0, 0)), (b63, .cells (encm ([((⟨some ⟨b61, 0, none⟩, 1⟩ : SA), ([(y1, (((1 : Int) : Rat) : Rat))] : List QR)), ((⟨some ⟨b62, 0, none⟩, 1⟩ : SA), ([(y1, (((1 : Int) : Rat) : Rat))] : List QR))] : List QRRow)) 28 (0, 0)), (b2, .cells (ratC y1 (encQ ((1 : Int) : Rat))) 40 (0, 0))]) rfl ?_
     refine KN.meet (b61, b62, b63, y41, b60) [1, 2, 3] [5, 0, 1, 2, 3, 4, 6] (l2 := [(1, pt b2), (2, .slice (some ⟨b63, 0, none⟩) 2 2), (3, .slice (some ⟨b60, 0, none⟩) 2 2)]) (by exact trivial) k_ (by rfl) (by rfl) (by rfl)
    ·refine RDi.new (i := 3) (fun b => .slice (some ⟨b, 0, none⟩) 1 1) (.cells (encr ([(y1, (((1 : Int) : Rat) : Rat))] : List QR)) 40 (0, 0)) k_ k_ k_ (fun w => by kernel_rfl) (fun b64 => ?_)
     refine RD.new (i := 1) (fun b => .slice (some ⟨b, 0, none⟩) 1 1) (.cells (encr ([(y1, (((1 : Int) : Rat) : Rat))] : List QR)) 40 (0, 0)) k_ k_ k_ k_ (fun w => by kernel_rfl) (fun b65 => ?_)
     refine RD.share 0 rfl rfl k_ ?_
     refine RD.also (allL elr ([(y1, (((1 : Int) : Rat) : Rat))] : List QR)) (fun w h => allL_cons (h _ (.tail _ ((.tail _ ((.head _)))))) (allL_nil _ _)) k_ ?_
     refine RD.also (fL elr (⟨some ⟨b65, 0, none⟩, 1⟩ : SA) ([(y1, (((1 : Int) : Rat) : Rat))] : List QR)) (fun w h => fL_own (h _ (.tail _ ((.head _)))) (h _ (.head _)) x_ x_) k_ ?_
     refine RD.turn 10 (v := .slice (some ⟨b65, 0, none⟩) 1 1) (v' := sl (⟨some ⟨b65, 0, none⟩, 1⟩ : SA) ([(y1, (((1 : Int) : Rat) : Rat))] : List QR).length) k_ (sl_eq x_) ?_
     refine RD.share 0 rfl rfl k_ ?_
     refine RD.also (fL elr (⟨some ⟨b64, 0, none⟩, 1⟩ : SA) ([(y1, (((1 : Int) : Rat) : Rat))] : List QR)) (fun w h => fL_own (h _ (.head _)) (h _ (.tail _ ((.tail _ ((.head _)))))) x_ x_) k_ ?_
     refine RD.turn 12 (v := .slice (some ⟨b64, 0, none⟩) 1 1) (v' := sl (⟨some ⟨b64, 0, none⟩, 1⟩ : SA) ([(y1, (((1 : Int) : Rat) : Rat))] : List QR).length) k_ (sl_eq x_) ?_
     refine RD.new (i := 4) (fun b => .slice (some ⟨b, 0, none⟩) 2 2) (.cells (encm ([((⟨some ⟨b65, 0, none⟩, 1⟩ : SA), ([(y1, (((1 : Int) : Rat) : Rat))] : List QR)), ((⟨some ⟨b64, 0, none⟩, 1⟩ : SA), ([(y1, (((1 : Int) : Rat) : Rat))] : List QR))] : List QRRow)) 28 (0, 0)) k_ k_ k_ k_ (fun w => by kernel_rfl) (fun b66 => ?_)
     refine RD.bq (nl [8, 9]) [1, 2, 3] [] [(1, pt b2), (2, .slice (some ⟨b66, 0, none⟩) 2 2), (3, .slice (some ⟨b60, 0, none⟩) 2 2)] k_ k_ ?_
     refine RD.done k_ ?_
     refine KN.pickB [(b66, .cells (encm ([((⟨some ⟨b65, 0, none⟩, 1⟩ : SA), ([(y1, (((1 : Int) : Rat) : Rat))] : List QR)), ((⟨some ⟨b64, 0, none⟩, 1⟩ : SA), ([(y1, (((1 : Int) : Rat) : Rat))] : List QR))] : List QRRow)) 28 (0, 0)), (b60, .cells (encr ([((⟨saNil, saNil⟩ : RA), ((0 : Rat) : Rat)), (y41, (((2 : Int) : Rat) : Rat))] : List QR)) 40 (0, 0)), (b2, .cells (ratC y1 (encQ ((1 : Int) : Rat))) 40 (0, 0))] ([]) [1, 0, 2] rfl k_ (M' := [(b60, .cells (encr ([((⟨saNil, saNil⟩ : RA), ((0 : Rat) : Rat)), (y41, (((2 : Int) : Rat) : Rat))] : List QR)) 40 (0, 0)), (b66, .cells (encm ([((⟨some ⟨b65, 0, none⟩, 1⟩ : SA), ([(y1, (((1 : Int) : Rat) : Rat))] : List QR)), ((⟨some ⟨b64, 0, none⟩, 1⟩ : SA), ([(y1, (((1 : Int) : Rat) : Rat))] : List QR))] : List QRRow)) 28 (0, 0)), (b2, .cells (ratC y1 (encQ ((1 : Int) : Rat))) 40 (0, 0))]) rfl ?_
     refine KN.meet (b65, b64, b66, y41, b60) [1, 2, 3] [5, 0, 1, 2, 3, 4, 6] (l2 := [(1, pt b2), (2, .slice (some ⟨b66, 0, none⟩) 2 2), (3, .slice (some ⟨b60, 0, none⟩) 2 2)]) (by exact trivial) k_ (by rfl) (by rfl) (by rfl)
 ·intro x67 hx68
  obtain ⟨b3, b4, b5, y6, b7⟩ := x67
  replace hx68 : True := hx68
  refine J.sreg ?_
  refine RN.bq [none, none, some 2, none] [1, 18, 19, 21] [b2, b2, b2] 4 [(1, pt b2), (18, .slice (some ⟨b5, 0, none⟩) 2 2), (19, .slice (some ⟨b7, 0, none⟩) 2 2), (21, .agg (ivC (⟨saNil, saNil⟩ : RA) (⟨false, ([] : List Nat), ([] : List Nat)⟩ : Raw) y1 (encQ ((1 : Int) : Rat))))] k_ ?_
  refine RN.turn 21 (v := .agg (ivC (⟨saNil, saNil⟩ : RA) (⟨false, ([] : List Nat), ([] : List Nat)⟩ : Raw) y1 (encQ ((1 : Int) : Rat)))) (v' := .agg (ivC (⟨saNil, saNil⟩ : RA) (encQ (0 : Rat)) y1 (encQ ((1 : Int) : Rat)))) k_ (by first | (rw [encQ_zero]; done) | (rw [encQ_zero]; rfl)) ?_
  refine RN.new (fun b => .slice (some ⟨b, 0, none⟩) 1 1) (.cells (encv ([(((⟨saNil, saNil⟩ : RA), ((0 : Rat) : Rat)), (y1, (((1 : Int) : Rat) : Rat)))] : List QV)) 43 (0, 0)) k_ k_ (fun w => by kernel_rfl) (fun b69 => ?_)
  refine RN.share 2 rfl rfl ?_
  refine RN.also (allL elm ([((⟨some ⟨b3, 0, none⟩, 1⟩ : SA), ([(y1, (((1 : Int) : Rat) : Rat))] : List QR)), ((⟨some ⟨b4, 0, none⟩, 1⟩ : SA), ([(y1, (((1 : Int) : Rat) : Rat))] : List QR))] : List QRRow)) (fun w h => allL_cons (h _ (.tail _ ((.tail _ ((.tail _ ((.tail _ ((.head _)))))))))) (allL_cons (h _ (.tail _ ((.tail _ ((.head _)))))) (allL_nil _ _))) ?_
  refine RN.also (fL elm (⟨some ⟨b5, 0, none⟩, 2⟩ : SA) ([((⟨some ⟨b3, 0, none⟩, 1⟩ : SA), ([(y1, (((1 : Int) : Rat) : Rat))] : List QR)), ((⟨some ⟨b4, 0, none⟩, 1⟩ : SA), ([(y1, (((1 : Int) : Rat) : Rat))] : List QR))] : List QRRow)) (fun w h => fL_own (h _ (.tail _ ((.head _)))) (h _ (.head _)) x_ x_) ?_
  refine RN.turn 18 (v := .slice (some ⟨b5, 0, none⟩) 2 2) (v' := sl (⟨some ⟨b5, 0, none⟩, 2⟩ : SA) ([((⟨some ⟨b3, 0, none⟩, 1⟩ : SA), ([(y1, (((1 : Int) : Rat) : Rat))] : List QR)), ((⟨some ⟨b4, 0, none⟩, 1⟩ : SA), ([(y1, (((1 : Int) : Rat) : Rat))] : List QR))] : List QRRow).length) k_ (sl_eq x_) ?_
  refine RN.share 1 rfl rfl ?_
  refine RN.also (fRat (⟨saNil, saNil⟩ : RA) (encQ (0 : Rat))) (fun w h => fRat_zero w) ?_
  refine RN.also (allL elr ([((⟨saNil, saNil⟩ : RA), ((0 : Rat) : Rat)), (y6, (((2 : Int) : Rat) : Rat))] : List QR)) (fun w h => allL_cons (h _ (.head _)) (allL_cons (h _ (.tail _ ((.tail _ ((.tail _ ((.tail _ ((.tail _ ((.head _)))))))))))) (allL_nil _ _))) ?_
  refine RN.also (fL elr (⟨some ⟨b7, 0, none⟩, 2⟩ : SA) ([((⟨saNil, saNil⟩ : RA), ((0 : Rat) : Rat)), (y6, (((2 : Int) : Rat) : Rat))] : List QR)) (fun w h => fL_own (h _ (.tail _ ((.tail _ ((.head _)))))) (h _ (.head _)) x_ x_) ?_
  refine RN.turn 19 (v := .slice (some ⟨b7, 0, none⟩) 2 2) (v' := sl (⟨some ⟨b7, 0, none⟩, 2⟩ : SA) ([((⟨saNil, saNil⟩ : RA), ((0 : Rat) : Rat)), (y6, (((2 : Int) : Rat) : Rat))] : List QR).length) k_ (sl_eq x_) ?_
  refine RN.share 0 rfl rfl ?_
  refine RN.also (allL elv ([(((⟨saNil, saNil⟩ : RA), ((0 : Rat) : Rat)), (y1, (((1 : Int) : Rat) : Rat)))] : List QV)) (fun w h => allL_cons (And.intro (h _ (.tail _ ((.tail _ ((.tail _ ((.head _)))))))) (h _ (.tail _ ((.tail _ ((.tail _ ((.tail _ ((.tail _ ((.tail _ ((.tail _ ((.tail _ ((.tail _ ((.tail _ ((.tail _ ((.tail _ ((.tail _ ((.tail _ ((.head _))))))))))))))))))))))))))))))) (allL_nil _ _)) ?_
  refine RN.also (fL elv (⟨some ⟨b69, 0, none⟩, 1⟩ : SA) ([(((⟨saNil, saNil⟩ : RA), ((0 : Rat) : Rat)), (y1, (((1 : Int) : Rat) : Rat)))] : List QV)) (fun w h => fL_own (h _ (.tail _ ((.head _)))) (h _ (.head _)) x_ x_) ?_
  refine RN.turn 22 (v := .slice (some ⟨b69, 0, none⟩) 1 1) (v' := sl (⟨some ⟨b69, 0, none⟩, 1⟩ : SA) ([(((⟨saNil, saNil⟩ : RA), ((0 : Rat) : Rat)), (y1, (((1 : Int) : Rat) : Rat)))] : List QV).length) k_ (sl_eq x_) ?_
  refine RN.call (sg_Bound (⟨some ⟨b5, 0, none⟩, 2⟩ : SA) ([((⟨some ⟨b3, 0, none⟩, 1⟩ : SA), ([(y1, (((1 : Int) : Rat) : Rat))] : List QR)), ((⟨some ⟨b4, 0, none⟩, 1⟩ : SA), ([(y1, (((1 : Int) : Rat) : Rat))] : List QR))] : List QRRow) (⟨some ⟨b7, 0, none⟩, 2⟩ : SA) ([((⟨saNil, saNil⟩ : RA), ((0 : Rat) : Rat)), (y6, (((2 : Int) : Rat) : Rat))] : List QR) (⟨some ⟨b69, 0, none⟩, 1⟩ : SA) ([(((⟨saNil, saNil⟩ : RA), ((0 : Rat) : Rat)), (y1, (((1 : Int) : Rat) : Rat)))] : List QV) y_l21_awake y_l21_awake y_l21_awake y_l21_awake y_l21_awake y_l21_awake y_l21_awake y_l21_awake) [7, 3, 0] k_ k_ k_ rfl (fun y70 h71 => ?_)
  have haw := fun p7 p8 => aw_same (p7 := p7) (p8 := p8) h71
  refine RN.bq (no 5) [1, 4, 5] [] 11 [(1, pt b2), (4, sl y70.1 y70.2.length), (5, .int .i64 0)] k_ ?_
  refine RN.fs k_ ?_
  refine RN.bq [some 0, none] [1, 4, 5, 28] [b2, b2, b2] 2 [(1, pt b2), (4, sl y70.1 y70.2.length), (5, .int .i64 0), (28, .agg (ivC (⟨saNil, saNil⟩ : RA) (⟨false, ([] : List Nat), ([] : List Nat)⟩ : Raw) y1 (encQ ((1 : Int) : Rat))))] k_ ?_
  refine RN.turn 28 (v := .agg (ivC (⟨saNil, saNil⟩ : RA) (⟨false, ([] : List Nat), ([] : List Nat)⟩ : Raw) y1 (encQ ((1 : Int) : Rat)))) (v' := .agg (ivC (⟨saNil, saNil⟩ : RA) (encQ (0 : Rat)) y1 (encQ ((1 : Int) : Rat)))) k_ (by first | (rw [encQ_zero]; done) | (rw [encQ_zero]; rfl)) ?_
  refine RN.new (fun b => .slice (some ⟨b, 0, none⟩) 1 1) (.cells (encv ([(((⟨saNil, saNil⟩ : RA), ((0 : Rat) : Rat)), (y1, (((1 : Int) : Rat) : Rat)))] : List QV)) 43 (0, 0)) k_ k_ (fun w => by kernel_rfl) (fun b72 => ?_)
  refine RN.share 0 rfl rfl ?_
  refine RN.also (fL elv (⟨some ⟨b72, 0, none⟩, 1⟩ : SA) ([(((⟨saNil, saNil⟩ : RA), ((0 : Rat) : Rat)), (y1, (((1 : Int) : Rat) : Rat)))] : List QV)) (fun w h => fL_own (h _ (.head _)) (h _ (.tail _ ((.tail _ ((.tail _ ((.head _)))))))) x_ x_) ?_
  refine RN.turn 29 (v := .slice (some ⟨b72, 0, none⟩) 1 1) (v' := sl (⟨some ⟨b72, 0, none⟩, 1⟩ : SA) ([(((⟨saNil, saNil⟩ : RA), ((0 : Rat) : Rat)), (y1, (((1 : Int) : Rat) : Rat)))] : List QV).length) k_ (sl_eq x_) ?_
  refine RN.call (sg_Cells (⟨some ⟨b72, 0, none⟩, 1⟩ : SA) ([(((⟨saNil, saNil⟩ : RA), ((0 : Rat) : Rat)), (y1, (((1 : Int) : Rat) : Rat)))] : List QV) 2 y_l21_awake y_l21_awake y_l21_awake y_l21_awake y_l21_awake y_l21_awake) [0] k_ k_ k_ rfl (fun y73 h74 => ?_)
  have hce : ((y73.2.length : Nat) : Int) = 2 := h74.1.trans (show cel 2 1 = 2 from by decide)
  refine RN.bq (no 5) [1, 4, 5, 6, 7] [] 9 [(1, pt b2), (4, sl y70.1 y70.2.length), (5, .int .i64 0), (6, sl y73.1 y73.2.length), (7, .int .i64 0)] k_ ?_
  refine RN.fs k_ ?_
  refine RN.bq [none, none, none, none, none, none, none, none, none, some 0] [6, 39, 40, 41, 42] [b2, b2, b2] 10 [(6, sl y73.1 y73.2.length), (39, .bool true), (40, sl y70.1 y70.2.length), (41, ratV (⟨saNil, saNil⟩ : RA) (⟨false, ([] : List Nat), ([] : List Nat)⟩ : Raw)), (42, ratV y1 (encQ ((1 : Int) : Rat)))] k_ ?_
  refine RN.turn 41 (v := ratV (⟨saNil, saNil⟩ : RA) (⟨false, ([] : List Nat), ([] : List Nat)⟩ : Raw)) (v' := ratV (⟨saNil, saNil⟩ : RA) (encQ (0 : Rat))) k_ (by first | (rw [encQ_zero]; done) | (rw [encQ_zero]; rfl)) ?_
  refine RN.new (fun b => .slice (some ⟨b, 0, none⟩) 2 2) (.cells (encr ([((⟨saNil, saNil⟩ : RA), ((0 : Rat) : Rat)), (y1, (((1 : Int) : Rat) : Rat))] : List QR)) 40 (0, 0)) k_ k_ (fun w => by kernel_rfl) (fun b75 => ?_)
  refine RN.share 0 rfl rfl ?_
  refine RN.also (allL elr ([((⟨saNil, saNil⟩ : RA), ((0 : Rat) : Rat)), (y1, (((1 : Int) : Rat) : Rat))] : List QR)) (fun w h => allL_cons (h _ (.tail _ ((.tail _ ((.tail _ ((.tail _ ((.tail _ ((.tail _ ((.tail _ ((.tail _ ((.tail _ ((.tail _ ((.head _)))))))))))))))))))))) (allL_cons (h _ (.tail _ ((.tail _ ((.tail _ ((.tail _ ((.tail _ ((.tail _ ((.tail _ ((.tail _ ((.tail _ ((.tail _ ((.tail _ ((.tail _ ((.tail _ ((.tail _ ((.tail _ ((.tail _ ((.tail _ ((.tail _ ((.tail _ ((.tail _ ((.tail _ ((.head _)))))))))))))))))))))))))))))))))))))))))))) (allL_nil _ _))) ?_
  refine RN.also (fL elr (⟨some ⟨b75, 0, none⟩, 2⟩ : SA) ([((⟨saNil, saNil⟩ : RA), ((0 : Rat) : Rat)), (y1, (((1 : Int) : Rat) : Rat))] : List QR)) (fun w h => fL_own (h _ (.tail _ ((.head _)))) (h _ (.head _)) x_ x_) ?_
  refine RN.turn 43 (v := .slice (some ⟨b75, 0, none⟩) 2 2) (v' := sl (⟨some ⟨b75, 0, none⟩, 2⟩ : SA) ([((⟨saNil, saNil⟩ : RA), ((0 : Rat) : Rat)), (y1, (((1 : Int) : Rat) : Rat))] : List QR).length) k_ (sl_eq x_) ?_
  refine RN.also (fRats y70.1 (rawR y70.2)) (fun w h => fR_of_r (h _ (.tail _ ((.tail _ ((.tail _ ((.tail _ ((.tail _ ((.tail _ ((.head _))))))))))))))) ?_
  refine RN.turn 40 (v := sl y70.1 y70.2.length) (v' := sl y70.1 (rawR y70.2).length) k_ (sl_len (rawR_len _).symm) ?_
  refine RN.also (fRats (⟨some ⟨b75, 0, none⟩, 2⟩ : SA) (rawR ([((⟨saNil, saNil⟩ : RA), ((0 : Rat) : Rat)), (y1, (((1 : Int) : Rat) : Rat))] : List QR))) (fun w h => fR_of_r (h _ (.tail _ ((.head _))))) ?_
  refine RN.turn 43 (v := sl (⟨some ⟨b75, 0, none⟩, 2⟩ : SA) ([((⟨saNil, saNil⟩ : RA), ((0 : Rat) : Rat)), (y1, (((1 : Int) : Rat) : Rat))] : List QR).length) (v' := sl (⟨some ⟨b75, 0, none⟩, 2⟩ : SA) (rawR ([((⟨saNil, saNil⟩ : RA), ((0 : Rat) : Rat)), (y1, (((1 : Int) : Rat) : Rat))] : List QR)).length) k_ (sl_len (rawR_len _).symm) ?_
  refine RN.call (r03_SameList y70.1 (rawR y70.2) (⟨some ⟨b75, 0, none⟩, 2⟩ : SA) (rawR ([((⟨saNil, saNil⟩ : RA), ((0 : Rat) : Rat)), (y1, (((1 : Int) : Rat) : Rat))] : List QR))) [1, 0] k_ k_ k_ rfl (fun y76 _ => ?_)
  refine RN.bq (no 2) [6, 46] [] 14 [(6, sl y73.1 y73.2.length), (46, .bool (decide (sameL (rawR y70.2) (rawR ([((⟨saNil, saNil⟩ : RA), ((0 : Rat) : Rat)), (y1, (((1 : Int) : Rat) : Rat))] : List QR)))))] k_ ?_
  refine RN.split 46 (decide (sameL (rawR y70.2) (rawR ([((⟨saNil, saNil⟩ : RA), ((0 : Rat) : Rat)), (y1, (((1 : Int) : Rat) : Rat))] : List QR)))) k_ (fun c77 => ?_) (fun c77 => ?_)
  ·replace c77 := of_decide_eq_true c77
   refine RN.bq (no 5) [0] [] 19 [(0, .bool ((((y73.2.length : Nat) : Int) : Int) == 2))] k_ ?_
   refine RN.fin k_ ?_
   have e_1 : true = ((((y73.2.length : Nat) : Int) : Int) == 2) := by first | rfl | (rw [hce]; rfl)
   refine J.ret (KR.ret (v := .bool ((((y73.2.length : Nat) : Int) : Int) == 2)) (()) [none] [] [] k_ v1_ (trivial) v1_)
  ·replace c77 := of_decide_eq_false c77
   exact absurd c77 (by exact fun h => h (haw _ _))
end Go.Proofs.YtbiifkfbkaejlaaGreat.E
namespace Go.Proofs.YtbiifkfbkaejlaaGreat.E
open Go Go.RowKit
set_option linter.unusedVariables false
set_option linter.unusedSimpArgs false
theorem cel_small : ∀ kk, kk < 2 → ∀ nn, nn < 5 → cel ((1 + nn : Nat) : Int) (1 + kk) = (((if kk = 1 then (1 + nn) * (1 + nn) else 1 + nn) : Nat) : Int) := by decide
theorem cel_4096 : ∀ kk, kk < 2 → ∀ nn, nn < 5 → cel ((1 + nn : Nat) : Int) (1 + kk) ≤ 4096 := by decide
theorem mod2 (k : Int) : ∃ m : Nat, k % 2 = ((m : Nat) : Int) ∧ m < 2 := mod_nat (k := k) (n := 2) (by decide)
theorem mod5 (k : Int) : ∃ m : Nat, k % 5 = ((m : Nat) : Int) ∧ m < 5 := mod_nat (k := k) (n := 5) (by decide)
theorem abs_nn (q : Rat) : 0 ≤ absQ q := by unfold absQ; split <;> grind
theorem box_le (lo sz : List Int) (j : Nat) : (boxE lo sz j).1 ≤ (boxE lo sz j).2 := by
  have := abs_nn (numQ (sz.getD j 0))
  show numQ _ ≤ numQ _ + absQ _
  grind
theorem loQ_le {a b : Rat} (h : a ≤ b) : loQ a b = a := loQ_f (Rat.not_lt.2 h)
theorem hiQ_le {a b : Rat} (h : a ≤ b) : hiQ a b = b := hiQ_f (Rat.not_lt.2 h)
def isBox (lo sz : List Int) (k : Nat) (zs : List QV) : Prop := zs.length = k ∧ ∀ j, j < zs.length → (zs.getD j qv0).1.2 = (boxE lo sz j).1 ∧ (zs.getD j qv0).2.2 = (boxE lo sz j).2
theorem Q_boxE (lo sz : List Int) (j : Nat) : Q 11 (boxE lo sz j).1 ∧ Q 11 (boxE lo sz j).2 := ⟨(Q_numQ _).le (by decide), (Q_numQ _).add (Q_abs (Q_numQ _))⟩
theorem isBox_Q {lo sz : List Int} {k : Nat} {zs : List QV} (h : isBox lo sz k zs) : boxQ zs := fun i hi => by
  have h1 := h.2 i hi
  rw [h1.1, h1.2]
  exact ⟨(Q_boxE lo sz i).1.le (by decide), (Q_boxE lo sz i).2.le (by decide)⟩
structure BoxF (lo sz : List Int) (zs : List QV) (j : Nat) : Prop where
  h1 : Q 11 (zs.getD j qv0).1.2
  h2 : Q 11 (zs.getD j qv0).2.2
  le : (zs.getD j qv0).1.2 ≤ (zs.getD j qv0).2.2
theorem isBox_F {lo sz : List Int} {k : Nat} {zs : List QV} (h : isBox lo sz k zs) : ∀ j, j < zs.length → BoxF lo sz zs j := fun j hj => by
  have h1 := h.2 j hj
  refine ⟨?_, ?_, ?_⟩
  · rw [h1.1]; exact (Q_boxE lo sz j).1
  · rw [h1.2]; exact (Q_boxE lo sz j).2
  · rw [h1.1, h1.2]; exact box_le lo sz j
theorem part_mono {a b : Rat} {n : Nat} {k : Int} (h : a ≤ b) (hn : 1 ≤ n) : partQ a b n k ≤ partQ a b n (k + 1) := by
  have h0 : (0 : Rat) < (((n : Nat) : Int) : Rat) := by exact_mod_cast (show (0 : Int) < ((n : Nat) : Int) by omega)
  have h2 : ((k + 1 : Int) : Rat) = (k : Rat) + 1 := by simp [Rat.intCast_add]
  unfold partQ
  rw [h2]
  have hd : 0 ≤ b - a := by grind
  have : ((k : Rat) + 1) / (((n : Nat) : Int) : Rat) = (k : Rat) / (((n : Nat) : Int) : Rat) + 1 / (((n : Nat) : Int) : Rat) := by grind
  rw [this]
  have hi : 0 ≤ 1 / (((n : Nat) : Int) : Rat) := by
    rw [Rat.div_def, Rat.one_mul]; exact Rat.le_of_lt (Rat.inv_pos.2 h0)
  have := Rat.mul_nonneg hi hd
  grind
theorem natRat_pos {n : Nat} (hn : 1 ≤ n) : (0 : Rat) < (((n : Nat) : Int) : Rat) := by exact_mod_cast (show (0 : Int) < ((n : Nat) : Int) by omega)
theorem part_ge {a b : Rat} {n : Nat} {k : Int} (h : a ≤ b) (hn : 1 ≤ n) (hk : 0 ≤ k) : a ≤ partQ a b n k := by
  have h0 := natRat_pos hn
  have hk' : (0 : Rat) ≤ (k : Rat) := by exact_mod_cast hk
  have hi : 0 ≤ (k : Rat) / (((n : Nat) : Int) : Rat) := by
    rw [Rat.div_def]; exact Rat.mul_nonneg hk' (Rat.le_of_lt (Rat.inv_pos.2 h0))
  have hd : 0 ≤ b - a := by grind
  have := Rat.mul_nonneg hi hd
  unfold partQ
  grind
theorem part_le {a b : Rat} {n : Nat} {k : Int} (h : a ≤ b) (hn : 1 ≤ n) (hk : k ≤ n) : partQ a b n k ≤ b := by
  have h0 := natRat_pos hn
  have hk' : (0 : Rat) ≤ (((n : Nat) : Int) : Rat) - (k : Rat) := by
    have : ((k : Int) : Rat) ≤ (((n : Nat) : Int) : Rat) := by exact_mod_cast hk
    grind
  have hi : 0 ≤ ((((n : Nat) : Int) : Rat) - (k : Rat)) / (((n : Nat) : Int) : Rat) := by
    rw [Rat.div_def]; exact Rat.mul_nonneg hk' (Rat.le_of_lt (Rat.inv_pos.2 h0))
  have hd : 0 ≤ b - a := by grind
  have h3 := Rat.mul_nonneg hi hd
  have e : ((((n : Nat) : Int) : Rat) - (k : Rat)) / (((n : Nat) : Int) : Rat) * (b - a) = b - (a + (k : Rat) / (((n : Nat) : Int) : Rat) * (b - a)) := by grind
  rw [e] at h3
  unfold partQ
  grind
theorem part_width {a b : Rat} {n : Nat} {k : Int} (hn : 1 ≤ n) : (partQ a b n (k + 1) - partQ a b n k) * (((n : Nat) : Int) : Rat) = b - a := by
  have h0 := natRat_pos hn
  have h2 : ((k + 1 : Int) : Rat) = (k : Rat) + 1 := by simp [Rat.intCast_add]
  unfold partQ
  rw [h2]
  grind
structure CellF (zs : List QV) (n i j : Nat) (e : QV) : Prop where
  e1 : e.1.2 = partQ (zs.getD j qv0).1.2 (zs.getD j qv0).2.2 n ((i / n ^ j % n : Nat) : Int)
  e2 : e.2.2 = partQ (zs.getD j qv0).1.2 (zs.getD j qv0).2.2 n (((i / n ^ j % n : Nat) : Int) + 1)
  h1 : Q 300007 e.1.2
  h2 : Q 300007 e.2.2
  le : e.1.2 ≤ e.2.2
  ge : (zs.getD j qv0).1.2 ≤ e.1.2
  up : e.2.2 ≤ (zs.getD j qv0).2.2
  w : (e.2.2 - e.1.2) * (((n : Nat) : Int) : Rat) = (zs.getD j qv0).2.2 - (zs.getD j qv0).1.2
theorem cell_F {lo sz : List Int} {zs : List QV} {n i j : Nat} {e : QV} (hn : 1 ≤ n) (hn2 : n ≤ 1000) (hb : BoxF lo sz zs j) (h : celEl zs n i j e) : CellF zs n i j e := by
  obtain ⟨h1, h2⟩ := h
  unfold pLo pHi at h1 h2
  rw [loQ_le hb.le, hiQ_le hb.le] at h1 h2
  have hm := part_mono (k := ((i / n ^ j % n : Nat) : Int)) hb.le hn
  rw [loQ_le hm] at h1
  rw [hiQ_le hm] at h2
  have hq : i / n ^ j % n < n := Nat.mod_lt _ hn
  have hQ1 := Q_part (k := ((i / n ^ j % n : Nat) : Int)) (m := n) (hb.h1.le (by decide : 11 ≤ 100000)) (hb.h2.le (by decide : 11 ≤ 100000)) (by omega) (by omega) (by omega) (by omega)
  have hQ2 := Q_part (k := ((i / n ^ j % n : Nat) : Int) + 1) (m := n) (hb.h1.le (by decide : 11 ≤ 100000)) (hb.h2.le (by decide : 11 ≤ 100000)) (by omega) (by omega) (by omega) (by omega)
  exact ⟨h1, h2, h1 ▸ hQ1.2.2.2, h2 ▸ hQ2.2.2.2, h1 ▸ h2 ▸ hm, h1 ▸ part_ge hb.le hn (by omega), h2 ▸ part_le hb.le hn (by omega), by rw [h1, h2]; exact part_width hn⟩
def atQ (zs : List QV) (sh : List Int) (j : Nat) : Rat := (zs.getD j qv0).1.2 + (hiQ (zs.getD j qv0).1.2 (zs.getD j qv0).2.2 - loQ (zs.getD j qv0).1.2 (zs.getD j qv0).2.2) * (((sh.getD j 0 % 13 : Int) : Rat) / ((12 : Int) : Rat))
theorem within_t {c d a b : Rat} (h1 : a ≤ c) (h2 : c ≤ d) (h3 : d ≤ b) : ((!decide (loQ c d < loQ a b) && !decide (hiQ a b < loQ c d)) && (!decide (hiQ c d < loQ a b) && !decide (hiQ a b < hiQ c d))) = true := by
  have hab : a ≤ b := Rat.le_trans h1 (Rat.le_trans h2 h3)
  rw [loQ_le h2, hiQ_le h2, loQ_le hab, hiQ_le hab]
  simp only [Bool.and_eq_true, Bool.not_eq_true', decide_eq_false_iff_not, Rat.not_lt]
  exact ⟨⟨h1, Rat.le_trans h2 h3⟩, Rat.le_trans h1 h2, h3⟩
def insJ (zs : List QV) (sh : List Int) (n i j : Nat) : Prop := partQ (zs.getD j qv0).1.2 (zs.getD j qv0).2.2 n ((i / n ^ j % n : Nat) : Int) ≤ atQ zs sh j ∧ atQ zs sh j ≤ partQ (zs.getD j qv0).1.2 (zs.getD j qv0).2.2 n (((i / n ^ j % n : Nat) : Int) + 1)
theorem ins_t {zs : List QV} {sh : List Int} {n i j : Nat} {e : QV} (hc : CellF zs n i j e) (h : insJ zs sh n i j) : (!decide (atQ zs sh j < loQ e.1.2 e.2.2) && !decide (hiQ e.1.2 e.2.2 < atQ zs sh j)) = true := by
  rw [loQ_le hc.le, hiQ_le hc.le, hc.e1, hc.e2]
  simp only [Bool.and_eq_true, Bool.not_eq_true', decide_eq_false_iff_not, Rat.not_lt]
  exact h
theorem grid : ∀ m, m < 13 → ∀ nn, nn < 5 → ∃ q, q < 1 + nn ∧ q * 12 ≤ m * (1 + nn) ∧ m * (1 + nn) ≤ (q + 1) * 12 := by decide
theorem ratio_le {a b c d : Nat} (hb : 0 < b) (hd : 0 < d) (h : a * d ≤ c * b) : (((a : Nat) : Int) : Rat) / (((b : Nat) : Int) : Rat) ≤ (((c : Nat) : Int) : Rat) / (((d : Nat) : Int) : Rat) := by
  have hb' := natRat_pos hb
  have hd' := natRat_pos hd
  have h' : (((a : Nat) : Int) : Rat) * (((d : Nat) : Int) : Rat) ≤ (((c : Nat) : Int) : Rat) * (((b : Nat) : Int) : Rat) := by exact_mod_cast h
  have hi : 0 ≤ ((((b : Nat) : Int) : Rat) * (((d : Nat) : Int) : Rat))⁻¹ := Rat.le_of_lt (Rat.inv_pos.2 (Rat.mul_pos hb' hd'))
  have h0 : 0 ≤ (((c : Nat) : Int) : Rat) * (((b : Nat) : Int) : Rat) - (((a : Nat) : Int) : Rat) * (((d : Nat) : Int) : Rat) := by grind
  have h3 := Rat.mul_nonneg h0 hi
  have e : ((((c : Nat) : Int) : Rat) * (((b : Nat) : Int) : Rat) - (((a : Nat) : Int) : Rat) * (((d : Nat) : Int) : Rat)) * ((((b : Nat) : Int) : Rat) * (((d : Nat) : Int) : Rat))⁻¹ = (((c : Nat) : Int) : Rat) / (((d : Nat) : Int) : Rat) - (((a : Nat) : Int) : Rat) / (((b : Nat) : Int) : Rat) := by grind
  rw [e] at h3
  grind
theorem ins_of {lo sz : List Int} {zs : List QV} {sh : List Int} {n i j q : Nat} (hn : 1 ≤ n) (hb : BoxF lo sz zs j) {m : Nat} (hm : sh.getD j 0 % 13 = ((m : Nat) : Int)) (hq : i / n ^ j % n = q) (h1 : q * 12 ≤ m * n) (h2 : m * n ≤ (q + 1) * 12) : insJ zs sh n i j := by
  have r1 := ratio_le (a := q) (b := n) (c := m) (d := 12) (by omega) (by decide) h1
  have r2 := ratio_le (a := m) (b := 12) (c := q + 1) (d := n) (by decide) (by omega) h2
  have hd : 0 ≤ (zs.getD j qv0).2.2 - (zs.getD j qv0).1.2 := by have := hb.le; grind
  unfold insJ atQ partQ
  rw [hq, hm, loQ_le hb.le, hiQ_le hb.le]
  have e2 : (((q : Int) + 1 : Int) : Rat) = ((((q + 1 : Nat) : Nat) : Int) : Rat) := by simp
  rw [e2]
  generalize (((q : Nat) : Int) : Rat) / (((n : Nat) : Int) : Rat) = x at *
  generalize (((m : Nat) : Int) : Rat) / (((12 : Nat) : Int) : Rat) = y at *
  generalize ((((q + 1 : Nat) : Nat) : Int) : Rat) / (((n : Nat) : Int) : Rat) = z at *
  have s1 := Rat.mul_nonneg (show 0 ≤ y - x by grind) hd
  have s2 := Rat.mul_nonneg (show 0 ≤ z - y by grind) hd
  show _ ≤ _ + _ * y ∧ _ + _ * y ≤ _
  constructor <;> grind
theorem ex_cell {lo sz : List Int} {zs : List QV} {sh : List Int} {kk nn : Nat} (hk : kk < 2) (hn : nn < 5) (hl : zs.length = 1 + kk) (hb : ∀ j, j < zs.length → BoxF lo sz zs j) : ∃ i, i < (if kk = 1 then (1 + nn) * (1 + nn) else 1 + nn) ∧ ∀ j, j < 1 + kk → insJ zs sh (1 + nn) i j := by
  obtain ⟨m0, hm0, h0⟩ := mod_nat (k := sh.getD 0 0) (n := 13) (by decide)
  obtain ⟨m1, hm1, h1⟩ := mod_nat (k := sh.getD 1 0) (n := 13) (by decide)
  obtain ⟨q0, a0, b0, c0⟩ := grid m0 h0 nn hn
  obtain ⟨q1, a1, b1, c1⟩ := grid m1 h1 nn hn
  rcases Nat.lt_or_ge kk 1 with h | h
  · obtain rfl : kk = 0 := by omega
    refine ⟨q0, by simpa using a0, fun j hj => ?_⟩
    obtain rfl : j = 0 := by omega
    exact ins_of (by omega) (hb 0 (by omega)) hm0 (by rw [Nat.pow_zero, Nat.div_one, Nat.mod_eq_of_lt a0]) b0 c0
  · obtain rfl : kk = 1 := by omega
    have hlt : q0 + q1 * (1 + nn) < (1 + nn) * (1 + nn) := by
      have : (q1 + 1) * (1 + nn) ≤ (1 + nn) * (1 + nn) := Nat.mul_le_mul_right _ a1
      rw [Nat.succ_mul] at this; omega
    refine ⟨q0 + q1 * (1 + nn), by simpa using hlt, fun j hj => ?_⟩
    rcases Nat.lt_or_ge j 1 with hj0 | hj0
    · obtain rfl : j = 0 := by omega
      exact ins_of (by omega) (hb 0 (by omega)) hm0 (by rw [Nat.pow_zero, Nat.div_one, Nat.add_mul_mod_self_right, Nat.mod_eq_of_lt a0]) b0 c0
    · obtain rfl : j = 1 := by omega
      exact ins_of (by omega) (hb 1 (by omega)) hm1 (by rw [Nat.pow_one, Nat.add_mul_div_right _ _ (by omega), Nat.div_eq_of_lt a0, Nat.zero_add, Nat.mod_eq_of_lt a1]) b1 c1
theorem cells_F {lo sz : List Int} {zs : List QV} {n k : Nat} {cy : List QVRow} (hn : 1 ≤ n) (hn2 : n ≤ 1000) (hl : zs.length = k) (hb : ∀ j, j < zs.length → BoxF lo sz zs j) (h : ∀ i, i < cy.length → cellOk zs n i (cy.getD i (saNil, []))) : ∀ i, i < cy.length → (cy.getD i (saNil, [])).2.length = k ∧ ∀ j, j < k → CellF zs n i j ((cy.getD i (saNil, [])).2.getD j qv0) := fun i hi => by
  have h1 := h i hi
  have hl2 : (cy.getD i (saNil, [])).2.length = k := h1.1.trans hl
  exact ⟨hl2, fun j hj => cell_F hn hn2 (hb j (by omega)) (h1.2 j (by omega))⟩
theorem within_n {c d a b : Rat} (h1 : a ≤ c) (h2 : c ≤ d) (h3 : d ≤ b) : ¬ (!((!decide (loQ c d < loQ a b) && !decide (hiQ a b < loQ c d)) && (!decide (hiQ c d < loQ a b) && !decide (hiQ a b < hiQ c d)))) = true := by
  rw [within_t h1 h2 h3]; decide
theorem width_n {zs : List QV} {n i j : Nat} {e : QV} (h : CellF zs n i j e) : encQ ((hiQ e.1.2 e.2.2 - loQ e.1.2 e.2.2) * (((n : Nat) : Int) : Rat)) = encQ (hiQ (zs.getD j qv0).1.2 (zs.getD j qv0).2.2 - loQ (zs.getD j qv0).1.2 (zs.getD j qv0).2.2) := by
  have hz : (zs.getD j qv0).1.2 ≤ (zs.getD j qv0).2.2 := Rat.le_trans h.ge (Rat.le_trans h.le h.up)
  rw [hiQ_le h.le, loQ_le h.le, hiQ_le hz, loQ_le hz, h.w]
theorem y_l21_CellsFill {p : Prop} (h : p := by first | omega | assumption | exact Lb_toL _ | (simp; done) | (rw [hzl]; exact cel_4096 kk hkk2 nn hnn2) | exact hzQ | with_reducible exact Q.le f1 (by decide) | with_reducible exact Q.le f2 (by decide) | with_reducible exact Q.le f3 (by decide) | with_reducible exact Q.le f4 (by decide) | with_reducible exact Q.le s1 (by decide) | with_reducible exact Q.le s2 (by decide) | with_reducible exact Q.le w1 (by decide) | with_reducible exact Q.le w2 (by decide) | with_reducible exact Q.le w3 (by decide) | with_reducible exact Q.le w4 (by decide) | with_reducible exact Q.le w5 (by decide) | with_reducible exact Q.le w6 (by decide) | with_reducible exact Q.le w7 (by decide)) : p := h
set_option maxHeartbeats 2000000 in
theorem l21_CellsFill (s : SA) (lo : List Int) (t : SA) (sz : List Int) (k : Int) (parts : Int) (u : SA) (sh : List Int) (hlo : ∀ z ∈ lo, -9223372036854775808 ≤ z ∧ z < 9223372036854775808) (hsz : ∀ z ∈ sz, -9223372036854775808 ≤ z ∧ z < 9223372036854775808) (hsh : ∀ z ∈ sh, -9223372036854775808 ≤ z ∧ z < 9223372036854775808) : Spec Tryz.prog 4 #[.agg #[sl s lo.length, sl t sz.length], .int .i64 k, .int .i64 parts, sl u sh.length] [fI s lo, fI t sz, fI u sh] (ι := Unit) (fun y => .bool true) (fun y => True) (fun y => []) := by
 refine Spec.of_body _ (fn := Tryz.f4) k_ rfl k_ (fun X w0 => ?_)
 refine J.fact (φ := lo.length ≤ 140737488355328) (fun w h => by have := (h _ (.head _)).1; omega) (fun hl1 => ?_)
 refine J.fact (φ := sz.length ≤ 140737488355328) (fun w h => by have := (h _ (.tail _ ((.head _)))).1; omega) (fun hl2 => ?_)
 refine J.fact (φ := sh.length ≤ 140737488355328) (fun w h => by have := (h _ (.tail _ ((.tail _ ((.head _)))))).1; omega) (fun hl3 => ?_)
 refine J.sreg ?_
 refine RN.new (fun b => pt b) (.cells #[sl s lo.length, sl t sz.length] 26 (0, 0)) k_ k_ (fun w => by kernel_rfl) (fun b4 => ?_)
 refine RN.bq (no 1) [1, 2, 3, 4] [] 2 [(1, .int .i64 k), (2, .int .i64 parts), (3, sl u sh.length), (4, pt b4)] k_ ?_
 refine RN.fs k_ ?_
 refine RN.bq (no 1) [2, 3, 4, 18] [] 1 [(2, .int .i64 parts), (3, sl u sh.length), (4, pt b4), (18, .int .i64 k)] k_ ?_
 refine RN.call (made_Mod k 2 y_l21_CellsFill y_l21_CellsFill) [] k_ k_ k_ rfl (fun y5 _ => ?_)
 obtain ⟨kk, hkk, hkk2⟩ := mod2 k
 rw [show (k % 2) = ((kk : Nat) : Int) from hkk]
 refine RN.bq (no 1) [2, 3, 4, 20] [] 3 [(2, .int .i64 parts), (3, sl u sh.length), (4, pt b4), (20, .int .i64 (IntKind.i64.wrap (1 + ((kk : Nat) : Int))))] k_ ?_
 rw [show IntKind.i64.wrap (1 + ((kk : Nat) : Int)) = ((1 + kk : Nat) : Int) from by rw [IntKind.wrap_i64]; omega]
 refine RN.bq (no 1) [3, 4, 20, 21] [] 4 [(3, sl u sh.length), (4, pt b4), (20, .int .i64 ((1 + kk : Nat) : Int)), (21, .int .i64 parts)] k_ ?_
 refine RN.call (made_Mod parts 5 y_l21_CellsFill y_l21_CellsFill) [] k_ k_ k_ rfl (fun y6 _ => ?_)
 obtain ⟨nn, hnn, hnn2⟩ := mod5 parts
 have hnsq : (1 + nn) * (1 + nn) ≤ 25 := Nat.mul_le_mul (by omega : 1 + nn ≤ 5) (by omega : 1 + nn ≤ 5)
 rw [show (parts % 5) = ((nn : Nat) : Int) from hnn]
 refine RN.bq (no 1) [3, 4, 20, 23] [] 6 [(3, sl u sh.length), (4, pt b4), (20, .int .i64 ((1 + kk : Nat) : Int)), (23, .int .i64 (IntKind.i64.wrap (1 + ((nn : Nat) : Int))))] k_ ?_
 rw [show IntKind.i64.wrap (1 + ((nn : Nat) : Int)) = ((1 + nn : Nat) : Int) from by rw [IntKind.wrap_i64]; omega]
 refine RN.bq (no 2) [1, 2, 3, 4] [] 8 [(1, .int .i64 ((1 + kk : Nat) : Int)), (2, .int .i64 ((1 + nn : Nat) : Int)), (3, sl u sh.length), (4, pt b4)] k_ ?_
 refine RN.fs k_ ?_
 refine RN.bq [some 0, none] [1, 2, 3, 24, 25] [b4, b4] 2 [(1, .int .i64 ((1 + kk : Nat) : Int)), (2, .int .i64 ((1 + nn : Nat) : Int)), (3, sl u sh.length), (24, .agg #[sl s lo.length, sl t sz.length]), (25, .int .i64 ((1 + kk : Nat) : Int))] k_ ?_
 refine RN.call (l21_Intervals s lo t sz (1 + kk) y_l21_CellsFill y_l21_CellsFill y_l21_CellsFill) [0, 1] k_ k_ k_ rfl (fun z h7 => ?_)
 have hz : isBox lo sz (1 + kk) z.2 := h7
 have hzl := hz.1
 have hzF := isBox_F hz
 have hzQ := isBox_Q hz
 refine RN.bq (no 1) [1, 2, 3, 9] [] 4 [(1, .int .i64 ((1 + kk : Nat) : Int)), (2, .int .i64 ((1 + nn : Nat) : Int)), (3, sl u sh.length), (9, sl z.1 z.2.length)] k_ ?_
 refine RN.fs k_ ?_
 refine RN.bq (no 2) [1, 2, 3, 9, 28, 29] [] 2 [(1, .int .i64 ((1 + kk : Nat) : Int)), (2, .int .i64 ((1 + nn : Nat) : Int)), (3, sl u sh.length), (9, sl z.1 z.2.length), (28, sl z.1 z.2.length), (29, .int .i64 ((1 + nn : Nat) : Int))] k_ ?_
 refine RN.call (sg_Cells z.1 z.2 (1 + nn) y_l21_CellsFill y_l21_CellsFill y_l21_CellsFill y_l21_CellsFill y_l21_CellsFill y_l21_CellsFill) [0] k_ k_ k_ rfl (fun cy h8 => ?_)
 obtain ⟨hcy1, hcy2⟩ := h8
 rw [hzl, cel_small kk hkk2 nn hnn2] at hcy1
 have hcy3 : cy.2.length = if kk = 1 then (1 + nn) * (1 + nn) else 1 + nn := Int.ofNat.inj hcy1
 have hcF := cells_F (by omega) (by omega) hzl hzF hcy2
 refine RN.bq (no 5) [1, 2, 3, 9, 10, 11] [] 8 [(1, .int .i64 ((1 + kk : Nat) : Int)), (2, .int .i64 ((1 + nn : Nat) : Int)), (3, sl u sh.length), (9, sl z.1 z.2.length), (10, sl cy.1 cy.2.length), (11, .int .i64 0)] k_ ?_
 refine RN.fs k_ ?_
 refine RN.bq (no 2) [1, 2, 3, 9, 10, 11, 12] [] 2 [(1, .int .i64 ((1 + kk : Nat) : Int)), (2, .int .i64 ((1 + nn : Nat) : Int)), (3, sl u sh.length), (9, sl z.1 z.2.length), (10, sl cy.1 cy.2.length), (11, .int .i64 0), (12, .int .i64 ((1 + nn : Nat) : Int))] k_ ?_
 refine RN.fin k_ ?_
 refine J.seqC (ι := (Nat)) (fun x => x = cy.2.length) (fun x => [(1, .int .i64 ((1 + kk : Nat) : Int)), (2, .int .i64 ((1 + nn : Nat) : Int)), (3, sl u sh.length), (9, sl z.1 z.2.length), (10, sl cy.1 cy.2.length), (11, .int .i64 0), (12, .int .i64 ((x : Nat) : Int))]) (fun x => [(b4, .cells #[sl s lo.length, sl t sz.length] 26 (0, 0))]) (fun x => [fL elw cy.1 cy.2, fL elv z.1 z.2, fI s lo, fI t sz, fI u sh]) ?_ ?_
 ·refine J.sreg ?_
  refine RN.bq (no 2) [1, 2, 3, 9, 10, 11, 12, 35] [] 2 [(1, .int .i64 ((1 + kk : Nat) : Int)), (2, .int .i64 ((1 + nn : Nat) : Int)), (3, sl u sh.length), (9, sl z.1 z.2.length), (10, sl cy.1 cy.2.length), (11, .int .i64 0), (12, .int .i64 ((1 + nn : Nat) : Int)), (35, .bool ((((1 + kk : Nat) : Int) : Int) == 2))] k_ ?_
  refine RN.fin k_ ?_
  refine J.cond ((((1 + kk : Nat) : Int) : Int) == 2) k_ (fun c9 => ?_) (fun c9 => ?_)
  ·replace c9 := eq_of_beq c9
   refine J.regN ?_
   refine RN.bq (no 3) [1, 2, 3, 9, 10, 11, 38] [] 3 [(1, .int .i64 ((1 + kk : Nat) : Int)), (2, .int .i64 ((1 + nn : Nat) : Int)), (3, sl u sh.length), (9, sl z.1 z.2.length), (10, sl cy.1 cy.2.length), (11, .int .i64 0), (38, .int .i64 (IntKind.i64.wrap (((1 + nn : Nat) : Int) * ((1 + nn : Nat) : Int))))] k_ ?_
   rw [show IntKind.i64.wrap (((1 + nn : Nat) : Int) * ((1 + nn : Nat) : Int)) = (((1 + nn) * (1 + nn) : Nat) : Int) from by rw [IntKind.wrap_i64]; omega]
   refine RN.bq (no 1) [1, 2, 3, 9, 10, 11, 12] [] 4 [(1, .int .i64 ((1 + kk : Nat) : Int)), (2, .int .i64 ((1 + nn : Nat) : Int)), (3, sl u sh.length), (9, sl z.1 z.2.length), (10, sl cy.1 cy.2.length), (11, .int .i64 0), (12, .int .i64 (((1 + nn) * (1 + nn) : Nat) : Int))] k_ ?_
   refine RN.done k_ ?_
   refine KN.meet ((1 + nn) * (1 + nn)) [1, 2, 3, 9, 10, 11, 12] [0, 1, 2, 3, 4] (l2 := [(1, .int .i64 ((1 + kk : Nat) : Int)), (2, .int .i64 ((1 + nn : Nat) : Int)), (3, sl u sh.length), (9, sl z.1 z.2.length), (10, sl cy.1 cy.2.length), (11, .int .i64 0), (12, .int .i64 (((1 + nn) * (1 + nn) : Nat) : Int))]) (by (try dsimp only); rw [hcy3, if_pos (by omega)]) k_ (by rfl) (by rfl) (by rfl)
  ·replace c9 := ne_of_beq_false c9
   refine J.skip ?_
   refine KN.meet (1 + nn) [1, 2, 3, 9, 10, 11, 12] [0, 1, 2, 3, 4] (l2 := [(1, .int .i64 ((1 + kk : Nat) : Int)), (2, .int .i64 ((1 + nn : Nat) : Int)), (3, sl u sh.length), (9, sl z.1 z.2.length), (10, sl cy.1 cy.2.length), (11, .int .i64 0), (12, .int .i64 ((1 + nn : Nat) : Int))]) (by (try dsimp only); rw [hcy3, if_neg (by omega)]) k_ (by rfl) (by rfl) (by rfl)
 ·intro n hn
  replace hn : n = cy.2.length := hn
  have hn25 : n ≤ 25 := by rw [hn, hcy3]; split <;> omega
  refine J.seq ?_
  refine J.sreg ?_
  refine RN.bq (no 8) [1, 2, 3, 9, 10, 12, 46] [] 8 [(1, .int .i64 ((1 + kk : Nat) : Int)), (2, .int .i64 ((1 + nn : Nat) : Int)), (3, sl u sh.length), (9, sl z.1 z.2.length), (10, sl cy.1 cy.2.length), (12, .int .i64 ((n : Nat) : Int)), (46, .bool ((((cy.2.length : Nat) : Int) : Int) != ((n : Nat) : Int)))] k_ ?_
  refine RN.fin k_ ?_
  refine J.cond ((((cy.2.length : Nat) : Int) : Int) != ((n : Nat) : Int)) k_ (fun c10 => ?_) (fun c10 => ?_)
  ·replace c10 := bne_iff_ne.1 c10
   exact absurd c10 (by omega)
  ·replace c10 := bne_eq_false_iff_eq.1 c10
   refine J.skip ?_
   refine KN.next ?_
   refine J.sreg ?_
   refine RN.bq (no 1) [1, 2, 3, 9, 10, 12, 13] [] 1 [(1, .int .i64 ((1 + kk : Nat) : Int)), (2, .int .i64 ((1 + nn : Nat) : Int)), (3, sl u sh.length), (9, sl z.1 z.2.length), (10, sl cy.1 cy.2.length), (12, .int .i64 ((n : Nat) : Int)), (13, .bool false)] k_ ?_
   refine RN.fin k_ ?_
   refine J.seq ?_
   refine J.sreg ?_
   refine RN.bq (no 1) [1, 2, 3, 9, 10, 12, 13, 14] [] 1 [(1, .int .i64 ((1 + kk : Nat) : Int)), (2, .int .i64 ((1 + nn : Nat) : Int)), (3, sl u sh.length), (9, sl z.1 z.2.length), (10, sl cy.1 cy.2.length), (12, .int .i64 ((n : Nat) : Int)), (13, .bool false), (14, .int .i64 0)] k_ ?_
   refine RN.fin k_ ?_
   refine J.block ?_
   refine J.loop (ι := (Nat) × (Bool)) (fun x => x.1 ≤ n ∧ ∀ q, q < x.1 → (∀ jj, jj < 1 + kk → insJ z.2 sh (1 + nn) q jj) → x.2 = true) (fun x => n - x.1) (fun x => [(1, .int .i64 ((1 + kk : Nat) : Int)), (2, .int .i64 ((1 + nn : Nat) : Int)), (3, sl u sh.length), (9, sl z.1 z.2.length), (10, sl cy.1 cy.2.length), (12, .int .i64 ((n : Nat) : Int)), (13, .bool x.2), (14, .int .i64 ((x.1 : Nat) : Int))]) (fun x => [(b4, .cells #[sl s lo.length, sl t sz.length] 26 (0, 0))]) (fun x => [fL elw cy.1 cy.2, fL elv z.1 z.2, fI s lo, fI t sz, fI u sh]) (0, false) [1, 2, 3, 9, 10, 12, 13, 14] [0, 1, 2, 3, 4] (⟨Nat.zero_le _, fun q h => absurd h (Nat.not_lt_zero _)⟩) k_ (by first | rfl | (simp only [encQ_zero]; done) | (simp only [encQ_zero]; rfl)) (by rfl) (fun x11 hI => ?_)
   obtain ⟨i, fd⟩ := x11
   replace hI : i ≤ n ∧ ∀ q, q < i → (∀ jj, jj < 1 + kk → insJ z.2 sh (1 + nn) q jj) → fd = true := hI
   obtain ⟨hI1, hI2⟩ := hI
   refine J.seq ?_
   refine J.sreg ?_
   refine RN.bq (no 3) [1, 2, 3, 9, 10, 12, 13, 14, 49] [] 3 [(1, .int .i64 ((1 + kk : Nat) : Int)), (2, .int .i64 ((1 + nn : Nat) : Int)), (3, sl u sh.length), (9, sl z.1 z.2.length), (10, sl cy.1 cy.2.length), (12, .int .i64 ((n : Nat) : Int)), (13, .bool fd), (14, .int .i64 ((i : Nat) : Int)), (49, .bool (decide (((i : Nat) : Int) < ((n : Nat) : Int))))] k_ ?_
   refine RN.fin k_ ?_
   refine J.cond (decide (((i : Nat) : Int) < ((n : Nat) : Int))) k_ (fun c12 => ?_) (fun c12 => ?_)
   ·replace c12 := of_decide_eq_true c12
    refine J.skip ?_
    refine KN.next ?_
    refine J.seq ?_
    refine J.block ?_
    refine J.seq ?_
    refine J.sreg ?_
    refine RN.bq (no 2) [1, 2, 3, 9, 10, 12, 13, 14, 52, 53] [] 2 [(1, .int .i64 ((1 + kk : Nat) : Int)), (2, .int .i64 ((1 + nn : Nat) : Int)), (3, sl u sh.length), (9, sl z.1 z.2.length), (10, sl cy.1 cy.2.length), (12, .int .i64 ((n : Nat) : Int)), (13, .bool fd), (14, .int .i64 ((i : Nat) : Int)), (52, sl cy.1 cy.2.length), (53, .int .i64 ((i : Nat) : Int))] k_ ?_
    refine RN.val _ k_ k_ (q_lidx (t := 54) (x := (.tmp 52)) (ix := (.tmp 53)) (K := .i64) (i0 := ((i : Nat) : Int)) (m := i) (e := 31) (E := elw) (sz := 1) (s := cy.1) (xs := cy.2) 0 rfl rfl k_ k_ k_ k_ k_ (by omega) x_) ?_
    refine RN.val _ k_ k_ (q_lload1 (T := 31) (x := (.tmp 54)) (m := i) (s := cy.1) (E := elw) (xs := cy.2) 0 rfl rfl k_ k_ k_ rfl x_) ?_
    refine RN.also (fL elv ((cy.2.getD i (saNil, [])).1) ((cy.2.getD i (saNil, [])).2)) (fun w h => (fL_elem (h _ (.head _)) x_)) ?_
    refine RN.bq (no 3) [1, 2, 3, 9, 10, 12, 13, 14, 58] [] 7 [(1, .int .i64 ((1 + kk : Nat) : Int)), (2, .int .i64 ((1 + nn : Nat) : Int)), (3, sl u sh.length), (9, sl z.1 z.2.length), (10, sl cy.1 cy.2.length), (12, .int .i64 ((n : Nat) : Int)), (13, .bool fd), (14, .int .i64 ((i : Nat) : Int)), (58, .bool ((((((cy.2.getD i (saNil, [])).2).length : Nat) : Int) : Int) != ((1 + kk : Nat) : Int)))] k_ ?_
    refine RN.fin k_ ?_
    refine J.cond ((((((cy.2.getD i (saNil, [])).2).length : Nat) : Int) : Int) != ((1 + kk : Nat) : Int)) k_ (fun c13 => ?_) (fun c13 => ?_)
    ·replace c13 := bne_iff_ne.1 c13
     exact absurd c13 (by have := (hcF i (by omega)).1; omega)
    ·replace c13 := bne_eq_false_iff_eq.1 c13
     refine J.skip ?_
     refine KN.next ?_
     refine J.sreg ?_
     refine RN.bq (no 1) [1, 2, 3, 9, 10, 12, 13, 14, 15] [] 1 [(1, .int .i64 ((1 + kk : Nat) : Int)), (2, .int .i64 ((1 + nn : Nat) : Int)), (3, sl u sh.length), (9, sl z.1 z.2.length), (10, sl cy.1 cy.2.length), (12, .int .i64 ((n : Nat) : Int)), (13, .bool fd), (14, .int .i64 ((i : Nat) : Int)), (15, .bool true)] k_ ?_
     refine RN.fin k_ ?_
     refine J.seq ?_
     refine J.sreg ?_
     refine RN.bq (no 1) [1, 2, 3, 9, 10, 12, 13, 14, 15, 16] [] 1 [(1, .int .i64 ((1 + kk : Nat) : Int)), (2, .int .i64 ((1 + nn : Nat) : Int)), (3, sl u sh.length), (9, sl z.1 z.2.length), (10, sl cy.1 cy.2.length), (12, .int .i64 ((n : Nat) : Int)), (13, .bool fd), (14, .int .i64 ((i : Nat) : Int)), (15, .bool true), (16, .int .i64 0)] k_ ?_
     refine RN.fin k_ ?_
     refine J.block ?_
     refine J.loop (ι := (Nat) × (Bool)) (fun x => x.1 ≤ 1 + kk ∧ ((∀ jj, jj < x.1 → insJ z.2 sh (1 + nn) i jj) → x.2 = true)) (fun x => 1 + kk - x.1) (fun x => [(1, .int .i64 ((1 + kk : Nat) : Int)), (2, .int .i64 ((1 + nn : Nat) : Int)), (3, sl u sh.length), (9, sl z.1 z.2.length), (10, sl cy.1 cy.2.length), (12, .int .i64 ((n : Nat) : Int)), (13, .bool fd), (14, .int .i64 ((i : Nat) : Int)), (15, .bool x.2), (16, .int .i64 ((x.1 : Nat) : Int))]) (fun x => [(b4, .cells #[sl s lo.length, sl t sz.length] 26 (0, 0))]) (fun x => [fL elv ((cy.2.getD i (saNil, [])).1) ((cy.2.getD i (saNil, [])).2), fL elw cy.1 cy.2, fL elv z.1 z.2, fI s lo, fI t sz, fI u sh]) (0, true) [1, 2, 3, 9, 10, 12, 13, 14, 15, 16] [0, 1, 2, 3, 4, 5] (⟨Nat.zero_le _, fun _ => rfl⟩) k_ (by first | rfl | (simp only [encQ_zero]; done) | (simp only [encQ_zero]; rfl)) (by rfl) (fun x14 hJ => ?_)
     obtain ⟨j, ok⟩ := x14
     replace hJ : j ≤ 1 + kk ∧ ((∀ jj, jj < j → insJ z.2 sh (1 + nn) i jj) → ok = true) := hJ
     obtain ⟨hJ1, hJ2⟩ := hJ
     refine J.seq ?_
     refine J.sreg ?_
     refine RN.bq (no 3) [1, 2, 3, 9, 10, 12, 13, 14, 15, 16, 61] [] 3 [(1, .int .i64 ((1 + kk : Nat) : Int)), (2, .int .i64 ((1 + nn : Nat) : Int)), (3, sl u sh.length), (9, sl z.1 z.2.length), (10, sl cy.1 cy.2.length), (12, .int .i64 ((n : Nat) : Int)), (13, .bool fd), (14, .int .i64 ((i : Nat) : Int)), (15, .bool ok), (16, .int .i64 ((j : Nat) : Int)), (61, .bool (decide (((j : Nat) : Int) < ((1 + kk : Nat) : Int))))] k_ ?_
     refine RN.fin k_ ?_
     refine J.cond (decide (((j : Nat) : Int) < ((1 + kk : Nat) : Int))) k_ (fun c15 => ?_) (fun c15 => ?_)
     ·replace c15 := of_decide_eq_true c15
      have hcf := (hcF i (by omega)).2 j (by omega)
      have hbf := hzF j (by omega)
      have f1 := hbf.h1
      have f2 := hbf.h2
      have f3 := hcf.h1
      have f4 := hcf.h2
      have s1 := f2.sub f1
      have s2 := f4.sub f3
      have w1 : Q 23 (hiQ (z.2.getD j qv0).1.2 (z.2.getD j qv0).2.2 - loQ (z.2.getD j qv0).1.2 (z.2.getD j qv0).2.2) := (Q_hi2 f2 (by decide)).sub (Q_lo2 f1 (by decide))
      have hm13 := emod_b (k := sh.getD j 0) (n := 13) (by decide)
      have w2 : Q 5 (((sh.getD j 0 % 13 : Int) : Rat) / ((12 : Int) : Rat)) := (Q_int (by omega)).div (Q_int (by decide))
      have w3 := w1.mul w2
      have w4 := f1.add w3
      have hrl := (hcF i (by omega)).1
      have w5 := (Q_hi2 (a := ((cy.2.getD i (saNil, [])).2.getD j qv0).1.2) f4 (by decide)).sub (Q_lo2 (b := ((cy.2.getD i (saNil, [])).2.getD j qv0).2.2) f3 (by decide))
      have w7 := Q_int (v := ((1 + nn : Nat) : Int)) (by omega)
      have w6 := w5.mul w7
      refine J.skip ?_
      refine KN.next ?_
      refine J.seq ?_
      refine J.block ?_
      refine J.seqC (ι := (RA) × (Unit) × (Unit) × (RA) × (RA) × (RA) × (Nat)) (fun x => True) (fun x => [(1, .int .i64 ((1 + kk : Nat) : Int)), (2, .int .i64 ((1 + nn : Nat) : Int)), (3, sl u sh.length), (9, sl z.1 z.2.length), (10, sl cy.1 cy.2.length), (12, .int .i64 ((n : Nat) : Int)), (13, .bool fd), (14, .int .i64 ((i : Nat) : Int)), (15, .bool ok), (16, .int .i64 ((j : Nat) : Int)), (17, .pointer (some ⟨x.2.2.2.2.2.2, 0, none⟩))]) (fun x => [(x.2.2.2.2.2.2, .cells (ratC x.2.2.2.2.2.1 (encQ (((z.2.getD j qv0).1.2) + ((hiQ ((z.2.getD j qv0).1.2) ((z.2.getD j qv0).2.2) - loQ ((z.2.getD j qv0).1.2) ((z.2.getD j qv0).2.2)) * (((((sh.getD j 0) % 13) : Int) : Rat) / ((12 : Int) : Rat)))))) 40 (0, 0)), (b4, .cells #[sl s lo.length, sl t sz.length] 26 (0, 0))]) (fun x => [fRat x.2.2.2.2.2.1 (encQ (((z.2.getD j qv0).1.2) + ((hiQ ((z.2.getD j qv0).1.2) ((z.2.getD j qv0).2.2) - loQ ((z.2.getD j qv0).1.2) ((z.2.getD j qv0).2.2)) * (((((sh.getD j 0) % 13) : Int) : Rat) / ((12 : Int) : Rat))))), fRat x.2.2.2.2.1 (encQ ((hiQ ((z.2.getD j qv0).1.2) ((z.2.getD j qv0).2.2) - loQ ((z.2.getD j qv0).1.2) ((z.2.getD j qv0).2.2)) * (((((sh.getD j 0) % 13) : Int) : Rat) / ((12 : Int) : Rat)))), fRat x.2.2.2.1 (encQ (((((sh.getD j 0) % 13) : Int) : Rat) / ((12 : Int) : Rat))), fRat x.1 (encQ (hiQ ((z.2.getD j qv0).1.2) ((z.2.getD j qv0).2.2) - loQ ((z.2.getD j qv0).1.2) ((z.2.getD j qv0).2.2))), fRat ((z.2.getD j qv0).2.1) (encQ ((z.2.getD j qv0).2.2)), fRat ((z.2.getD j qv0).1.1) (encQ ((z.2.getD j qv0).1.2)), fRat ((z.2.getD j qv0).1.1) (encQ ((z.2.getD j qv0).1.2)), fL elv ((cy.2.getD i (saNil, [])).1) ((cy.2.getD i (saNil, [])).2), fL elw cy.1 cy.2, fL elv z.1 z.2, fI s lo, fI t sz, fI u sh]) ?_ ?_
      ·refine J.regD k_ [18] ?_
       refine RD.bq (nl [0, 1, 5, 6, 10, 11]) [1, 2, 3, 9, 10, 12, 13, 14, 15, 16, 64, 65, 69, 70, 74, 75] [] [(1, .int .i64 ((1 + kk : Nat) : Int)), (2, .int .i64 ((1 + nn : Nat) : Int)), (3, sl u sh.length), (9, sl z.1 z.2.length), (10, sl cy.1 cy.2.length), (12, .int .i64 ((n : Nat) : Int)), (13, .bool fd), (14, .int .i64 ((i : Nat) : Int)), (15, .bool ok), (16, .int .i64 ((j : Nat) : Int)), (64, sl z.1 z.2.length), (65, .int .i64 ((j : Nat) : Int)), (69, sl z.1 z.2.length), (70, .int .i64 ((j : Nat) : Int)), (74, sl u sh.length), (75, .int .i64 ((j : Nat) : Int))] k_ k_ ?_
       refine RD.val (i := 2) _ k_ k_ k_ (q_lidx (t := 31) (x := (.tmp 64)) (ix := (.tmp 65)) (K := .i64) (i0 := ((j : Nat) : Int)) (m := j) (e := 43) (E := elv) (sz := 6) (s := z.1) (xs := z.2) 2 rfl rfl k_ k_ k_ k_ k_ (by omega) x_) ?_
       refine RD.bq (nl [3]) [1, 2, 3, 9, 10, 12, 13, 14, 15, 16, 67, 69, 70, 74, 75] [] [(1, .int .i64 ((1 + kk : Nat) : Int)), (2, .int .i64 ((1 + nn : Nat) : Int)), (3, sl u sh.length), (9, sl z.1 z.2.length), (10, sl cy.1 cy.2.length), (12, .int .i64 ((n : Nat) : Int)), (13, .bool fd), (14, .int .i64 ((i : Nat) : Int)), (15, .bool ok), (16, .int .i64 ((j : Nat) : Int)), (67, .pointer (some ((z.1.ad.add (j * 6)).add 0))), (69, sl z.1 z.2.length), (70, .int .i64 ((j : Nat) : Int)), (74, sl u sh.length), (75, .int .i64 ((j : Nat) : Int))] k_ k_ ?_
       refine RD.val (i := 4) _ k_ k_ k_ (q_lfield (T := 40) (x := (.tmp 67)) (m := j) (off := 0) (k := 3) (s := z.1) (E := elv) (sz := 6) (xs := z.2) (cs := ratC ((z.2.getD j qv0).1.1) (encQ ((z.2.getD j qv0).1.2))) 2 rfl rfl k_ k_ k_ k_ (by decide) rfl (fun q hq => match q, hq with | 0, _ => rfl | 1, _ => rfl | 2, _ => rfl) x_) ?_
       refine RD.also (fRat ((z.2.getD j qv0).1.1) (encQ ((z.2.getD j qv0).1.2))) (fun w h => (fL_elem (h _ (.tail _ ((.tail _ ((.head _)))))) x_).1) k_ ?_
       refine RD.val (i := 7) _ k_ k_ k_ (q_lidx (t := 31) (x := (.tmp 69)) (ix := (.tmp 70)) (K := .i64) (i0 := ((j : Nat) : Int)) (m := j) (e := 43) (E := elv) (sz := 6) (s := z.1) (xs := z.2) 3 rfl rfl k_ k_ k_ k_ k_ (by omega) x_) ?_
       refine RD.val (i := 8) _ k_ k_ k_ (q_lload (T := 43) (x := (.tmp 71)) (m := j) (s := z.1) (E := elv) (sz := 6) (xs := z.2) 3 rfl rfl k_ k_ k_ k_ x_) ?_
       refine RD.also (fRat ((z.2.getD j qv0).1.1) (encQ ((z.2.getD j qv0).1.2))) (fun w h => (fL_elem (h _ (.tail _ ((.tail _ ((.tail _ ((.head _)))))))) x_).1) k_ ?_
       refine RD.also (fRat ((z.2.getD j qv0).2.1) (encQ ((z.2.getD j qv0).2.2))) (fun w h => (fL_elem (h _ (.tail _ ((.tail _ ((.tail _ ((.tail _ ((.head _)))))))))) x_).2) k_ ?_
       refine RD.forkL (is := [9, 17]) k_ rfl k_ ⟨?_, ?_, trivial⟩
       ·refine RDi.call (i := 9) (r04_Width_c ((z.2.getD j qv0).1.1) ((z.2.getD j qv0).1.2) ((z.2.getD j qv0).2.1) ((z.2.getD j qv0).2.2) y_l21_CellsFill y_l21_CellsFill y_l21_CellsFill) [1, 0] k_ k_ k_ k_ rfl (fun y16 _ => ?_)
        refine RD.forkL (is := [12, 17]) k_ rfl k_ ⟨?_, ?_, trivial⟩
        ·refine RDi.call (i := 12) (made_At u sh j) [9] k_ k_ k_ k_ rfl (fun y17 _ => ?_)
         refine RD.forkL (is := [13, 17]) k_ rfl k_ ⟨?_, ?_, trivial⟩
         ·refine RDi.call (i := 13) (made_Mod (sh.getD j 0) 13 y_l21_CellsFill y_l21_CellsFill) [] k_ k_ k_ k_ rfl (fun y18 _ => ?_)
          refine RD.forkL (is := [14, 17]) k_ rfl k_ ⟨?_, ?_, trivial⟩
          ·refine RDi.call (i := 14) (r03_Fraction ((sh.getD j 0) % 13) 12 y_l21_CellsFill y_l21_CellsFill y_l21_CellsFill y_l21_CellsFill y_l21_CellsFill) [] k_ k_ k_ k_ rfl (fun y19 _ => ?_)
           refine RD.forkL (is := [15, 17]) k_ rfl k_ ⟨?_, ?_, trivial⟩
           ·refine RDi.call (i := 15) (r03_Mul_c y16 (hiQ ((z.2.getD j qv0).1.2) ((z.2.getD j qv0).2.2) - loQ ((z.2.getD j qv0).1.2) ((z.2.getD j qv0).2.2)) y19 (((((sh.getD j 0) % 13) : Int) : Rat) / ((12 : Int) : Rat)) y_l21_CellsFill y_l21_CellsFill) [1, 0] k_ k_ k_ k_ rfl (fun y20 _ => ?_)
            refine RD.forkL (is := [16, 17]) k_ rfl k_ ⟨?_, ?_, trivial⟩
            ·refine RDi.call (i := 16) (r03_Add_c ((z.2.getD j qv0).1.1) ((z.2.getD j qv0).1.2) y20 ((hiQ ((z.2.getD j qv0).1.2) ((z.2.getD j qv0).2.2) - loQ ((z.2.getD j qv0).1.2) ((z.2.getD j qv0).2.2)) * (((((sh.getD j 0) % 13) : Int) : Rat) / ((12 : Int) : Rat))) y_l21_CellsFill y_l21_CellsFill) [4, 0] k_ k_ k_ k_ rfl (fun y21 _ => ?_)
             refine RD.new (i := 17) (fun b => pt b) (.cells (ratC (⟨saNil, saNil⟩ : RA) (⟨false, ([] : List Nat), ([] : List Nat)⟩ : Raw)) 40 (0, 0)) k_ k_ k_ k_ (fun w => by kernel_rfl) (fun b22 => ?_)
             refine RD.last (i := 18) (some 0) [1, 2, 3, 9, 10, 12, 13, 14, 15, 16, 17] [b22, b22, b22] k_ k_ k_ (l' := [(1, .int .i64 ((1 + kk : Nat) : Int)), (2, .int .i64 ((1 + nn : Nat) : Int)), (3, sl u sh.length), (9, sl z.1 z.2.length), (10, sl cy.1 cy.2.length), (12, .int .i64 ((n : Nat) : Int)), (13, .bool fd), (14, .int .i64 ((i : Nat) : Int)), (15, .bool ok), (16, .int .i64 ((j : Nat) : Int)), (17, pt b22)]) (M' := [(b22, .cells (ratC y21 (encQ (((z.2.getD j qv0).1.2) + ((hiQ ((z.2.getD j qv0).1.2) ((z.2.getD j qv0).2.2) - loQ ((z.2.getD j qv0).1.2) ((z.2.getD j qv0).2.2)) * (((((sh.getD j 0) % 13) : Int) : Rat) / ((12 : Int) : Rat)))))) 40 (0, 0)), (b4, .cells #[sl s lo.length, sl t sz.length] 26 (0, 0))]) k_ ?_
             refine RD.done k_ ?_
             refine KN.meet (y16, y17, y18, y19, y20, y21, b22) [1, 2, 3, 9, 10, 12, 13, 14, 15, 16, 17] [0, 1, 2, 3, 4, 5, 5, 7, 8, 9, 10, 11, 12] (l2 := [(1, .int .i64 ((1 + kk : Nat) : Int)), (2, .int .i64 ((1 + nn : Nat) : Int)), (3, sl u sh.length), (9, sl z.1 z.2.length), (10, sl cy.1 cy.2.length), (12, .int .i64 ((n : Nat) : Int)), (13, .bool fd), (14, .int .i64 ((i : Nat) : Int)), (15, .bool ok), (16, .int .i64 ((j : Nat) : Int)), (17, pt b22)]) (by exact trivial) k_ (by rfl) (by rfl) (by rfl)
            ·refine RDi.new (i := 17) (fun b => pt b) (.cells (ratC (⟨saNil, saNil⟩ : RA) (⟨false, ([] : List Nat), ([] : List Nat)⟩ : Raw)) 40 (0, 0)) k_ k_ k_ (fun w => by kernel_rfl) (fun b23 => ?_)
             refine RD.call (i := 16) (r03_Add_c ((z.2.getD j qv0).1.1) ((z.2.getD j qv0).1.2) y20 ((hiQ ((z.2.getD j qv0).1.2) ((z.2.getD j qv0).2.2) - loQ ((z.2.getD j qv0).1.2) ((z.2.getD j qv0).2.2)) * (((((sh.getD j 0) % 13) : Int) : Rat) / ((12 : Int) : Rat))) y_l21_CellsFill y_l21_CellsFill) [4, 0] k_ k_ k_ k_ k_ rfl (fun y24 _ => ?_)
             refine RD.last (i := 18) (some 0) [1, 2, 3, 9, 10, 12, 13, 14, 15, 16, 17] [b23, b23, b23] k_ k_ k_ (l' := [(1, .int .i64 ((1 + kk : Nat) : Int)), (2, .int .i64 ((1 + nn : Nat) : Int)), (3, sl u sh.length), (9, sl z.1 z.2.length), (10, sl cy.1 cy.2.length), (12, .int .i64 ((n : Nat) : Int)), (13, .bool fd), (14, .int .i64 ((i : Nat) : Int)), (15, .bool ok), (16, .int .i64 ((j : Nat) : Int)), (17, pt b23)]) (M' := [(b23, .cells (ratC y24 (encQ (((z.2.getD j qv0).1.2) + ((hiQ ((z.2.getD j qv0).1.2) ((z.2.getD j qv0).2.2) - loQ ((z.2.getD j qv0).1.2) ((z.2.getD j qv0).2.2)) * (((((sh.getD j 0) % 13) : Int) : Rat) / ((12 : Int) : Rat)))))) 40 (0, 0)), (b4, .cells #[sl s lo.length, sl t sz.length] 26 (0, 0))]) k_ ?_
             refine RD.done k_ ?_
             refine KN.meet (y16, y17, y18, y19, y20, y24, b23) [1, 2, 3, 9, 10, 12, 13, 14, 15, 16, 17] [0, 1, 2, 3, 4, 5, 5, 7, 8, 9, 10, 11, 12] (l2 := [(1, .int .i64 ((1 + kk : Nat) : Int)), (2, .int .i64 ((1 + nn : Nat) : Int)), (3, sl u sh.length), (9, sl z.1 z.2.length), (10, sl cy.1 cy.2.length), (12, .int .i64 ((n : Nat) : Int)), (13, .bool fd), (14, .int .i64 ((i : Nat) : Int)), (15, .bool ok), (16, .int .i64 ((j : Nat) : Int)), (17, pt b23)]) (by exact trivial) k_ (by rfl) (by rfl) (by rfl)
           ·refine RDi.new (i := 17) (fun b => pt b) (.cells (ratC (⟨saNil, saNil⟩ : RA) (⟨false, ([] : List Nat), ([] : List Nat)⟩ : Raw)) 40 (0, 0)) k_ k_ k_ (fun w => by kernel_rfl) (fun b25 => ?_)
            refine RD.call (i := 15) (r03_Mul_c y16 (hiQ ((z.2.getD j qv0).1.2) ((z.2.getD j qv0).2.2) - loQ ((z.2.getD j qv0).1.2) ((z.2.getD j qv0).2.2)) y19 (((((sh.getD j 0) % 13) : Int) : Rat) / ((12 : Int) : Rat)) y_l21_CellsFill y_l21_CellsFill) [1, 0] k_ k_ k_ k_ k_ rfl (fun y26 _ => ?_)
            refine RD.call (i := 16) (r03_Add_c ((z.2.getD j qv0).1.1) ((z.2.getD j qv0).1.2) y26 ((hiQ ((z.2.getD j qv0).1.2) ((z.2.getD j qv0).2.2) - loQ ((z.2.getD j qv0).1.2) ((z.2.getD j qv0).2.2)) * (((((sh.getD j 0) % 13) : Int) : Rat) / ((12 : Int) : Rat))) y_l21_CellsFill y_l21_CellsFill) [4, 0] k_ k_ k_ k_ k_ rfl (fun y27 _ => ?_)
            refine RD.last (i := 18) (some 0) [1, 2, 3, 9, 10, 12, 13, 14, 15, 16, 17] [b25, b25, b25] k_ k_ k_ (l' := [(1, .int .i64 ((1 + kk : Nat) : Int)), (2, .int .i64 ((1 + nn : Nat) : Int)), (3, sl u sh.length), (9, sl z.1 z.2.length), (10, sl cy.1 cy.2.length), (12, .int .i64 ((n : Nat) : Int)), (13, .bool fd), (14, .int .i64 ((i : Nat) : Int)), (15, .bool ok), (16, .int .i64 ((j : Nat) : Int)), (17, pt b25)]) (M' := [(b25, .cells (ratC y27 (encQ (((z.2.getD j qv0).1.2) + ((hiQ ((z.2.getD j qv0).1.2) ((z.2.getD j qv0).2.2) - loQ ((z.2.getD j qv0).1.2) ((z.2.getD j qv0).2.2)) * (((((sh.getD j 0) % 13) : Int) : Rat) / ((12 : Int) : Rat)))))) 40 (0, 0)), (b4, .cells #[sl s lo.length, sl t sz.length] 26 (0, 0))]) k_ ?_
            refine RD.done k_ ?_
            refine KN.meet (y16, y17, y18, y19, y26, y27, b25) [1, 2, 3, 9, 10, 12, 13, 14, 15, 16, 17] [0, 1, 2, 3, 4, 5, 5, 7, 8, 9, 10, 11, 12] (l2 := [(1, .int .i64 ((1 + kk : Nat) : Int)), (2, .int .i64 ((1 + nn : Nat) : Int)), (3, sl u sh.length), (9, sl z.1 z.2.length), (10, sl cy.1 cy.2.length), (12, .int .i64 ((n : Nat) : Int)), (13, .bool fd), (14, .int .i64 ((i : Nat) : Int)), (15, .bool ok), (16, .int .i64 ((j : Nat) : Int)), (17, pt b25)]) (by exact trivial) k_ (by rfl) (by rfl) (by rfl)
          ·refine RDi.new (i := 17) (fun b => pt b) (.cells (ratC (⟨saNil, saNil⟩ : RA) (⟨false, ([] : List Nat), ([] : List Nat)⟩ : Raw)) 40 (0, 0)) k_ k_ k_ (fun w => by kernel_rfl) (fun b28 => ?_)
           refine RD.call (i := 14) (r03_Fraction ((sh.getD j 0) % 13) 12 y_l21_CellsFill y_l21_CellsFill y_l21_CellsFill y_l21_CellsFill y_l21_CellsFill) [] k_ k_ k_ k_ k_ rfl (fun y29 _ => ?_)
           refine RD.call (i := 15) (r03_Mul_c y16 (hiQ ((z.2.getD j qv0).1.2) ((z.2.getD j qv0).2.2) - loQ ((z.2.getD j qv0).1.2) ((z.2.getD j qv0).2.2)) y29 (((((sh.getD j 0) % 13) : Int) : Rat) / ((12 : Int) : Rat)) y_l21_CellsFill y_l21_CellsFill) [1, 0] k_ k_ k_ k_ k_ rfl (fun y30 _ => ?_)
           refine RD.call (i := 16) (r03_Add_c ((z.2.getD j qv0).1.1) ((z.2.getD j qv0).1.2) y30 ((hiQ ((z.2.getD j qv0).1.2) ((z.2.getD j qv0).2.2) - loQ ((z.2.getD j qv0).1.2) ((z.2.getD j qv0).2.2)) * (((((sh.getD j 0) % 13) : Int) : Rat) / ((12 : Int) : Rat))) y_l21_CellsFill y_l21_CellsFill) [4, 0] k_ k_ k_ k_ k_ rfl (fun y31 _ => ?_)
           refine RD.last (i := 18) (some 0) [1, 2, 3, 9, 10, 12, 13, 14, 15, 16, 17] [b28, b28, b28] k_ k_ k_ (l' := [(1, .int .i64 ((1 + kk : Nat) : Int)), (2, .int .i64 ((1 + nn : Nat) : Int)), (3, sl u sh.length), (9, sl z.1 z.2.length), (10, sl cy.1 cy.2.length), (12, .int .i64 ((n : Nat) : Int)), (13, .bool fd), (14, .int .i64 ((i : Nat) : Int)), (15, .bool ok), (16, .int .i64 ((j : Nat) : Int)), (17, pt b28)]) (M' := [(b28, .cells (ratC y31 (encQ (((z.2.getD j qv0).1.2) + ((hiQ ((z.2.getD j qv0).1.2) ((z.2.getD j qv0).2.2) - loQ ((z.2.getD j qv0).1.2) ((z.2.getD j qv0).2.2)) * (((((sh.getD j 0) % 13) : Int) : Rat) / ((12 : Int) : Rat)))))) 40 (0, 0)), (b4, .cells #[sl s lo.length, sl t sz.length] 26 (0, 0))]) k_ ?_
           refine RD.done k_ ?_
           refine KN.meet (y16, y17, y18, y29, y30, y31, b28) [1, 2, 3, 9, 10, 12, 13, 14, 15, 16, 17] [0, 1, 2, 3, 4, 5, 5, 7, 8, 9, 10, 11, 12] (l2 := [(1, .int .i64 ((1 + kk : Nat) : Int)), (2, .int .i64 ((1 + nn : Nat) : Int)), (3, sl u sh.length), (9, sl z.1 z.2.length), (10, sl cy.1 cy.2.length), (12, .int .i64 ((n : Nat) : Int)), (13, .bool fd), (14, .int .i64 ((i : Nat) : Int)), (15, .bool ok), (16, .int .i64 ((j : Nat) : Int)), (17, pt b28)]) (by exact trivial) k_ (by rfl) (by rfl) (by rfl)
         ·refine RDi.new (i := 17) (fun b => pt b) (.cells (ratC (⟨saNil, saNil⟩ : RA) (⟨false, ([] : List Nat), ([] : List Nat)⟩ : Raw)) 40 (0, 0)) k_ k_ k_ (fun w => by kernel_rfl) (fun b32 => ?_)
          refine RD.call (i := 13) (made_Mod (sh.getD j 0) 13 y_l21_CellsFill y_l21_CellsFill) [] k_ k_ k_ k_ k_ rfl (fun y33 _ => ?_)
          refine RD.call (i := 14) (r03_Fraction ((sh.getD j 0) % 13) 12 y_l21_CellsFill y_l21_CellsFill y_l21_CellsFill y_l21_CellsFill y_l21_CellsFill) [] k_ k_ k_ k_ k_ rfl (fun y34 _ => ?_)
          refine RD.call (i := 15) (r03_Mul_c y16 (hiQ ((z.2.getD j qv0).1.2) ((z.2.getD j qv0).2.2) - loQ ((z.2.getD j qv0).1.2) ((z.2.getD j qv0).2.2)) y34 (((((sh.getD j 0) % 13) : Int) : Rat) / ((12 : Int) : Rat)) y_l21_CellsFill y_l21_CellsFill) [1, 0] k_ k_ k_ k_ k_ rfl (fun y35 _ => ?_)
          refine RD.call (i := 16) (r03_Add_c ((z.2.getD j qv0).1.1) ((z.2.getD j qv0).1.2) y35 ((hiQ ((z.2.getD j qv0).1.2) ((z.2.getD j qv0).2.2) - loQ ((z.2.getD j qv0).1.2) ((z.2.getD j qv0).2.2)) * (((((sh.getD j 0) % 13) : Int) : Rat) / ((12 : Int) : Rat))) y_l21_CellsFill y_l21_CellsFill) [4, 0] k_ k_ k_ k_ k_ rfl (fun y36 _ => ?_)
          refine RD.last (i := 18) (some 0) [1, 2, 3, 9, 10, 12, 13, 14, 15, 16, 17] [b32, b32, b32] k_ k_ k_ (l' := [(1, .int .i64 ((1 + kk : Nat) : Int)), (2, .int .i64 ((1 + nn : Nat) : Int)), (3, sl u sh.length), (9, sl z.1 z.2.length), (10, sl cy.1 cy.2.length), (12, .int .i64 ((n : Nat) : Int)), (13, .bool fd), (14, .int .i64 ((i : Nat) : Int)), (15, .bool ok), (16, .int .i64 ((j : Nat) : Int)), (17, pt b32)]) (M' := [(b32, .cells (ratC y36 (encQ (((z.2.getD j qv0).1.2) + ((hiQ ((z.2.getD j qv0).1.2) ((z.2.getD j qv0).2.2) - loQ ((z.2.getD j qv0).1.2) ((z.2.getD j qv0).2.2)) * (((((sh.getD j 0) % 13) : Int) : Rat) / ((12 : Int) : Rat)))))) 40 (0, 0)), (b4, .cells #[sl s lo.length, sl t sz.length] 26 (0, 0))]) k_ ?_
          refine RD.done k_ ?_
          refine KN.meet (y16, y17, y33, y34, y35, y36, b32) [1, 2, 3, 9, 10, 12, 13, 14, 15, 16, 17] [0, 1, 2, 3, 4, 5, 5, 7, 8, 9, 10, 11, 12] (l2 := [(1, .int .i64 ((1 + kk : Nat) : Int)), (2, .int .i64 ((1 + nn : Nat) : Int)), (3, sl u sh.length), (9, sl z.1 z.2.length), (10, sl cy.1 cy.2.length), (12, .int .i64 ((n : Nat) : Int)), (13, .bool fd), (14, .int .i64 ((i : Nat) : Int)), (15, .bool ok), (16, .int .i64 ((j : Nat) : Int)), (17, pt b32)]) (by exact trivial) k_ (by rfl) (by rfl) (by rfl)
        ·refine RDi.new (i := 17) (fun b => pt b) (.cells (ratC (⟨saNil, saNil⟩ : RA) (⟨false, ([] : List Nat), ([] : List Nat)⟩ : Raw)) 40 (0, 0)) k_ k_ k_ (fun w => by kernel_rfl) (fun b37 => ?_)
         refine RD.call (i := 12) (made_At u sh j) [9] k_ k_ k_ k_ k_ rfl (fun y38 _ => ?_)
         refine RD.call (i := 13) (made_Mod (sh.getD j 0) 13 y_l21_CellsFill y_l21_CellsFill) [] k_ k_ k_ k_ k_ rfl (fun y39 _ => ?_)
         refine RD.call (i := 14) (r03_Fraction ((sh.getD j 0) % 13) 12 y_l21_CellsFill y_l21_CellsFill y_l21_CellsFill y_l21_CellsFill y_l21_CellsFill) [] k_ k_ k_ k_ k_ rfl (fun y40 _ => ?_)
         refine RD.call (i := 15) (r03_Mul_c y16 (hiQ ((z.2.getD j qv0).1.2) ((z.2.getD j qv0).2.2) - loQ ((z.2.getD j qv0).1.2) ((z.2.getD j qv0).2.2)) y40 (((((sh.getD j 0) % 13) : Int) : Rat) / ((12 : Int) : Rat)) y_l21_CellsFill y_l21_CellsFill) [1, 0] k_ k_ k_ k_ k_ rfl (fun y41 _ => ?_)
         refine RD.call (i := 16) (r03_Add_c ((z.2.getD j qv0).1.1) ((z.2.getD j qv0).1.2) y41 ((hiQ ((z.2.getD j qv0).1.2) ((z.2.getD j qv0).2.2) - loQ ((z.2.getD j qv0).1.2) ((z.2.getD j qv0).2.2)) * (((((sh.getD j 0) % 13) : Int) : Rat) / ((12 : Int) : Rat))) y_l21_CellsFill y_l21_CellsFill) [4, 0] k_ k_ k_ k_ k_ rfl (fun y42 _ => ?_)
         refine RD.last (i := 18) (some 0) [1, 2, 3, 9, 10, 12, 13, 14, 15, 16, 17] [b37, b37, b37] k_ k_ k_ (l' := [(1, .int .i64 ((1 + kk : Nat) : Int)), (2, .int .i64 ((1 + nn : Nat) : Int)), (3, sl u sh.length), (9, sl z.1 z.2.length), (10, sl cy.1 cy.2.length), (12, .int .i64 ((n : Nat) : Int)), (13, .bool fd), (14, .int .i64 ((i : Nat) : Int)), (15, .bool ok), (16, .int .i64 ((j : Nat) : Int)), (17, pt b37)]) (M' := [(b37, .cells (ratC y42 (encQ (((z.2.getD j qv0).1.2) + ((hiQ ((z.2.getD j qv0).1.2) ((z.2.getD j qv0).2.2) - loQ ((z.2.getD j qv0).1.2) ((z.2.getD j qv0).2.2)) * (((((sh.getD j 0) % 13) : Int) : Rat) / ((12 : Int) : Rat)))))) 40 (0, 0)), (b4, .cells #[sl s lo.length, sl t sz.length] 26 (0, 0))]) k_ ?_
         refine RD.done k_ ?_
         refine KN.meet (y16, y38, y39, y40, y41, y42, b37) [1, 2, 3, 9, 10, 12, 13, 14, 15, 16, 17] [0, 1, 2, 3, 4, 5, 5, 7, 8, 9, 10, 11, 12] (l2 := [(1, .int .i64 ((1 + kk : Nat) : Int)), (2, .int .i64 ((1 + nn : Nat) : Int)), (3, sl u sh.length), (9, sl z.1 z.2.length), (10, sl cy.1 cy.2.length), (12, .int .i64 ((n : Nat) : Int)), (13, .bool fd), (14, .int .i64 ((i : Nat) : Int)), (15, .bool ok), (16, .int .i64 ((j : Nat) : Int)), (17, pt b37)]) (by exact trivial) k_ (by rfl) (by rfl) (by rfl)
       ·refine RDi.new (i := 17) (fun b => pt b) (.cells (ratC (⟨saNil, saNil⟩ : RA) (⟨false, ([] : List Nat), ([] : List Nat)⟩ : Raw)) 40 (0, 0)) k_ k_ k_ (fun w => by kernel_rfl) (fun b43 => ?_)
        refine RD.call (i := 9) (r04_Width_c ((z.2.getD j qv0).1.1) ((z.2.getD j qv0).1.2) ((z.2.getD j qv0).2.1) ((z.2.getD j qv0).2.2) y_l21_CellsFill y_l21_CellsFill y_l21_CellsFill) [1, 0] k_ k_ k_ k_ k_ rfl (fun y44 _ => ?_)
        refine RD.call (i := 12) (made_At u sh j) [9] k_ k_ k_ k_ k_ rfl (fun y45 _ => ?_)
        refine RD.call (i := 13) (made_Mod (sh.getD j 0) 13 y_l21_CellsFill y_l21_CellsFill) [] k_ k_ k_ k_ k_ rfl (fun y46 _ => ?_)
        refine RD.call (i := 14) (r03_Fraction ((sh.getD j 0) % 13) 12 y_l21_CellsFill y_l21_CellsFill y_l21_CellsFill y_l21_CellsFill y_l21_CellsFill) [] k_ k_ k_ k_ k_ rfl (fun y47 _ => ?_)
        refine RD.call (i := 15) (r03_Mul_c y44 (hiQ ((z.2.getD j qv0).1.2) ((z.2.getD j qv0).2.2) - loQ ((z.2.getD j qv0).1.2) ((z.2.getD j qv0).2.2)) y47 (((((sh.getD j 0) % 13) : Int) : Rat) / ((12 : Int) : Rat)) y_l21_CellsFill y_l21_CellsFill) [1, 0] k_ k_ k_ k_ k_ rfl (fun y48 _ => ?_)
        refine RD.call (i := 16) (r03_Add_c ((z.2.getD j qv0).1.1) ((z.2.getD j qv0).1.2) y48 ((hiQ ((z.2.getD j qv0).1.2) ((z.2.getD j qv0).2.2) - loQ ((z.2.getD j qv0).1.2) ((z.2.getD j qv0).2.2)) * (((((sh.getD j 0) % 13) : Int) : Rat) / ((12 : Int) : Rat))) y_l21_CellsFill y_l21_CellsFill) [4, 0] k_ k_ k_ k_ k_ rfl (fun y49 _ => ?_)
        refine RD.last (i := 18) (some 0) [1, 2, 3, 9, 10, 12, 13, 14, 15, 16, 17] [b43, b43, b43] k_ k_ k_ (l' := [(1, .int .i64 ((1 + kk : Nat) : Int)), (2, .int .i64 ((1 + nn : Nat) : Int)), (3, sl u sh.length), (9, sl z.1 z.2.length), (10, sl cy.1 cy.2.length), (12, .int .i64 ((n : Nat) : Int)), (13, .bool fd), (14, .int .i64 ((i : Nat) : Int)), (15, .bool ok), (16, .int .i64 ((j : Nat) : Int)), (17, pt b43)]) (M' := [(b43, .cells (ratC y49 (encQ (((z.2.getD j qv0).1.2) + ((hiQ ((z.2.getD j qv0).1.2) ((z.2.getD j qv0).2.2) - loQ ((z.2.getD j qv0).1.2) ((z.2.getD j qv0).2.2)) * (((((sh.getD j 0) % 13) : Int) : Rat) / ((12 : Int) : Rat)))))) 40 (0, 0)), (b4, .cells #[sl s lo.length, sl t sz.length] 26 (0, 0))]) k_ ?_
        refine RD.done k_ ?_
        refine KN.meet (y44, y45, y46, y47, y48, y49, b43) [1, 2, 3, 9, 10, 12, 13, 14, 15, 16, 17] [0, 1, 2, 3, 4, 5, 5, 7, 8, 9, 10, 11, 12] (l2 := [(1, .int .i64 ((1 + kk : Nat) : Int)), (2, .int .i64 ((1 + nn : Nat) : Int)), (3, sl u sh.length), (9, sl z.1 z.2.length), (10, sl cy.1 cy.2.length), (12, .int .i64 ((n : Nat) : Int)), (13, .bool fd), (14, .int .i64 ((i : Nat) : Int)), (15, .bool ok), (16, .int .i64 ((j : Nat) : Int)), (17, pt b43)]) (by exact trivial) k_ (by rfl) (by rfl) (by rfl)
      ·intro x50 hx51
       obtain ⟨y16, y17, y18, y19, y20, y21, b22⟩ := x50
       replace hx51 : True := hx51
       refine J.seq ?_
       refine J.regD k_ [] ?_
       refine RD.bq (nl [0, 1]) [1, 2, 3, 9, 10, 12, 13, 14, 16, 17, 82] [] [(1, .int .i64 ((1 + kk : Nat) : Int)), (2, .int .i64 ((1 + nn : Nat) : Int)), (3, sl u sh.length), (9, sl z.1 z.2.length), (10, sl cy.1 cy.2.length), (12, .int .i64 ((n : Nat) : Int)), (13, .bool fd), (14, .int .i64 ((i : Nat) : Int)), (16, .int .i64 ((j : Nat) : Int)), (17, pt b22), (82, .bool ok)] k_ k_ ?_
       refine RD.split (t := 82) (ok) k_ (fun c52 => ?_) (fun c52 => ?_)
       ·refine RD.bq [(2, none), (3, none), (6, none), (9, some 0)] [1, 2, 3, 9, 10, 12, 13, 14, 16, 82, 83, 84, 87, 90] [b22, b22, b22] [(1, .int .i64 ((1 + kk : Nat) : Int)), (2, .int .i64 ((1 + nn : Nat) : Int)), (3, sl u sh.length), (9, sl z.1 z.2.length), (10, sl cy.1 cy.2.length), (12, .int .i64 ((n : Nat) : Int)), (13, .bool fd), (14, .int .i64 ((i : Nat) : Int)), (16, .int .i64 ((j : Nat) : Int)), (82, .bool true), (83, sl cy.1 cy.2.length), (84, .int .i64 ((i : Nat) : Int)), (87, .int .i64 ((j : Nat) : Int)), (90, ratV y21 (encQ (((z.2.getD j qv0).1.2) + ((hiQ ((z.2.getD j qv0).1.2) ((z.2.getD j qv0).2.2) - loQ ((z.2.getD j qv0).1.2) ((z.2.getD j qv0).2.2)) * (((((sh.getD j 0) % 13) : Int) : Rat) / ((12 : Int) : Rat))))))] k_ k_ ?_
        refine RD.val (i := 4) _ k_ k_ k_ (q_lidx (t := 54) (x := (.tmp 83)) (ix := (.tmp 84)) (K := .i64) (i0 := ((i : Nat) : Int)) (m := i) (e := 31) (E := elw) (sz := 1) (s := cy.1) (xs := cy.2) 8 rfl rfl k_ k_ k_ k_ k_ (by omega) x_) ?_
        refine RD.val (i := 5) _ k_ k_ k_ (q_lload1 (T := 31) (x := (.tmp 85)) (m := i) (s := cy.1) (E := elw) (xs := cy.2) 8 rfl rfl k_ k_ k_ rfl x_) ?_
        refine RD.also (fL elv ((cy.2.getD i (saNil, [])).1) ((cy.2.getD i (saNil, [])).2)) (fun w h => (fL_elem (h _ (.tail _ ((.tail _ ((.tail _ ((.tail _ ((.tail _ ((.tail _ ((.tail _ ((.tail _ ((.head _)))))))))))))))))) x_)) k_ ?_
        refine RD.val (i := 7) _ k_ k_ k_ (q_lidx (t := 31) (x := (.tmp 86)) (ix := (.tmp 87)) (K := .i64) (i0 := ((j : Nat) : Int)) (m := j) (e := 43) (E := elv) (sz := 6) (s := ((cy.2.getD i (saNil, [])).1)) (xs := ((cy.2.getD i (saNil, [])).2)) 0 rfl rfl k_ k_ k_ k_ k_ (by omega) x_) ?_
        refine RD.val (i := 8) _ k_ k_ k_ (q_lload (T := 43) (x := (.tmp 88)) (m := j) (s := ((cy.2.getD i (saNil, [])).1)) (E := elv) (sz := 6) (xs := ((cy.2.getD i (saNil, [])).2)) 0 rfl rfl k_ k_ k_ k_ x_) ?_
        refine RD.also (fRat ((((cy.2.getD i (saNil, [])).2).getD j qv0).1.1) (encQ ((((cy.2.getD i (saNil, [])).2).getD j qv0).1.2))) (fun w h => (fL_elem (h _ (.head _)) x_).1) k_ ?_
        refine RD.also (fRat ((((cy.2.getD i (saNil, [])).2).getD j qv0).2.1) (encQ ((((cy.2.getD i (saNil, [])).2).getD j qv0).2.2))) (fun w h => (fL_elem (h _ (.tail _ ((.head _)))) x_).2) k_ ?_
        refine RD.call (i := 10) (r04_Contains ((((cy.2.getD i (saNil, [])).2).getD j qv0).1.1) ((((cy.2.getD i (saNil, [])).2).getD j qv0).1.2) ((((cy.2.getD i (saNil, [])).2).getD j qv0).2.1) ((((cy.2.getD i (saNil, [])).2).getD j qv0).2.2) y21 (((z.2.getD j qv0).1.2) + ((hiQ ((z.2.getD j qv0).1.2) ((z.2.getD j qv0).2.2) - loQ ((z.2.getD j qv0).1.2) ((z.2.getD j qv0).2.2)) * (((((sh.getD j 0) % 13) : Int) : Rat) / ((12 : Int) : Rat)))) y_l21_CellsFill y_l21_CellsFill y_l21_CellsFill) [1, 0, 3] k_ k_ k_ k_ k_ rfl (fun y53 _ => ?_)
        refine RD.bq (nl [11, 12]) [1, 2, 3, 9, 10, 12, 13, 14, 15, 16] [] [(1, .int .i64 ((1 + kk : Nat) : Int)), (2, .int .i64 ((1 + nn : Nat) : Int)), (3, sl u sh.length), (9, sl z.1 z.2.length), (10, sl cy.1 cy.2.length), (12, .int .i64 ((n : Nat) : Int)), (13, .bool fd), (14, .int .i64 ((i : Nat) : Int)), (15, .bool (!decide ((((z.2.getD j qv0).1.2) + ((hiQ ((z.2.getD j qv0).1.2) ((z.2.getD j qv0).2.2) - loQ ((z.2.getD j qv0).1.2) ((z.2.getD j qv0).2.2)) * (((((sh.getD j 0) % 13) : Int) : Rat) / ((12 : Int) : Rat)))) < loQ ((((cy.2.getD i (saNil, [])).2).getD j qv0).1.2) ((((cy.2.getD i (saNil, [])).2).getD j qv0).2.2)) && !decide (hiQ ((((cy.2.getD i (saNil, [])).2).getD j qv0).1.2) ((((cy.2.getD i (saNil, [])).2).getD j qv0).2.2) < (((z.2.getD j qv0).1.2) + ((hiQ ((z.2.getD j qv0).1.2) ((z.2.getD j qv0).2.2) - loQ ((z.2.getD j qv0).1.2) ((z.2.getD j qv0).2.2)) * (((((sh.getD j 0) % 13) : Int) : Rat) / ((12 : Int) : Rat))))))), (16, .int .i64 ((j : Nat) : Int))] k_ k_ ?_
        refine RD.done k_ ?_
        refine KN.next ?_
        refine J.seq ?_
        refine J.regD k_ [] ?_
        refine RD.bq (nl [0, 1, 4, 7, 8]) [1, 2, 3, 9, 10, 12, 13, 14, 15, 16, 93, 94, 97, 100, 101] [] [(1, .int .i64 ((1 + kk : Nat) : Int)), (2, .int .i64 ((1 + nn : Nat) : Int)), (3, sl u sh.length), (9, sl z.1 z.2.length), (10, sl cy.1 cy.2.length), (12, .int .i64 ((n : Nat) : Int)), (13, .bool fd), (14, .int .i64 ((i : Nat) : Int)), (15, .bool (!decide ((((z.2.getD j qv0).1.2) + ((hiQ ((z.2.getD j qv0).1.2) ((z.2.getD j qv0).2.2) - loQ ((z.2.getD j qv0).1.2) ((z.2.getD j qv0).2.2)) * (((((sh.getD j 0) % 13) : Int) : Rat) / ((12 : Int) : Rat)))) < loQ ((((cy.2.getD i (saNil, [])).2).getD j qv0).1.2) ((((cy.2.getD i (saNil, [])).2).getD j qv0).2.2)) && !decide (hiQ ((((cy.2.getD i (saNil, [])).2).getD j qv0).1.2) ((((cy.2.getD i (saNil, [])).2).getD j qv0).2.2) < (((z.2.getD j qv0).1.2) + ((hiQ ((z.2.getD j qv0).1.2) ((z.2.getD j qv0).2.2) - loQ ((z.2.getD j qv0).1.2) ((z.2.getD j qv0).2.2)) * (((((sh.getD j 0) % 13) : Int) : Rat) / ((12 : Int) : Rat))))))), (16, .int .i64 ((j : Nat) : Int)), (93, sl cy.1 cy.2.length), (94, .int .i64 ((i : Nat) : Int)), (97, .int .i64 ((j : Nat) : Int)), (100, sl z.1 z.2.length), (101, .int .i64 ((j : Nat) : Int))] k_ k_ ?_
        refine RD.val (i := 2) _ k_ k_ k_ (q_lidx (t := 54) (x := (.tmp 93)) (ix := (.tmp 94)) (K := .i64) (i0 := ((i : Nat) : Int)) (m := i) (e := 31) (E := elw) (sz := 1) (s := cy.1) (xs := cy.2) 11 rfl rfl k_ k_ k_ k_ k_ (by omega) x_) ?_
        refine RD.val (i := 3) _ k_ k_ k_ (q_lload1 (T := 31) (x := (.tmp 95)) (m := i) (s := cy.1) (E := elw) (xs := cy.2) 11 rfl rfl k_ k_ k_ rfl x_) ?_
        refine RD.also (fL elv ((cy.2.getD i (saNil, [])).1) ((cy.2.getD i (saNil, [])).2)) (fun w h => (fL_elem (h _ (.tail _ ((.tail _ ((.tail _ ((.tail _ ((.tail _ ((.tail _ ((.tail _ ((.tail _ ((.tail _ ((.tail _ ((.tail _ ((.head _)))))))))))))))))))))))) x_)) k_ ?_
        refine RD.val (i := 5) _ k_ k_ k_ (q_lidx (t := 31) (x := (.tmp 96)) (ix := (.tmp 97)) (K := .i64) (i0 := ((j : Nat) : Int)) (m := j) (e := 43) (E := elv) (sz := 6) (s := ((cy.2.getD i (saNil, [])).1)) (xs := ((cy.2.getD i (saNil, [])).2)) 0 rfl rfl k_ k_ k_ k_ k_ (by omega) x_) ?_
        refine RD.val (i := 6) _ k_ k_ k_ (q_lload (T := 43) (x := (.tmp 98)) (m := j) (s := ((cy.2.getD i (saNil, [])).1)) (E := elv) (sz := 6) (xs := ((cy.2.getD i (saNil, [])).2)) 0 rfl rfl k_ k_ k_ k_ x_) ?_
        refine RD.also (fRat ((((cy.2.getD i (saNil, [])).2).getD j qv0).1.1) (encQ ((((cy.2.getD i (saNil, [])).2).getD j qv0).1.2))) (fun w h => (fL_elem (h _ (.head _)) x_).1) k_ ?_
        refine RD.also (fRat ((((cy.2.getD i (saNil, [])).2).getD j qv0).2.1) (encQ ((((cy.2.getD i (saNil, [])).2).getD j qv0).2.2))) (fun w h => (fL_elem (h _ (.tail _ ((.head _)))) x_).2) k_ ?_
        refine RD.val (i := 9) _ k_ k_ k_ (q_lidx (t := 31) (x := (.tmp 100)) (ix := (.tmp 101)) (K := .i64) (i0 := ((j : Nat) : Int)) (m := j) (e := 43) (E := elv) (sz := 6) (s := z.1) (xs := z.2) 15 rfl rfl k_ k_ k_ k_ k_ (by omega) x_) ?_
        refine RD.val (i := 10) _ k_ k_ k_ (q_lload (T := 43) (x := (.tmp 102)) (m := j) (s := z.1) (E := elv) (sz := 6) (xs := z.2) 15 rfl rfl k_ k_ k_ k_ x_) ?_
        refine RD.also (fRat ((z.2.getD j qv0).1.1) (encQ ((z.2.getD j qv0).1.2))) (fun w h => (fL_elem (h _ (.tail _ ((.tail _ ((.tail _ ((.tail _ ((.tail _ ((.tail _ ((.tail _ ((.tail _ ((.tail _ ((.tail _ ((.tail _ ((.tail _ ((.tail _ ((.tail _ ((.tail _ ((.head _)))))))))))))))))))))))))))))))) x_).1) k_ ?_
        refine RD.also (fRat ((z.2.getD j qv0).2.1) (encQ ((z.2.getD j qv0).2.2))) (fun w h => (fL_elem (h _ (.tail _ ((.tail _ ((.tail _ ((.tail _ ((.tail _ ((.tail _ ((.tail _ ((.tail _ ((.tail _ ((.tail _ ((.tail _ ((.tail _ ((.tail _ ((.tail _ ((.tail _ ((.tail _ ((.head _)))))))))))))))))))))))))))))))))) x_).2) k_ ?_
        refine RD.call (i := 11) (r04_Within ((((cy.2.getD i (saNil, [])).2).getD j qv0).1.1) ((((cy.2.getD i (saNil, [])).2).getD j qv0).1.2) ((((cy.2.getD i (saNil, [])).2).getD j qv0).2.1) ((((cy.2.getD i (saNil, [])).2).getD j qv0).2.2) ((z.2.getD j qv0).1.1) ((z.2.getD j qv0).1.2) ((z.2.getD j qv0).2.1) ((z.2.getD j qv0).2.2) y_l21_CellsFill y_l21_CellsFill y_l21_CellsFill y_l21_CellsFill) [3, 2, 1, 0] k_ k_ k_ k_ k_ rfl (fun y54 _ => ?_)
        refine RD.bq (nl [12, 13]) [1, 2, 3, 9, 10, 12, 13, 14, 15, 16, 106] [] [(1, .int .i64 ((1 + kk : Nat) : Int)), (2, .int .i64 ((1 + nn : Nat) : Int)), (3, sl u sh.length), (9, sl z.1 z.2.length), (10, sl cy.1 cy.2.length), (12, .int .i64 ((n : Nat) : Int)), (13, .bool fd), (14, .int .i64 ((i : Nat) : Int)), (15, .bool (!decide ((((z.2.getD j qv0).1.2) + ((hiQ ((z.2.getD j qv0).1.2) ((z.2.getD j qv0).2.2) - loQ ((z.2.getD j qv0).1.2) ((z.2.getD j qv0).2.2)) * (((((sh.getD j 0) % 13) : Int) : Rat) / ((12 : Int) : Rat)))) < loQ ((((cy.2.getD i (saNil, [])).2).getD j qv0).1.2) ((((cy.2.getD i (saNil, [])).2).getD j qv0).2.2)) && !decide (hiQ ((((cy.2.getD i (saNil, [])).2).getD j qv0).1.2) ((((cy.2.getD i (saNil, [])).2).getD j qv0).2.2) < (((z.2.getD j qv0).1.2) + ((hiQ ((z.2.getD j qv0).1.2) ((z.2.getD j qv0).2.2) - loQ ((z.2.getD j qv0).1.2) ((z.2.getD j qv0).2.2)) * (((((sh.getD j 0) % 13) : Int) : Rat) / ((12 : Int) : Rat))))))), (16, .int .i64 ((j : Nat) : Int)), (106, .bool (!((!decide (loQ ((((cy.2.getD i (saNil, [])).2).getD j qv0).1.2) ((((cy.2.getD i (saNil, [])).2).getD j qv0).2.2) < loQ ((z.2.getD j qv0).1.2) ((z.2.getD j qv0).2.2)) && !decide (hiQ ((z.2.getD j qv0).1.2) ((z.2.getD j qv0).2.2) < loQ ((((cy.2.getD i (saNil, [])).2).getD j qv0).1.2) ((((cy.2.getD i (saNil, [])).2).getD j qv0).2.2))) && (!decide (hiQ ((((cy.2.getD i (saNil, [])).2).getD j qv0).1.2) ((((cy.2.getD i (saNil, [])).2).getD j qv0).2.2) < loQ ((z.2.getD j qv0).1.2) ((z.2.getD j qv0).2.2)) && !decide (hiQ ((z.2.getD j qv0).1.2) ((z.2.getD j qv0).2.2) < hiQ ((((cy.2.getD i (saNil, [])).2).getD j qv0).1.2) ((((cy.2.getD i (saNil, [])).2).getD j qv0).2.2))))))] k_ k_ ?_
        refine RD.split (t := 106) (!((!decide (loQ ((((cy.2.getD i (saNil, [])).2).getD j qv0).1.2) ((((cy.2.getD i (saNil, [])).2).getD j qv0).2.2) < loQ ((z.2.getD j qv0).1.2) ((z.2.getD j qv0).2.2)) && !decide (hiQ ((z.2.getD j qv0).1.2) ((z.2.getD j qv0).2.2) < loQ ((((cy.2.getD i (saNil, [])).2).getD j qv0).1.2) ((((cy.2.getD i (saNil, [])).2).getD j qv0).2.2))) && (!decide (hiQ ((((cy.2.getD i (saNil, [])).2).getD j qv0).1.2) ((((cy.2.getD i (saNil, [])).2).getD j qv0).2.2) < loQ ((z.2.getD j qv0).1.2) ((z.2.getD j qv0).2.2)) && !decide (hiQ ((z.2.getD j qv0).1.2) ((z.2.getD j qv0).2.2) < hiQ ((((cy.2.getD i (saNil, [])).2).getD j qv0).1.2) ((((cy.2.getD i (saNil, [])).2).getD j qv0).2.2))))) k_ (fun c55 => ?_) (fun c55 => ?_)
        ·exact absurd c55 (by exact within_n hcf.ge hcf.le hcf.up)
        ·refine RD.bq (nl [14, 15, 18, 22, 25, 26]) [1, 2, 3, 9, 10, 12, 13, 14, 15, 16, 106, 107, 108, 111, 115, 118, 119] [] [(1, .int .i64 ((1 + kk : Nat) : Int)), (2, .int .i64 ((1 + nn : Nat) : Int)), (3, sl u sh.length), (9, sl z.1 z.2.length), (10, sl cy.1 cy.2.length), (12, .int .i64 ((n : Nat) : Int)), (13, .bool fd), (14, .int .i64 ((i : Nat) : Int)), (15, .bool (!decide ((((z.2.getD j qv0).1.2) + ((hiQ ((z.2.getD j qv0).1.2) ((z.2.getD j qv0).2.2) - loQ ((z.2.getD j qv0).1.2) ((z.2.getD j qv0).2.2)) * (((((sh.getD j 0) % 13) : Int) : Rat) / ((12 : Int) : Rat)))) < loQ ((((cy.2.getD i (saNil, [])).2).getD j qv0).1.2) ((((cy.2.getD i (saNil, [])).2).getD j qv0).2.2)) && !decide (hiQ ((((cy.2.getD i (saNil, [])).2).getD j qv0).1.2) ((((cy.2.getD i (saNil, [])).2).getD j qv0).2.2) < (((z.2.getD j qv0).1.2) + ((hiQ ((z.2.getD j qv0).1.2) ((z.2.getD j qv0).2.2) - loQ ((z.2.getD j qv0).1.2) ((z.2.getD j qv0).2.2)) * (((((sh.getD j 0) % 13) : Int) : Rat) / ((12 : Int) : Rat))))))), (16, .int .i64 ((j : Nat) : Int)), (106, .bool false), (107, sl cy.1 cy.2.length), (108, .int .i64 ((i : Nat) : Int)), (111, .int .i64 ((j : Nat) : Int)), (115, .int .i64 ((1 + nn : Nat) : Int)), (118, sl z.1 z.2.length), (119, .int .i64 ((j : Nat) : Int))] k_ k_ ?_
         refine RD.val (i := 16) _ k_ k_ k_ (q_lidx (t := 54) (x := (.tmp 107)) (ix := (.tmp 108)) (K := .i64) (i0 := ((i : Nat) : Int)) (m := i) (e := 31) (E := elw) (sz := 1) (s := cy.1) (xs := cy.2) 16 rfl rfl k_ k_ k_ k_ k_ (by omega) x_) ?_
         refine RD.val (i := 17) _ k_ k_ k_ (q_lload1 (T := 31) (x := (.tmp 109)) (m := i) (s := cy.1) (E := elw) (xs := cy.2) 16 rfl rfl k_ k_ k_ rfl x_) ?_
         refine RD.also (fL elv ((cy.2.getD i (saNil, [])).1) ((cy.2.getD i (saNil, [])).2)) (fun w h => (fL_elem (h _ (.tail _ ((.tail _ ((.tail _ ((.tail _ ((.tail _ ((.tail _ ((.tail _ ((.tail _ ((.tail _ ((.tail _ ((.tail _ ((.tail _ ((.tail _ ((.tail _ ((.tail _ ((.tail _ ((.head _)))))))))))))))))))))))))))))))))) x_)) k_ ?_
         refine RD.val (i := 19) _ k_ k_ k_ (q_lidx (t := 31) (x := (.tmp 110)) (ix := (.tmp 111)) (K := .i64) (i0 := ((j : Nat) : Int)) (m := j) (e := 43) (E := elv) (sz := 6) (s := ((cy.2.getD i (saNil, [])).1)) (xs := ((cy.2.getD i (saNil, [])).2)) 0 rfl rfl k_ k_ k_ k_ k_ (by omega) x_) ?_
         refine RD.val (i := 20) _ k_ k_ k_ (q_lload (T := 43) (x := (.tmp 112)) (m := j) (s := ((cy.2.getD i (saNil, [])).1)) (E := elv) (sz := 6) (xs := ((cy.2.getD i (saNil, [])).2)) 0 rfl rfl k_ k_ k_ k_ x_) ?_
         refine RD.also (fRat ((((cy.2.getD i (saNil, [])).2).getD j qv0).1.1) (encQ ((((cy.2.getD i (saNil, [])).2).getD j qv0).1.2))) (fun w h => (fL_elem (h _ (.head _)) x_).1) k_ ?_
         refine RD.also (fRat ((((cy.2.getD i (saNil, [])).2).getD j qv0).2.1) (encQ ((((cy.2.getD i (saNil, [])).2).getD j qv0).2.2))) (fun w h => (fL_elem (h _ (.tail _ ((.head _)))) x_).2) k_ ?_
         refine RD.val (i := 27) _ k_ k_ k_ (q_lidx (t := 31) (x := (.tmp 118)) (ix := (.tmp 119)) (K := .i64) (i0 := ((j : Nat) : Int)) (m := j) (e := 43) (E := elv) (sz := 6) (s := z.1) (xs := z.2) 20 rfl rfl k_ k_ k_ k_ k_ (by omega) x_) ?_
         refine RD.val (i := 28) _ k_ k_ k_ (q_lload (T := 43) (x := (.tmp 120)) (m := j) (s := z.1) (E := elv) (sz := 6) (xs := z.2) 20 rfl rfl k_ k_ k_ k_ x_) ?_
         refine RD.also (fRat ((z.2.getD j qv0).1.1) (encQ ((z.2.getD j qv0).1.2))) (fun w h => (fL_elem (h _ (.tail _ ((.tail _ ((.tail _ ((.tail _ ((.tail _ ((.tail _ ((.tail _ ((.tail _ ((.tail _ ((.tail _ ((.tail _ ((.tail _ ((.tail _ ((.tail _ ((.tail _ ((.tail _ ((.tail _ ((.tail _ ((.tail _ ((.tail _ ((.head _)))))))))))))))))))))))))))))))))))))))))) x_).1) k_ ?_
         refine RD.also (fRat ((z.2.getD j qv0).2.1) (encQ ((z.2.getD j qv0).2.2))) (fun w h => (fL_elem (h _ (.tail _ ((.tail _ ((.tail _ ((.tail _ ((.tail _ ((.tail _ ((.tail _ ((.tail _ ((.tail _ ((.tail _ ((.tail _ ((.tail _ ((.tail _ ((.tail _ ((.tail _ ((.tail _ ((.tail _ ((.tail _ ((.tail _ ((.tail _ ((.tail _ ((.head _)))))))))))))))))))))))))))))))))))))))))))) x_).2) k_ ?_
         refine RD.call (i := 21) (r04_Width_c ((((cy.2.getD i (saNil, [])).2).getD j qv0).1.1) ((((cy.2.getD i (saNil, [])).2).getD j qv0).1.2) ((((cy.2.getD i (saNil, [])).2).getD j qv0).2.1) ((((cy.2.getD i (saNil, [])).2).getD j qv0).2.2) y_l21_CellsFill y_l21_CellsFill y_l21_CellsFill) [3, 2] k_ k_ k_ k_ k_ rfl (fun y56 _ => ?_)
         refine RD.call (i := 23) (r03_FromInt ((1 + nn : Nat) : Int) y_l21_CellsFill y_l21_CellsFill) [] k_ k_ k_ k_ k_ rfl (fun y57 _ => ?_)
         refine RD.call (i := 24) (r03_Mul_c y56 (hiQ ((((cy.2.getD i (saNil, [])).2).getD j qv0).1.2) ((((cy.2.getD i (saNil, [])).2).getD j qv0).2.2) - loQ ((((cy.2.getD i (saNil, [])).2).getD j qv0).1.2) ((((cy.2.getD i (saNil, [])).2).getD j qv0).2.2)) y57 ((((1 + nn : Nat) : Int) : Int) : Rat) y_l21_CellsFill y_l21_CellsFill) [1, 0] k_ k_ k_ k_ k_ rfl (fun y58 _ => ?_)
         refine RD.call (i := 29) (r04_Width_c ((z.2.getD j qv0).1.1) ((z.2.getD j qv0).1.2) ((z.2.getD j qv0).2.1) ((z.2.getD j qv0).2.2) y_l21_CellsFill y_l21_CellsFill y_l21_CellsFill) [4, 3] k_ k_ k_ k_ k_ rfl (fun y59 _ => ?_)
         refine RD.call (i := 30) (r03_Same y58 (encQ ((hiQ ((((cy.2.getD i (saNil, [])).2).getD j qv0).1.2) ((((cy.2.getD i (saNil, [])).2).getD j qv0).2.2) - loQ ((((cy.2.getD i (saNil, [])).2).getD j qv0).1.2) ((((cy.2.getD i (saNil, [])).2).getD j qv0).2.2)) * ((((1 + nn : Nat) : Int) : Int) : Rat))) y59 (encQ (hiQ ((z.2.getD j qv0).1.2) ((z.2.getD j qv0).2.2) - loQ ((z.2.getD j qv0).1.2) ((z.2.getD j qv0).2.2)))) [1, 0] k_ k_ k_ k_ k_ rfl (fun y60 _ => ?_)
         refine RD.bq (nl [31, 32]) [1, 2, 3, 9, 10, 12, 13, 14, 15, 16, 125] [] [(1, .int .i64 ((1 + kk : Nat) : Int)), (2, .int .i64 ((1 + nn : Nat) : Int)), (3, sl u sh.length), (9, sl z.1 z.2.length), (10, sl cy.1 cy.2.length), (12, .int .i64 ((n : Nat) : Int)), (13, .bool fd), (14, .int .i64 ((i : Nat) : Int)), (15, .bool (!decide ((((z.2.getD j qv0).1.2) + ((hiQ ((z.2.getD j qv0).1.2) ((z.2.getD j qv0).2.2) - loQ ((z.2.getD j qv0).1.2) ((z.2.getD j qv0).2.2)) * (((((sh.getD j 0) % 13) : Int) : Rat) / ((12 : Int) : Rat)))) < loQ ((((cy.2.getD i (saNil, [])).2).getD j qv0).1.2) ((((cy.2.getD i (saNil, [])).2).getD j qv0).2.2)) && !decide (hiQ ((((cy.2.getD i (saNil, [])).2).getD j qv0).1.2) ((((cy.2.getD i (saNil, [])).2).getD j qv0).2.2) < (((z.2.getD j qv0).1.2) + ((hiQ ((z.2.getD j qv0).1.2) ((z.2.getD j qv0).2.2) - loQ ((z.2.getD j qv0).1.2) ((z.2.getD j qv0).2.2)) * (((((sh.getD j 0) % 13) : Int) : Rat) / ((12 : Int) : Rat))))))), (16, .int .i64 ((j : Nat) : Int)), (125, .bool (!(decide ((encQ ((hiQ ((((cy.2.getD i (saNil, [])).2).getD j qv0).1.2) ((((cy.2.getD i (saNil, [])).2).getD j qv0).2.2) - loQ ((((cy.2.getD i (saNil, [])).2).getD j qv0).1.2) ((((cy.2.getD i (saNil, [])).2).getD j qv0).2.2)) * ((((1 + nn : Nat) : Int) : Int) : Rat))) = (encQ (hiQ ((z.2.getD j qv0).1.2) ((z.2.getD j qv0).2.2) - loQ ((z.2.getD j qv0).1.2) ((z.2.getD j qv0).2.2)))))))] k_ k_ ?_
         refine RD.done k_ ?_
         refine KN.next ?_
         refine J.cond (!(decide ((encQ ((hiQ ((((cy.2.getD i (saNil, [])).2).getD j qv0).1.2) ((((cy.2.getD i (saNil, [])).2).getD j qv0).2.2) - loQ ((((cy.2.getD i (saNil, [])).2).getD j qv0).1.2) ((((cy.2.getD i (saNil, [])).2).getD j qv0).2.2)) * ((((1 + nn : Nat) : Int) : Int) : Rat))) = (encQ (hiQ ((z.2.getD j qv0).1.2) ((z.2.getD j qv0).2.2) - loQ ((z.2.getD j qv0).1.2) ((z.2.getD j qv0).2.2)))))) k_ (fun c61 => ?_) (fun c61 => ?_)
         ·replace c61 := of_decide_eq_false ((Bool.not_eq_true' _).mp c61)
          exact absurd c61 (by exact fun hh => hh (width_n hcf))
         ·replace c61 := of_decide_eq_true ((Bool.not_eq_false' _).mp c61)
          refine J.skip ?_
          refine KN.blk ?_
          refine KN.next ?_
          refine J.regN ?_
          refine RN.bq (no 2) [1, 2, 3, 9, 10, 12, 13, 14, 15, 63] [] 2 [(1, .int .i64 ((1 + kk : Nat) : Int)), (2, .int .i64 ((1 + nn : Nat) : Int)), (3, sl u sh.length), (9, sl z.1 z.2.length), (10, sl cy.1 cy.2.length), (12, .int .i64 ((n : Nat) : Int)), (13, .bool fd), (14, .int .i64 ((i : Nat) : Int)), (15, .bool (!decide ((((z.2.getD j qv0).1.2) + ((hiQ ((z.2.getD j qv0).1.2) ((z.2.getD j qv0).2.2) - loQ ((z.2.getD j qv0).1.2) ((z.2.getD j qv0).2.2)) * (((((sh.getD j 0) % 13) : Int) : Rat) / ((12 : Int) : Rat)))) < loQ ((((cy.2.getD i (saNil, [])).2).getD j qv0).1.2) ((((cy.2.getD i (saNil, [])).2).getD j qv0).2.2)) && !decide (hiQ ((((cy.2.getD i (saNil, [])).2).getD j qv0).1.2) ((((cy.2.getD i (saNil, [])).2).getD j qv0).2.2) < (((z.2.getD j qv0).1.2) + ((hiQ ((z.2.getD j qv0).1.2) ((z.2.getD j qv0).2.2) - loQ ((z.2.getD j qv0).1.2) ((z.2.getD j qv0).2.2)) * (((((sh.getD j 0) % 13) : Int) : Rat) / ((12 : Int) : Rat))))))), (63, .int .i64 (IntKind.i64.wrap (((j : Nat) : Int) + 1)))] k_ ?_
          rw [show IntKind.i64.wrap (((j : Nat) : Int) + 1) = ((j + 1 : Nat) : Int) from by rw [IntKind.wrap_i64]; omega]
          refine RN.bq (no 1) [1, 2, 3, 9, 10, 12, 13, 14, 15, 16] [] 3 [(1, .int .i64 ((1 + kk : Nat) : Int)), (2, .int .i64 ((1 + nn : Nat) : Int)), (3, sl u sh.length), (9, sl z.1 z.2.length), (10, sl cy.1 cy.2.length), (12, .int .i64 ((n : Nat) : Int)), (13, .bool fd), (14, .int .i64 ((i : Nat) : Int)), (15, .bool (!decide ((((z.2.getD j qv0).1.2) + ((hiQ ((z.2.getD j qv0).1.2) ((z.2.getD j qv0).2.2) - loQ ((z.2.getD j qv0).1.2) ((z.2.getD j qv0).2.2)) * (((((sh.getD j 0) % 13) : Int) : Rat) / ((12 : Int) : Rat)))) < loQ ((((cy.2.getD i (saNil, [])).2).getD j qv0).1.2) ((((cy.2.getD i (saNil, [])).2).getD j qv0).2.2)) && !decide (hiQ ((((cy.2.getD i (saNil, [])).2).getD j qv0).1.2) ((((cy.2.getD i (saNil, [])).2).getD j qv0).2.2) < (((z.2.getD j qv0).1.2) + ((hiQ ((z.2.getD j qv0).1.2) ((z.2.getD j qv0).2.2) - loQ ((z.2.getD j qv0).1.2) ((z.2.getD j qv0).2.2)) * (((((sh.getD j 0) % 13) : Int) : Rat) / ((12 : Int) : Rat))))))), (16, .int .i64 ((j + 1 : Nat) : Int))] k_ ?_
          refine RN.done k_ ?_
          refine KN.dropF 1 ?_
          refine KN.roundE (j + 1, (!decide ((((z.2.getD j qv0).1.2) + ((hiQ ((z.2.getD j qv0).1.2) ((z.2.getD j qv0).2.2) - loQ ((z.2.getD j qv0).1.2) ((z.2.getD j qv0).2.2)) * (((((sh.getD j 0) % 13) : Int) : Rat) / ((12 : Int) : Rat)))) < loQ ((((cy.2.getD i (saNil, [])).2).getD j qv0).1.2) ((((cy.2.getD i (saNil, [])).2).getD j qv0).2.2)) && !decide (hiQ ((((cy.2.getD i (saNil, [])).2).getD j qv0).1.2) ((((cy.2.getD i (saNil, [])).2).getD j qv0).2.2) < (((z.2.getD j qv0).1.2) + ((hiQ ((z.2.getD j qv0).1.2) ((z.2.getD j qv0).2.2) - loQ ((z.2.getD j qv0).1.2) ((z.2.getD j qv0).2.2)) * (((((sh.getD j 0) % 13) : Int) : Rat) / ((12 : Int) : Rat))))))) [1, 2, 3, 9, 10, 12, 13, 14, 15, 16] [8, 25, 26, 27, 28, 29] (l2 := [(1, .int .i64 ((1 + kk : Nat) : Int)), (2, .int .i64 ((1 + nn : Nat) : Int)), (3, sl u sh.length), (9, sl z.1 z.2.length), (10, sl cy.1 cy.2.length), (12, .int .i64 ((n : Nat) : Int)), (13, .bool fd), (14, .int .i64 ((i : Nat) : Int)), (15, .bool (!decide ((((z.2.getD j qv0).1.2) + ((hiQ ((z.2.getD j qv0).1.2) ((z.2.getD j qv0).2.2) - loQ ((z.2.getD j qv0).1.2) ((z.2.getD j qv0).2.2)) * (((((sh.getD j 0) % 13) : Int) : Rat) / ((12 : Int) : Rat)))) < loQ ((((cy.2.getD i (saNil, [])).2).getD j qv0).1.2) ((((cy.2.getD i (saNil, [])).2).getD j qv0).2.2)) && !decide (hiQ ((((cy.2.getD i (saNil, [])).2).getD j qv0).1.2) ((((cy.2.getD i (saNil, [])).2).getD j qv0).2.2) < (((z.2.getD j qv0).1.2) + ((hiQ ((z.2.getD j qv0).1.2) ((z.2.getD j qv0).2.2) - loQ ((z.2.getD j qv0).1.2) ((z.2.getD j qv0).2.2)) * (((((sh.getD j 0) % 13) : Int) : Rat) / ((12 : Int) : Rat))))))), (16, .int .i64 ((j + 1 : Nat) : Int))]) (by (try dsimp only); omega) (by (try dsimp only); first | exact ⟨by omega, fun h => ins_t hcf (h j (by omega))⟩ | exact ⟨by omega, fun h => absurd (hJ2 (fun jj hjj => h jj (by omega))) (by simp [*])⟩) k_ (by rfl) (by rfl) (by rfl)
       ·refine RD.bq (nl [2, 3, 4, 5, 6, 7, 8, 9, 10, 11, 12]) [1, 2, 3, 9, 10, 12, 13, 14, 15, 16] [] [(1, .int .i64 ((1 + kk : Nat) : Int)), (2, .int .i64 ((1 + nn : Nat) : Int)), (3, sl u sh.length), (9, sl z.1 z.2.length), (10, sl cy.1 cy.2.length), (12, .int .i64 ((n : Nat) : Int)), (13, .bool fd), (14, .int .i64 ((i : Nat) : Int)), (15, .bool false), (16, .int .i64 ((j : Nat) : Int))] k_ k_ ?_
        refine RD.done k_ ?_
        refine KN.next ?_
        refine J.seq ?_
        refine J.regD k_ [] ?_
        refine RD.bq (nl [0, 1, 4, 7, 8]) [1, 2, 3, 9, 10, 12, 13, 14, 15, 16, 93, 94, 97, 100, 101] [] [(1, .int .i64 ((1 + kk : Nat) : Int)), (2, .int .i64 ((1 + nn : Nat) : Int)), (3, sl u sh.length), (9, sl z.1 z.2.length), (10, sl cy.1 cy.2.length), (12, .int .i64 ((n : Nat) : Int)), (13, .bool fd), (14, .int .i64 ((i : Nat) : Int)), (15, .bool false), (16, .int .i64 ((j : Nat) : Int)), (93, sl cy.1 cy.2.length), (94, .int .i64 ((i : Nat) : Int)), (97, .int .i64 ((j : Nat) : Int)), (100, sl z.1 z.2.length), (101, .int .i64 ((j : Nat) : Int))] k_ k_ ?_
        refine RD.val (i := 2) _ k_ k_ k_ (q_lidx (t := 54) (x := (.tmp 93)) (ix := (.tmp 94)) (K := .i64) (i0 := ((i : Nat) : Int)) (m := i) (e := 31) (E := elw) (sz := 1) (s := cy.1) (xs := cy.2) 8 rfl rfl k_ k_ k_ k_ k_ (by omega) x_) ?_
        refine RD.val (i := 3) _ k_ k_ k_ (q_lload1 (T := 31) (x := (.tmp 95)) (m := i) (s := cy.1) (E := elw) (xs := cy.2) 8 rfl rfl k_ k_ k_ rfl x_) ?_
        refine RD.also (fL elv ((cy.2.getD i (saNil, [])).1) ((cy.2.getD i (saNil, [])).2)) (fun w h => (fL_elem (h _ (.tail _ ((.tail _ ((.tail _ ((.tail _ ((.tail _ ((.tail _ ((.tail _ ((.tail _ ((.head _)))))))))))))))))) x_)) k_ ?_
        refine RD.val (i := 5) _ k_ k_ k_ (q_lidx (t := 31) (x := (.tmp 96)) (ix := (.tmp 97)) (K := .i64) (i0 := ((j : Nat) : Int)) (m := j) (e := 43) (E := elv) (sz := 6) (s := ((cy.2.getD i (saNil, [])).1)) (xs := ((cy.2.getD i (saNil, [])).2)) 0 rfl rfl k_ k_ k_ k_ k_ (by omega) x_) ?_
        refine RD.val (i := 6) _ k_ k_ k_ (q_lload (T := 43) (x := (.tmp 98)) (m := j) (s := ((cy.2.getD i (saNil, [])).1)) (E := elv) (sz := 6) (xs := ((cy.2.getD i (saNil, [])).2)) 0 rfl rfl k_ k_ k_ k_ x_) ?_
        refine RD.also (fRat ((((cy.2.getD i (saNil, [])).2).getD j qv0).1.1) (encQ ((((cy.2.getD i (saNil, [])).2).getD j qv0).1.2))) (fun w h => (fL_elem (h _ (.head _)) x_).1) k_ ?_
        refine RD.also (fRat ((((cy.2.getD i (saNil, [])).2).getD j qv0).2.1) (encQ ((((cy.2.getD i (saNil, [])).2).getD j qv0).2.2))) (fun w h => (fL_elem (h _ (.tail _ ((.head _)))) x_).2) k_ ?_
        refine RD.val (i := 9) _ k_ k_ k_ (q_lidx (t := 31) (x := (.tmp 100)) (ix := (.tmp 101)) (K := .i64) (i0 := ((j : Nat) : Int)) (m := j) (e := 43) (E := elv) (sz := 6) (s := z.1) (xs := z.2) 12 rfl rfl k_ k_ k_ k_ k_ (by omega) x_) ?_
        refine RD.val (i := 10) _ k_ k_ k_ (q_lload (T := 43) (x := (.tmp 102)) (m := j) (s := z.1) (E := elv) (sz := 6) (xs := z.2) 12 rfl rfl k_ k_ k_ k_ x_) ?_
        refine RD.also (fRat ((z.2.getD j qv0).1.1) (encQ ((z.2.getD j qv0).1.2))) (fun w h => (fL_elem (h _ (.tail _ ((.tail _ ((.tail _ ((.tail _ ((.tail _ ((.tail _ ((.tail _ ((.tail _ ((.tail _ ((.tail _ ((.tail _ ((.tail _ ((.head _)))))))))))))))))))))))))) x_).1) k_ ?_
        refine RD.also (fRat ((z.2.getD j qv0).2.1) (encQ ((z.2.getD j qv0).2.2))) (fun w h => (fL_elem (h _ (.tail _ ((.tail _ ((.tail _ ((.tail _ ((.tail _ ((.tail _ ((.tail _ ((.tail _ ((.tail _ ((.tail _ ((.tail _ ((.tail _ ((.tail _ ((.head _)))))))))))))))))))))))))))) x_).2) k_ ?_
        refine RD.call (i := 11) (r04_Within ((((cy.2.getD i (saNil, [])).2).getD j qv0).1.1) ((((cy.2.getD i (saNil, [])).2).getD j qv0).1.2) ((((cy.2.getD i (saNil, [])).2).getD j qv0).2.1) ((((cy.2.getD i (saNil, [])).2).getD j qv0).2.2) ((z.2.getD j qv0).1.1) ((z.2.getD j qv0).1.2) ((z.2.getD j qv0).2.1) ((z.2.getD j qv0).2.2) y_l21_CellsFill y_l21_CellsFill y_l21_CellsFill y_l21_CellsFill) [3, 2, 1, 0] k_ k_ k_ k_ k_ rfl (fun y62 _ => ?_)
        refine RD.bq (nl [12, 13]) [1, 2, 3, 9, 10, 12, 13, 14, 15, 16, 106] [] [(1, .int .i64 ((1 + kk : Nat) : Int)), (2, .int .i64 ((1 + nn : Nat) : Int)), (3, sl u sh.length), (9, sl z.1 z.2.length), (10, sl cy.1 cy.2.length), (12, .int .i64 ((n : Nat) : Int)), (13, .bool fd), (14, .int .i64 ((i : Nat) : Int)), (15, .bool false), (16, .int .i64 ((j : Nat) : Int)), (106, .bool (!((!decide (loQ ((((cy.2.getD i (saNil, [])).2).getD j qv0).1.2) ((((cy.2.getD i (saNil, [])).2).getD j qv0).2.2) < loQ ((z.2.getD j qv0).1.2) ((z.2.getD j qv0).2.2)) && !decide (hiQ ((z.2.getD j qv0).1.2) ((z.2.getD j qv0).2.2) < loQ ((((cy.2.getD i (saNil, [])).2).getD j qv0).1.2) ((((cy.2.getD i (saNil, [])).2).getD j qv0).2.2))) && (!decide (hiQ ((((cy.2.getD i (saNil, [])).2).getD j qv0).1.2) ((((cy.2.getD i (saNil, [])).2).getD j qv0).2.2) < loQ ((z.2.getD j qv0).1.2) ((z.2.getD j qv0).2.2)) && !decide (hiQ ((z.2.getD j qv0).1.2) ((z.2.getD j qv0).2.2) < hiQ ((((cy.2.getD i (saNil, [])).2).getD j qv0).1.2) ((((cy.2.getD i (saNil, [])).2).getD j qv0).2.2))))))] k_ k_ ?_
        refine RD.split (t := 106) (!((!decide (loQ ((((cy.2.getD i (saNil, [])).2).getD j qv0).1.2) ((((cy.2.getD i (saNil, [])).2).getD j qv0).2.2) < loQ ((z.2.getD j qv0).1.2) ((z.2.getD j qv0).2.2)) && !decide (hiQ ((z.2.getD j qv0).1.2) ((z.2.getD j qv0).2.2) < loQ ((((cy.2.getD i (saNil, [])).2).getD j qv0).1.2) ((((cy.2.getD i (saNil, [])).2).getD j qv0).2.2))) && (!decide (hiQ ((((cy.2.getD i (saNil, [])).2).getD j qv0).1.2) ((((cy.2.getD i (saNil, [])).2).getD j qv0).2.2) < loQ ((z.2.getD j qv0).1.2) ((z.2.getD j qv0).2.2)) && !decide (hiQ ((z.2.getD j qv0).1.2) ((z.2.getD j qv0).2.2) < hiQ ((((cy.2.getD i (saNil, [])).2).getD j qv0).1.2) ((((cy.2.getD i (saNil, [])).2).getD j qv0).2.2))))) k_ (fun c63 => ?_) (fun c63 => ?_)
        ·exact absurd c63 (by exact within_n hcf.ge hcf.le hcf.up)
        ·refine RD.bq (nl [14, 15, 18, 22, 25, 26]) [1, 2, 3, 9, 10, 12, 13, 14, 15, 16, 106, 107, 108, 111, 115, 118, 119] [] [(1, .int .i64 ((1 + kk : Nat) : Int)), (2, .int .i64 ((1 + nn : Nat) : Int)), (3, sl u sh.length), (9, sl z.1 z.2.length), (10, sl cy.1 cy.2.length), (12, .int .i64 ((n : Nat) : Int)), (13, .bool fd), (14, .int .i64 ((i : Nat) : Int)), (15, .bool false), (16, .int .i64 ((j : Nat) : Int)), (106, .bool false), (107, sl cy.1 cy.2.length), (108, .int .i64 ((i : Nat) : Int)), (111, .int .i64 ((j : Nat) : Int)), (115, .int .i64 ((1 + nn : Nat) : Int)), (118, sl z.1 z.2.length), (119, .int .i64 ((j : Nat) : Int))] k_ k_ ?_
         refine RD.val (i := 16) _ k_ k_ k_ (q_lidx (t := 54) (x := (.tmp 107)) (ix := (.tmp 108)) (K := .i64) (i0 := ((i : Nat) : Int)) (m := i) (e := 31) (E := elw) (sz := 1) (s := cy.1) (xs := cy.2) 13 rfl rfl k_ k_ k_ k_ k_ (by omega) x_) ?_
         refine RD.val (i := 17) _ k_ k_ k_ (q_lload1 (T := 31) (x := (.tmp 109)) (m := i) (s := cy.1) (E := elw) (xs := cy.2) 13 rfl rfl k_ k_ k_ rfl x_) ?_
         refine RD.also (fL elv ((cy.2.getD i (saNil, [])).1) ((cy.2.getD i (saNil, [])).2)) (fun w h => (fL_elem (h _ (.tail _ ((.tail _ ((.tail _ ((.tail _ ((.tail _ ((.tail _ ((.tail _ ((.tail _ ((.tail _ ((.tail _ ((.tail _ ((.tail _ ((.tail _ ((.head _)))))))))))))))))))))))))))) x_)) k_ ?_
         refine RD.val (i := 19) _ k_ k_ k_ (q_lidx (t := 31) (x := (.tmp 110)) (ix := (.tmp 111)) (K := .i64) (i0 := ((j : Nat) : Int)) (m := j) (e := 43) (E := elv) (sz := 6) (s := ((cy.2.getD i (saNil, [])).1)) (xs := ((cy.2.getD i (saNil, [])).2)) 0 rfl rfl k_ k_ k_ k_ k_ (by omega) x_) ?_
         refine RD.val (i := 20) _ k_ k_ k_ (q_lload (T := 43) (x := (.tmp 112)) (m := j) (s := ((cy.2.getD i (saNil, [])).1)) (E := elv) (sz := 6) (xs := ((cy.2.getD i (saNil, [])).2)) 0 rfl rfl k_ k_ k_ k_ x_) ?_
         refine RD.also (fRat ((((cy.2.getD i (saNil, [])).2).getD j qv0).1.1) (encQ ((((cy.2.getD i (saNil, [])).2).getD j qv0).1.2))) (fun w h => (fL_elem (h _ (.head _)) x_).1) k_ ?_
         refine RD.also (fRat ((((cy.2.getD i (saNil, [])).2).getD j qv0).2.1) (encQ ((((cy.2.getD i (saNil, [])).2).getD j qv0).2.2))) (fun w h => (fL_elem (h _ (.tail _ ((.head _)))) x_).2) k_ ?_
         refine RD.val (i := 27) _ k_ k_ k_ (q_lidx (t := 31) (x := (.tmp 118)) (ix := (.tmp 119)) (K := .i64) (i0 := ((j : Nat) : Int)) (m := j) (e := 43) (E := elv) (sz := 6) (s := z.1) (xs := z.2) 17 rfl rfl k_ k_ k_ k_ k_ (by omega) x_) ?_
         refine RD.val (i := 28) _ k_ k_ k_ (q_lload (T := 43) (x := (.tmp 120)) (m := j) (s := z.1) (E := elv) (sz := 6) (xs := z.2) 17 rfl rfl k_ k_ k_ k_ x_) ?_
         refine RD.also (fRat ((z.2.getD j qv0).1.1) (encQ ((z.2.getD j qv0).1.2))) (fun w h => (fL_elem (h _ (.tail _ ((.tail _ ((.tail _ ((.tail _ ((.tail _ ((.tail _ ((.tail _ ((.tail _ ((.tail _ ((.tail _ ((.tail _ ((.tail _ ((.tail _ ((.tail _ ((.tail _ ((.tail _ ((.tail _ ((.head _)))))))))))))))))))))))))))))))))))) x_).1) k_ ?_
         refine RD.also (fRat ((z.2.getD j qv0).2.1) (encQ ((z.2.getD j qv0).2.2))) (fun w h => (fL_elem (h _ (.tail _ ((.tail _ ((.tail _ ((.tail _ ((.tail _ ((.tail _ ((.tail _ ((.tail _ ((.tail _ ((.tail _ ((.tail _ ((.tail _ ((.tail _ ((.tail _ ((.tail _ ((.tail _ ((.tail _ ((.tail _ ((.head _)))))))))))))))))))))))))))))))))))))) x_).2) k_ ?_
         refine RD.call (i := 21) (r04_Width_c ((((cy.2.getD i (saNil, [])).2).getD j qv0).1.1) ((((cy.2.getD i (saNil, [])).2).getD j qv0).1.2) ((((cy.2.getD i (saNil, [])).2).getD j qv0).2.1) ((((cy.2.getD i (saNil, [])).2).getD j qv0).2.2) y_l21_CellsFill y_l21_CellsFill y_l21_CellsFill) [3, 2] k_ k_ k_ k_ k_ rfl (fun y64 _ => ?_)
         refine RD.call (i := 23) (r03_FromInt ((1 + nn : Nat) : Int) y_l21_CellsFill y_l21_CellsFill) [] k_ k_ k_ k_ k_ rfl (fun y65 _ => ?_)
         refine RD.call (i := 24) (r03_Mul_c y64 (hiQ ((((cy.2.getD i (saNil, [])).2).getD j qv0).1.2) ((((cy.2.getD i (saNil, [])).2).getD j qv0).2.2) - loQ ((((cy.2.getD i (saNil, [])).2).getD j qv0).1.2) ((((cy.2.getD i (saNil, [])).2).getD j qv0).2.2)) y65 ((((1 + nn : Nat) : Int) : Int) : Rat) y_l21_CellsFill y_l21_CellsFill) [1, 0] k_ k_ k_ k_ k_ rfl (fun y66 _ => ?_)
         refine RD.call (i := 29) (r04_Width_c ((z.2.getD j qv0).1.1) ((z.2.getD j qv0).1.2) ((z.2.getD j qv0).2.1) ((z.2.getD j qv0).2.2) y_l21_CellsFill y_l21_CellsFill y_l21_CellsFill) [4, 3] k_ k_ k_ k_ k_ rfl (fun y67 _ => ?_)
         refine RD.call (i := 30) (r03_Same y66 (encQ ((hiQ ((((cy.2.getD i (saNil, [])).2).getD j qv0).1.2) ((((cy.2.getD i (saNil, [])).2).getD j qv0).2.2) - loQ ((((cy.2.getD i (saNil, [])).2).getD j qv0).1.2) ((((cy.2.getD i (saNil, [])).2).getD j qv0).2.2)) * ((((1 + nn : Nat) : Int) : Int) : Rat))) y67 (encQ (hiQ ((z.2.getD j qv0).1.2) ((z.2.getD j qv0).2.2) - loQ ((z.2.getD j qv0).1.2) ((z.2.getD j qv0).2.2)))) [1, 0] k_ k_ k_ k_ k_ rfl (fun y68 _ => ?_)
         refine RD.bq (nl [31, 32]) [1, 2, 3, 9, 10, 12, 13, 14, 15, 16, 125] [] [(1, .int .i64 ((1 + kk : Nat) : Int)), (2, .int .i64 ((1 + nn : Nat) : Int)), (3, sl u sh.length), (9, sl z.1 z.2.length), (10, sl cy.1 cy.2.length), (12, .int .i64 ((n : Nat) : Int)), (13, .bool fd), (14, .int .i64 ((i : Nat) : Int)), (15, .bool false), (16, .int .i64 ((j : Nat) : Int)), (125, .bool (!(decide ((encQ ((hiQ ((((cy.2.getD i (saNil, [])).2).getD j qv0).1.2) ((((cy.2.getD i (saNil, [])).2).getD j qv0).2.2) - loQ ((((cy.2.getD i (saNil, [])).2).getD j qv0).1.2) ((((cy.2.getD i (saNil, [])).2).getD j qv0).2.2)) * ((((1 + nn : Nat) : Int) : Int) : Rat))) = (encQ (hiQ ((z.2.getD j qv0).1.2) ((z.2.getD j qv0).2.2) - loQ ((z.2.getD j qv0).1.2) ((z.2.getD j qv0).2.2)))))))] k_ k_ ?_
         refine RD.done k_ ?_
         refine KN.next ?_
         refine J.cond (!(decide ((encQ ((hiQ ((((cy.2.getD i (saNil, [])).2).getD j qv0).1.2) ((((cy.2.getD i (saNil, [])).2).getD j qv0).2.2) - loQ ((((cy.2.getD i (saNil, [])).2).getD j qv0).1.2) ((((cy.2.getD i (saNil, [])).2).getD j qv0).2.2)) * ((((1 + nn : Nat) : Int) : Int) : Rat))) = (encQ (hiQ ((z.2.getD j qv0).1.2) ((z.2.getD j qv0).2.2) - loQ ((z.2.getD j qv0).1.2) ((z.2.getD j qv0).2.2)))))) k_ (fun c69 => ?_) (fun c69 => ?_)
         ·replace c69 := of_decide_eq_false ((Bool.not_eq_true' _).mp c69)
          exact absurd c69 (by exact fun hh => hh (width_n hcf))
         ·replace c69 := of_decide_eq_true ((Bool.not_eq_false' _).mp c69)
          refine J.skip ?_
          refine KN.blk ?_
          refine KN.next ?_
          refine J.regN ?_
          refine RN.bq (no 2) [1, 2, 3, 9, 10, 12, 13, 14, 15, 63] [] 2 [(1, .int .i64 ((1 + kk : Nat) : Int)), (2, .int .i64 ((1 + nn : Nat) : Int)), (3, sl u sh.length), (9, sl z.1 z.2.length), (10, sl cy.1 cy.2.length), (12, .int .i64 ((n : Nat) : Int)), (13, .bool fd), (14, .int .i64 ((i : Nat) : Int)), (15, .bool false), (63, .int .i64 (IntKind.i64.wrap (((j : Nat) : Int) + 1)))] k_ ?_
          rw [show IntKind.i64.wrap (((j : Nat) : Int) + 1) = ((j + 1 : Nat) : Int) from by rw [IntKind.wrap_i64]; omega]
          refine RN.bq (no 1) [1, 2, 3, 9, 10, 12, 13, 14, 15, 16] [] 3 [(1, .int .i64 ((1 + kk : Nat) : Int)), (2, .int .i64 ((1 + nn : Nat) : Int)), (3, sl u sh.length), (9, sl z.1 z.2.length), (10, sl cy.1 cy.2.length), (12, .int .i64 ((n : Nat) : Int)), (13, .bool fd), (14, .int .i64 ((i : Nat) : Int)), (15, .bool false), (16, .int .i64 ((j + 1 : Nat) : Int))] k_ ?_
          refine RN.done k_ ?_
          refine KN.dropF 1 ?_
          refine KN.roundE (j + 1, false) [1, 2, 3, 9, 10, 12, 13, 14, 15, 16] [8, 22, 23, 24, 25, 26] (l2 := [(1, .int .i64 ((1 + kk : Nat) : Int)), (2, .int .i64 ((1 + nn : Nat) : Int)), (3, sl u sh.length), (9, sl z.1 z.2.length), (10, sl cy.1 cy.2.length), (12, .int .i64 ((n : Nat) : Int)), (13, .bool fd), (14, .int .i64 ((i : Nat) : Int)), (15, .bool false), (16, .int .i64 ((j + 1 : Nat) : Int))]) (by (try dsimp only); omega) (by (try dsimp only); first | exact ⟨by omega, fun h => ins_t hcf (h j (by omega))⟩ | exact ⟨by omega, fun h => absurd (hJ2 (fun jj hjj => h jj (by omega))) (by simp [*])⟩) k_ (by rfl) (by rfl) (by rfl)
     ·replace c15 := of_decide_eq_false c15
      refine J.exit (KX.next (KX.next (KX.hit ?_)))
      refine KN.next ?_
      refine J.regN ?_
      refine RN.bq (no 2) [1, 2, 3, 9, 10, 12, 14, 15, 127] [] 2 [(1, .int .i64 ((1 + kk : Nat) : Int)), (2, .int .i64 ((1 + nn : Nat) : Int)), (3, sl u sh.length), (9, sl z.1 z.2.length), (10, sl cy.1 cy.2.length), (12, .int .i64 ((n : Nat) : Int)), (14, .int .i64 ((i : Nat) : Int)), (15, .bool ok), (127, .bool fd)] k_ ?_
      refine RN.split 127 (fd) k_ (fun c70 => ?_) (fun c70 => ?_)
      ·refine RN.bq (no 3) [1, 2, 3, 9, 10, 12, 13, 14] [] 5 [(1, .int .i64 ((1 + kk : Nat) : Int)), (2, .int .i64 ((1 + nn : Nat) : Int)), (3, sl u sh.length), (9, sl z.1 z.2.length), (10, sl cy.1 cy.2.length), (12, .int .i64 ((n : Nat) : Int)), (13, .bool true), (14, .int .i64 ((i : Nat) : Int))] k_ ?_
       refine RN.done k_ ?_
       refine KN.blk ?_
       refine KN.next ?_
       refine J.regN ?_
       refine RN.bq (no 2) [1, 2, 3, 9, 10, 12, 13, 51] [] 2 [(1, .int .i64 ((1 + kk : Nat) : Int)), (2, .int .i64 ((1 + nn : Nat) : Int)), (3, sl u sh.length), (9, sl z.1 z.2.length), (10, sl cy.1 cy.2.length), (12, .int .i64 ((n : Nat) : Int)), (13, .bool true), (51, .int .i64 (IntKind.i64.wrap (((i : Nat) : Int) + 1)))] k_ ?_
       rw [show IntKind.i64.wrap (((i : Nat) : Int) + 1) = ((i + 1 : Nat) : Int) from by rw [IntKind.wrap_i64]; omega]
       refine RN.bq (no 1) [1, 2, 3, 9, 10, 12, 13, 14] [] 3 [(1, .int .i64 ((1 + kk : Nat) : Int)), (2, .int .i64 ((1 + nn : Nat) : Int)), (3, sl u sh.length), (9, sl z.1 z.2.length), (10, sl cy.1 cy.2.length), (12, .int .i64 ((n : Nat) : Int)), (13, .bool true), (14, .int .i64 ((i + 1 : Nat) : Int))] k_ ?_
       refine RN.done k_ ?_
       refine KN.roundE (i + 1, true) [1, 2, 3, 9, 10, 12, 13, 14] [1, 2, 3, 4, 5] (l2 := [(1, .int .i64 ((1 + kk : Nat) : Int)), (2, .int .i64 ((1 + nn : Nat) : Int)), (3, sl u sh.length), (9, sl z.1 z.2.length), (10, sl cy.1 cy.2.length), (12, .int .i64 ((n : Nat) : Int)), (13, .bool true), (14, .int .i64 ((i + 1 : Nat) : Int))]) (by (try dsimp only); omega) (by (try dsimp only); first | exact ⟨by omega, fun _ _ _ => rfl⟩ | exact ⟨by omega, fun q hq h => by rcases Nat.lt_succ_iff_lt_or_eq.1 hq with hq | rfl; exact absurd (hI2 q hq h) (by simp [*]); exact hJ2 (fun jj hjj => h jj (by omega))⟩) k_ (by rfl) (by rfl) (by rfl)
      ·refine RN.bq (no 3) [1, 2, 3, 9, 10, 12, 13, 14] [] 5 [(1, .int .i64 ((1 + kk : Nat) : Int)), (2, .int .i64 ((1 + nn : Nat) : Int)), (3, sl u sh.length), (9, sl z.1 z.2.length), (10, sl cy.1 cy.2.length), (12, .int .i64 ((n : Nat) : Int)), (13, .bool ok), (14, .int .i64 ((i : Nat) : Int))] k_ ?_
       refine RN.done k_ ?_
       refine KN.blk ?_
       refine KN.next ?_
       refine J.regN ?_
       refine RN.bq (no 2) [1, 2, 3, 9, 10, 12, 13, 51] [] 2 [(1, .int .i64 ((1 + kk : Nat) : Int)), (2, .int .i64 ((1 + nn : Nat) : Int)), (3, sl u sh.length), (9, sl z.1 z.2.length), (10, sl cy.1 cy.2.length), (12, .int .i64 ((n : Nat) : Int)), (13, .bool ok), (51, .int .i64 (IntKind.i64.wrap (((i : Nat) : Int) + 1)))] k_ ?_
       rw [show IntKind.i64.wrap (((i : Nat) : Int) + 1) = ((i + 1 : Nat) : Int) from by rw [IntKind.wrap_i64]; omega]
       refine RN.bq (no 1) [1, 2, 3, 9, 10, 12, 13, 14] [] 3 [(1, .int .i64 ((1 + kk : Nat) : Int)), (2, .int .i64 ((1 + nn : Nat) : Int)), (3, sl u sh.length), (9, sl z.1 z.2.length), (10, sl cy.1 cy.2.length), (12, .int .i64 ((n : Nat) : Int)), (13, .bool ok), (14, .int .i64 ((i + 1 : Nat) : Int))] k_ ?_
       refine RN.done k_ ?_
       refine KN.roundE (i + 1, ok) [1, 2, 3, 9, 10, 12, 13, 14] [1, 2, 3, 4, 5] (l2 := [(1, .int .i64 ((1 + kk : Nat) : Int)), (2, .int .i64 ((1 + nn : Nat) : Int)), (3, sl u sh.length), (9, sl z.1 z.2.length), (10, sl cy.1 cy.2.length), (12, .int .i64 ((n : Nat) : Int)), (13, .bool ok), (14, .int .i64 ((i + 1 : Nat) : Int))]) (by (try dsimp only); omega) (by (try dsimp only); first | exact ⟨by omega, fun _ _ _ => rfl⟩ | exact ⟨by omega, fun q hq h => by rcases Nat.lt_succ_iff_lt_or_eq.1 hq with hq | rfl; exact absurd (hI2 q hq h) (by simp [*]); exact hJ2 (fun jj hjj => h jj (by omega))⟩) k_ (by rfl) (by rfl) (by rfl)
   ·replace c12 := of_decide_eq_false c12
    refine J.exit (KX.next (KX.next (KX.hit ?_)))
    refine KN.next ?_
    refine J.sreg ?_
    refine RN.call (l21_awake) [] k_ k_ k_ rfl (fun y71 _ => ?_)
    refine RN.bq (no 4) [8] [] 5 [(8, .bool fd)] k_ ?_
    refine RN.fin k_ ?_
    have e_1 : true = fd := by first | (obtain ⟨i0, hi0, hi1⟩ := ex_cell (sh := sh) hkk2 hnn2 hzl hzF; exact (hI2 i0 (by rw [← hcy3] at hi0; omega) hi1).symm)
    refine J.ret (KR.ret (v := .bool fd) (()) [none] [] [] k_ v1_ (trivial) v1_)
end Go.Proofs.YtbiifkfbkaejlaaGreat.E
/- A row's arguments, read as data, become facts about memory; a contract's frame becomes the row's. -/
namespace Go.Proofs.YtbiifkfbkaejlaaGreat.E
open Go Go.RowKit Go.ChangeShapes Go.WideShapes
set_option linter.unusedVariables false
set_option linter.unusedSimpArgs false
section
variable {H : Type} {enc : TypeId × Value → H} {P : Program} {w w' : World} {fuel t e : Nat} {cs : List Value} {x : DataW H × List MemPlace}
def Wt (P : Program) (t : TypeId) (d : DataW H) : Prop := ∀ n ∈ d.weights P t, n ≤ reachBytes
theorem Wt.of_each {ts : List TypeId} {ds : List (DataW H)} (h : (DataW.weightsEach P ts ds).all (· ≤ reachBytes) = true) {j : Nat} {t : TypeId} {d : DataW H} (ht : ts[j]? = some t) (hd : ds[j]? = some d) : Wt P t d := fun n hn => by
  have := List.all_eq_true.1 h n (DataW.weights_mem_each ht hd n hn)
  simpa using this
theorem Wt.of_mem {ts : List TypeId} {ds : List (DataW H)} (h : ∀ n ∈ DataW.weightsEach P ts ds, n ≤ reachBytes) {j : Nat} {t : TypeId} {d : DataW H} (ht : ts[j]? = some t) (hd : ds[j]? = some d) : Wt P t d := fun n hn =>
  h n (DataW.weights_mem_each ht hd n hn)
theorem weightsAll_mem {e : TypeId} : ∀ {ds : List (DataW H)} {d : DataW H}, d ∈ ds → ∀ n ∈ d.weights P e, n ∈ DataW.weightsAll P e ds
  | [], _, h, _, _ => by cases h
  | d0 :: r, d, h, n, hn => by
    rcases List.mem_cons.1 h with rfl | h
    · simp [DataW.weightsAll, hn]
    · simp [DataW.weightsAll, weightsAll_mem h n hn]
theorem Wt.slice {elems rest : List (DataW H)} (ht : P.underlying t = some (.slice e)) (h : Wt P t (.slice elems rest)) : (elems.length + rest.length) * P.bytesOf e ≤ reachBytes ∧ ∀ d ∈ elems, Wt P e d := by
  unfold Wt at h
  simp only [DataW.weights, ht] at h
  exact ⟨h _ List.mem_cons_self, fun d hd n hn => h n (List.mem_cons_of_mem _ (List.mem_append_left _ (weightsAll_mem hd n hn)))⟩
theorem Wt.agg {fs : Array Field} {parts : List (DataW H)} (ht : P.underlying t = some (.struct fs)) (h : Wt P t (.agg parts)) {j : Nat} {f : Field} {d : DataW H} (hf : fs[j]? = some f) (hd : parts[j]? = some d) : Wt P f.type d := by
  unfold Wt at h
  simp only [DataW.weights, ht] at h
  exact Wt.of_mem (j := j) h (by simp [List.getElem?_map, Array.getElem?_toList, hf]) hd
theorem cell_spot {a : Addr} {v : Value} (h : w.cell? a = some v) : a.spot = none := by
  unfold World.cell? at h
  split at h
  · split at h
    · cases h
    · rename_i h0; simpa using h0
  · cases h
theorem cell_off (ho : Off (fun _ => False) w w') {a : Addr} {v : Value} (h : w.cell? a = some v) : w'.cell? a = some v := by
  have hlt : a.block < w.heap.size := by
    unfold World.cell? at h
    cases hb : w.heap[a.block]? with
    | none => rw [hb] at h; cases h
    | some o => exact (Array.getElem?_eq_some_iff.1 hb).1
  unfold World.cell? at *
  rw [ho.2 a.block hlt (fun h => h)]; exact h
theorem fI_off (ho : Off (fun _ => False) w w') {s : SA} {xs : List Int} (h : fI s xs w) : fI s xs w' := ⟨h.1, fun i hi => ⟨(h.2 i hi).1, (h.2 i hi).2.1, cell_off ho (h.2 i hi).2.2⟩⟩
theorem wf_i64 {z : Int} (h : (Lit.int .i64 z).wf = true) : -9223372036854775808 ≤ z ∧ z < 9223372036854775808 := by
  have := bounds_i64 h
  omega
/-- A slice of ints. -/
theorem open_I (ht : P.underlying t = some (.slice e)) (he : P.underlying e = some (.int .i64)) (hc : P.cellsOf e = 1) (hb : 1 ≤ P.bytesOf e)
    (h : DataW.trod enc P w 0 (fun _ => true) true fuel t cs = some x) (hw : Wt P t x.1) : ∃ s xs, cs = [sl s xs.length] ∧ fI s xs w ∧ ∀ z ∈ xs, -9223372036854775808 ≤ z ∧ z < 9223372036854775808 := by
  rcases open_ints ht he hc h with ⟨rfl, rfl⟩ | ⟨a, len, cap, zs, rfl, _, hl, hm, hz, rfl, hcell, hwf⟩
  · exact ⟨saNil, [], rfl, fI_nil w, fun z hz => by cases hz⟩
  · simp only [if_true] at hz
    have hlen : len ≤ zs.length := by omega
    have hb2 := (hw.slice ht).1
    have h47 : len ≤ 140737488355328 := by
      have h1 : len ≤ (lits (H := H) .i64 (zs.take len)).length + (lits (H := H) .i64 (zs.drop len)).length := by simp [lits]; omega
      have h2 := Nat.le_trans (Nat.mul_le_mul h1 hb) hb2
      have : reachBytes ≤ 140737488355328 := by decide
      omega
    refine ⟨⟨some a, cap⟩, zs.take len, by simp [sl, Nat.min_eq_left hlen], ⟨⟨by simp; omega, by simp; omega⟩, fun i hi => ?_⟩, fun y hy => ?_⟩
    · have hi' : i < len := by simp at hi; omega
      have h0 := hcell 0 (by omega)
      have hs : a.spot = none := by have := cell_spot h0; simpa [Addr.add] using this
      refine ⟨rfl, hs, ?_⟩
      show w.cell? (a.add i) = _
      rw [hcell i (by omega)]
      simp [List.getD_eq_getElem?_getD, List.getElem?_take, hi']
    · have := hwf y (List.mem_of_mem_take hy)
      exact wf_i64 this
/-- The types of a number. -/
def structOf (P : Program) (t : TypeId) : Option (List (TypeId × Nat)) := match P.underlying t with
  | some (.struct fs) => some (fs.toList.map fun f => (f.type, f.offset))
  | _ => none
theorem structOf_two {a b : TypeId} {o p : Nat} (h : structOf P t = some [(a, o), (b, p)]) : ∃ fs f g, P.underlying t = some (.struct fs) ∧ fs[0]? = some f ∧ fs[1]? = some g ∧ fs.size = 2 ∧ f.type = a ∧ f.offset = o ∧ g.type = b ∧ g.offset = p := by
  unfold structOf at h
  split at h
  · rename_i fs hfs
    simp only [Option.some.injEq] at h
    have hl : fs.toList.length = 2 := by have := congrArg List.length h; simpa using this
    match hL : fs.toList, hl with
    | [f, g], _ =>
      rw [hL] at h
      simp only [List.map_cons, List.map_nil, List.cons.injEq, Prod.mk.injEq, and_true] at h
      obtain ⟨⟨h1, h2⟩, h3, h4⟩ := h
      refine ⟨fs, f, g, hfs, by rw [← Array.getElem?_toList, hL]; rfl, by rw [← Array.getElem?_toList, hL]; rfl, by simpa using congrArg List.length hL, h1, h2, h3, h4⟩
  · cases h
structure RTy (P : Program) (tR tI tU tB tE : TypeId) : Prop where
  r : structOf P tR = some [(tI, 0), (tU, 2)]
  i : structOf P tI = some [(tB, 0), (tU, 1)]
  u : P.underlying tU = some (.slice tE)
  b : P.underlying tB = some .bool
  e : P.underlying tE = some (.int .u32)
  cR : P.cellsOf tR = 3
  cI : P.cellsOf tI = 2
  cU : P.cellsOf tU = 1
  cB : P.cellsOf tB = 1
  cE : P.cellsOf tE = 1
  bE : 1 ≤ P.bytesOf tE
variable {tR tI tU tB tE : TypeId}
theorem okWide_struct {r : Reach} {b0 : Nat} {v : Value} {l : List (TypeId × Nat)} (hs : structOf P t = some l) (h : Value.okWide P w r b0 t v) : ∃ cs, v = .agg cs := by
  unfold structOf at hs
  split at hs
  · rename_i fs hu
    simp only [Value.okWide, hu] at h
    obtain ⟨cs, h1, _⟩ := h
    exact ⟨cs, h1⟩
  · cases hs
theorem sl_of {v : Value} {A : Option Addr} {len cap : Nat} {s : SA} {k : Nat} (hv : v = .slice A len cap) (h : v.cells.toList = [sl s k]) : v = sl s k := by
  subst hv
  simpa [Value.cells] using h
theorem arg_Ints {r : Reach} {b0 : Nat} {v : Value} {d : DataW H} {pl : List MemPlace} (ht : P.underlying t = some (.slice e)) (he : P.underlying e = some (.int .i64)) (hc : P.cellsOf e = 1) (hb : 1 ≤ P.bytesOf e) (hv : Value.okWide P w r b0 t v) (h : DataW.Trod enc P w 0 (fun _ => true) true t v d pl) (hw : Wt P t d) :
    ∃ s xs, v = sl s xs.length ∧ fI s xs w ∧ ∀ z ∈ xs, -9223372036854775808 ≤ z ∧ z < 9223372036854775808 := by
  obtain ⟨A, len, cap, hA⟩ := okWide_slice ht hv
  obtain ⟨n, hn⟩ := h
  obtain ⟨s, ps, h1, h2, h3⟩ := open_I ht he hc hb (x := (d, pl)) hn hw
  exact ⟨s, ps, sl_of hA h1, h2, h3⟩
theorem arg_int {r : Reach} {b0 : Nat} {v : Value} {d : DataW H} {pl : List MemPlace} (ht : P.underlying t = some (.int .i64)) (hv : Value.okWide P w r b0 t v) (h : DataW.Trod enc P w 0 (fun _ => true) true t v d pl) :
    ∃ z : Int, v = .int .i64 z ∧ -9223372036854775808 ≤ z ∧ z < 9223372036854775808 := by
  obtain ⟨z, h1, _, _, h2⟩ := open_int ht hv h
  exact ⟨z, h1, wf_i64 h2⟩
theorem Frm.below (h : Frm (fun _ => False) w w') : Below w.heap.size w w' := ⟨h.os, h.tape, h.output, h.off.1, fun k hk => h.off.2 k hk (fun h => h)⟩
/-- A contract that answers true, called at a row's start. -/
theorem row_call {f : FuncId} {args : Array Value} {Fin : List Fact} {ι : Type} {φ : ι → Prop} {Fout : ι → List Fact} (spec : Spec P f args Fin (ι := ι) (fun _ => .bool true) φ Fout) (hF : ∀ p ∈ Fin, Rob (fun _ => False) p w) :
    Calls P f args w fun e w' => e = .returned (.bool true) ∧ Below w.heap.size w w' :=
  (spec.calls (fun _ => False) w (fun k hk => hk.elim) hF).mono (by
    rintro e w' ⟨x, rfl, _, hf, _⟩
    exact ⟨rfl, hf.below⟩)
end
end Go.Proofs.YtbiifkfbkaejlaaGreat.E
/- A row's argument that is a struct of two lists of ints. -/
namespace Go.Proofs.YtbiifkfbkaejlaaGreat.E
open Go Go.RowKit Go.ChangeShapes Go.WideShapes
set_option linter.unusedVariables false
set_option linter.unusedSimpArgs false
section
variable {H : Type} {enc : TypeId × Value → H} {P : Program} {w w' : World} {fuel t tS e : Nat} {cs : List Value} {x : DataW H × List MemPlace}
theorem open_II (hB : structOf P t = some [(tS, 0), (tS, 1)]) (hS : P.underlying tS = some (.slice e)) (he : P.underlying e = some (.int .i64)) (hc : P.cellsOf e = 1) (hb : 1 ≤ P.bytesOf e) (cS : P.cellsOf tS = 1) (cB : P.cellsOf t = 2)
    (h : DataW.trod enc P w 0 (fun _ => true) true fuel t cs = some x) (hw : Wt P t x.1) : ∃ s xs s' ys, cs = [sl s xs.length, sl s' ys.length] ∧ fI s xs w ∧ fI s' ys w ∧ (∀ z ∈ xs, -9223372036854775808 ≤ z ∧ z < 9223372036854775808) ∧ ∀ z ∈ ys, -9223372036854775808 ≤ z ∧ z < 9223372036854775808 := by
  obtain ⟨fs, f, g, hu, hf, hg, hs, hf1, ho1, hg1, ho2⟩ := structOf_two hB
  obtain ⟨xs, n, _, hx0, hl, hxl, hx⟩ := DataW.trod_struct hu h
  rw [cB] at hl
  match cs, hl with
  | [c0, c1], _ =>
    rw [hs] at hxl
    match xs, hxl with
    | [x0, x1], _ =>
      have h0 := hx 0 f hf
      have h1 := hx 1 g hg
      rw [ho1, hf1, cS] at h0
      rw [ho2, hg1, cS] at h1
      rw [hx0] at hw
      have w0 : Wt P f.type x0.1 := hw.agg hu (j := 0) hf rfl
      have w1 : Wt P g.type x1.1 := hw.agg hu (j := 1) hg rfl
      rw [hf1] at w0
      rw [hg1] at w1
      obtain ⟨s, ls, e1, f1, l1⟩ := open_I hS he hc hb (x := x0) (by simpa using h0) w0
      obtain ⟨s', ls', e2, f2, l2⟩ := open_I hS he hc hb (x := x1) (by simpa using h1) w1
      simp at e1 e2
      subst e1 e2
      exact ⟨s, ls, s', ls', rfl, f1, f2, l1, l2⟩
theorem arg_II {r : Reach} {b0 : Nat} {v : Value} {d : DataW H} {pl : List MemPlace} (hB : structOf P t = some [(tS, 0), (tS, 1)]) (hS : P.underlying tS = some (.slice e)) (he : P.underlying e = some (.int .i64)) (hc : P.cellsOf e = 1) (hb : 1 ≤ P.bytesOf e) (cS : P.cellsOf tS = 1) (cB : P.cellsOf t = 2)
    (hv : Value.okWide P w r b0 t v) (h : DataW.Trod enc P w 0 (fun _ => true) true t v d pl) (hw : Wt P t d) : ∃ s xs s' ys, v = .agg #[sl s xs.length, sl s' ys.length] ∧ fI s xs w ∧ fI s' ys w ∧ (∀ z ∈ xs, -9223372036854775808 ≤ z ∧ z < 9223372036854775808) ∧ ∀ z ∈ ys, -9223372036854775808 ≤ z ∧ z < 9223372036854775808 := by
  obtain ⟨cs, rfl⟩ := okWide_struct hB hv
  obtain ⟨n, hn⟩ := h
  obtain ⟨s, xs, s', ys, h1, h2, h3, h4, h5⟩ := open_II hB hS he hc hb cS cB (x := (d, pl)) hn hw
  refine ⟨s, xs, s', ys, ?_, h2, h3, h4, h5⟩
  congr 1
  apply Array.ext'
  exact h1
end
end Go.Proofs.YtbiifkfbkaejlaaGreat.E
