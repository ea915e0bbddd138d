/- Lemmas and contracts of functions on the way to the law, part 5. -/
import Derived.WalkKit
import Derived.ProofKit
import Derived.OpenShut
import Derived.ChangeOld
import Derived.Below
import Derived.SizedLaws
import Derived.Test.YtegnonhgildhoaaGreatA4
namespace Go.Proofs.YtegnonhgildhoaaGreat.E
open Go Go.RowKit
set_option linter.unusedVariables false
set_option linter.unusedSimpArgs false
theorem about_b {a b : Nat} {z : Int} (ha : a ≤ 6176) (hb : b ≤ 6176) (hz : z = if (b : Int) > 1 then (b : Int) else 1) : -6400 ≤ (a : Int) - z ∧ (a : Int) - z ≤ 6400 := by
  subst hz; split <;> omega
theorem Q.num_len {k : Nat} {q : Rat} (h : Q k q) : (toL q.num.natAbs).length ≤ k := h.1
theorem Q.den_len {k : Nat} {q : Rat} (h : Q k q) : (toD q.den).length ≤ k := Nat.le_trans (toD_le _) h.2
theorem y_m19_about {p : Prop} (h : p := by first | assumption | exact Lb_toL _ | omega | (simp; done) | first | exact Q.le hc (by decide) | exact Q.le hI3 (by decide) | exact Q.le hxx (by decide) | exact Lb_toD _ | omega) : p := h
theorem m19_about (s : SA) (ps : List PR) (p : RA) (c : Raw) (hps : ∀ i, i < ps.length → RQ 64 (ps.getD i pr0).2) (hcR : RQ 268435456 c) (hc : Q 64 (qv c)) : Spec Tryz.prog 58 #[sl s ps.length, ratV p c] [fRats s ps, fRat p c] (ι := Int) (fun y => .int .i64 y) (fun y => -6400 ≤ y ∧ y ≤ 6400) (fun y => []) := by
  refine Spec.of_body _ (fn := Tryz.f58) k_ rfl k_ (fun X w0 => ?_)
  refine J.fact (φ := ps.length ≤ 140737488355328) (fun w h => by have := (h _ (.head _)).1; omega) (fun hl1 => ?_)
  refine J.fact (φ := c.mag.length ≤ 140737488355328 ∧ c.den.length ≤ 140737488355328) (fun w h => by have h1 := (h _ (.tail _ ((.head _)))).1.1; have h2 := (h _ (.tail _ ((.head _)))).2.1; omega) (fun hl2 => ?_)
  refine J.sreg ?_
  refine RN.new (fun b => pt b) (.cells (ratC p c) 27 (0, 0)) k_ k_ (fun w => by kernel_rfl) (fun b3 => ?_)
  refine RN.bq (no 1) [0, 3] [] (k' := 2) (l' := [(0, sl s ps.length), (3, pt b3)]) k_ ?_
  refine RN.fin k_ ?_
  refine J.sreg ?_
  refine RN.new (fun b => pt b) (.cells (ratC (⟨saNil, saNil⟩ : RA) (⟨false, ([] : List Nat), ([] : List Nat)⟩ : Raw)) 27 (0, 0)) k_ k_ (fun w => by kernel_rfl) (fun b4 => ?_)
  refine RN.fin k_ ?_
  refine J.seq ?_
  refine J.sreg ?_
  refine RN.bq (no 3) [3, 5, 10, 11, 12] [] (k' := 3) (l' := [(3, pt b3), (5, pt b4), (10, sl s ps.length), (11, .int .i64 ((ps.length : Nat) : Int)), (12, .int .i64 0)]) k_ ?_
  refine RN.fin k_ ?_
  refine J.block ?_
  refine J.also (fRat (⟨saNil, saNil⟩ : RA) (encQ 0)) (fun w h => fRat_zero w) ?_
  refine J.loop (ι := (Nat) × (RA) × (Rat)) (fun x => x.1 ≤ ps.length ∧ Q 128 x.2.2) (fun x => ps.length - x.1) (fun x => [(3, pt b3), (5, pt b4), (10, sl s ps.length), (11, .int .i64 ((ps.length : Nat) : Int)), (12, .int .i64 ((x.1 : Nat) : Int))]) (fun x => [(b4, .cells (ratC x.2.1 (encQ x.2.2)) 27 (0, 0)), (b3, .cells (ratC p c) 27 (0, 0))]) (fun x => [fRat x.2.1 (encQ x.2.2), fRats s ps, fRat p c]) (0, (⟨saNil, saNil⟩ : RA), 0) [3, 5, 10, 11, 12] [0, 1, 2] (⟨Nat.zero_le _, Q0.le (by decide)⟩) k_ (by first | rfl | (simp only [encQ_zero]; done) | (simp only [encQ_zero]; rfl)) (by rfl) (fun x5 hI => ?_)
  obtain ⟨i, so, S⟩ := x5
  replace hI : i ≤ ps.length ∧ Q 128 S := hI
  obtain ⟨hI1, hI3⟩ := hI
  refine J.sreg ?_
  refine RN.bq (no 1) [3, 5, 10, 11, 12, 13] [] (k' := 1) (l' := [(3, pt b3), (5, pt b4), (10, sl s ps.length), (11, .int .i64 ((ps.length : Nat) : Int)), (12, .int .i64 ((i : Nat) : Int)), (13, .bool (decide (((i : Nat) : Int) < ((ps.length : Nat) : Int))))]) k_ ?_
  refine RN.fin k_ ?_
  refine J.seq ?_
  refine J.cond (decide (((i : Nat) : Int) < ((ps.length : Nat) : Int))) k_ (fun c6 => ?_) (fun c6 => ?_)
  · skip
    replace c6 := of_decide_eq_true c6
    have hxr := hps i (by omega)
    have hxq := hxr.2.2.2.2
    have hxb := hxr.le (by decide : 64 ≤ 268435456)
    have hxx : Q 128 _ := hxq.mul hxq
    refine J.skip ?_
    refine KN.next ?_
    refine J.seq ?_
    refine J.block ?_
    refine J.sreg ?_
    refine RN.val _ k_ k_ (q_ridx (t := 22) (x := (.tmp 10)) (ix := (.tmp 12)) (K := .i64) (i0 := ((i : Nat) : Int)) (m := i) (e := 27) 1 rfl k_ k_ k_ k_ k_ (by omega) x_) ?_
    refine RN.val _ k_ k_ (q_rload (T := 27) (x := (.tmp 14)) (m := i) (s := s) (ps := ps) 1 rfl k_ k_ k_ k_ x_) ?_
    refine RN.also (fRat ((ps.getD i pr0).1) ((ps.getD i pr0).2)) (fun w h => rat_of (h _ (.tail _ ((.head _)))) x_) ?_
    refine RN.new (fun b => pt b) (.cells (ratC (⟨saNil, saNil⟩ : RA) (⟨false, ([] : List Nat), ([] : List Nat)⟩ : Raw)) 27 (0, 0)) k_ k_ (fun w => by kernel_rfl) (fun b7 => ?_)
    refine RN.bat [some 0] [3, 5, 7, 10, 11, 12] [b7, b7, b7] (k' := 4) (l' := [(3, pt b3), (5, pt b4), (7, pt b7), (10, sl s ps.length), (11, .int .i64 ((ps.length : Nat) : Int)), (12, .int .i64 ((i : Nat) : Int))]) (M' := [(b7, .cells (ratC ((ps.getD i pr0).1) ((ps.getD i pr0).2)) 27 (0, 0)), (b4, .cells (ratC so (encQ S)) 27 (0, 0)), (b3, .cells (ratC p c) 27 (0, 0))]) k_ ?_
    refine RN.fin k_ ?_
    refine J.sreg ?_
    refine RN.bq [some 0, some 0] [3, 5, 10, 11, 12, 16, 17] [b7, b7, b7, b7, b7, b7] (k' := 2) (l' := [(3, pt b3), (5, pt b4), (10, sl s ps.length), (11, .int .i64 ((ps.length : Nat) : Int)), (12, .int .i64 ((i : Nat) : Int)), (16, ratV ((ps.getD i pr0).1) ((ps.getD i pr0).2)), (17, ratV ((ps.getD i pr0).1) ((ps.getD i pr0).2))]) k_ ?_
    refine RN.call (rational_Mul ((ps.getD i pr0).1) ((ps.getD i pr0).2) ((ps.getD i pr0).1) ((ps.getD i pr0).2) y_m19_about y_m19_about) [0, 0] k_ k_ k_ rfl (fun y8 _ => ?_)
    refine RN.new (fun b => pt b) (.cells (ratC (⟨saNil, saNil⟩ : RA) (⟨false, ([] : List Nat), ([] : List Nat)⟩ : Raw)) 27 (0, 0)) k_ k_ (fun w => by kernel_rfl) (fun b9 => ?_)
    refine RN.bat [some 0] [3, 5, 8, 10, 11, 12] [b9, b9, b9] (k' := 5) (l' := [(3, pt b3), (5, pt b4), (8, pt b9), (10, sl s ps.length), (11, .int .i64 ((ps.length : Nat) : Int)), (12, .int .i64 ((i : Nat) : Int))]) (M' := [(b9, .cells (ratC y8 (encQ ((qv ((ps.getD i pr0).2)) * (qv ((ps.getD i pr0).2))))) 27 (0, 0)), (b7, .cells (ratC ((ps.getD i pr0).1) ((ps.getD i pr0).2)) 27 (0, 0)), (b4, .cells (ratC so (encQ S)) 27 (0, 0)), (b3, .cells (ratC p c) 27 (0, 0))]) k_ ?_
    refine RN.fin k_ ?_
    refine J.sreg ?_
    refine RN.bq [some 0, some 2] [3, 5, 8, 10, 11, 12, 19, 20] [b4, b4, b4, b9, b9, b9] (k' := 2) (l' := [(3, pt b3), (5, pt b4), (8, pt b9), (10, sl s ps.length), (11, .int .i64 ((ps.length : Nat) : Int)), (12, .int .i64 ((i : Nat) : Int)), (19, ratV y8 (encQ ((qv ((ps.getD i pr0).2)) * (qv ((ps.getD i pr0).2))))), (20, ratV so (encQ S))]) k_ ?_
    refine RN.call (rational_Compare_c y8 ((qv ((ps.getD i pr0).2)) * (qv ((ps.getD i pr0).2))) so S y_m19_about y_m19_about) [0, 2] k_ k_ k_ rfl (fun y10 _ => ?_)
    refine RN.bq (no 1) [3, 5, 8, 10, 11, 12, 22] [] (k' := 4) (l' := [(3, pt b3), (5, pt b4), (8, pt b9), (10, sl s ps.length), (11, .int .i64 ((ps.length : Nat) : Int)), (12, .int .i64 ((i : Nat) : Int)), (22, .bool (decide ((cmpQ ((qv ((ps.getD i pr0).2)) * (qv ((ps.getD i pr0).2))) S) > 0)))]) k_ ?_
    refine RN.fin k_ ?_
    refine J.cond (decide ((cmpQ ((qv ((ps.getD i pr0).2)) * (qv ((ps.getD i pr0).2))) S) > 0)) k_ (fun c11 => ?_) (fun c11 => ?_)
    · skip
      replace c11 := of_decide_eq_true c11
      refine J.regN ?_
      refine RN.bat [some 0, some 2] [3, 5, 10, 11, 12] [b4, b4, b4, b9, b9, b9] (k' := 2) (l' := [(3, pt b3), (5, pt b4), (10, sl s ps.length), (11, .int .i64 ((ps.length : Nat) : Int)), (12, .int .i64 ((i : Nat) : Int))]) (M' := [(b9, .cells (ratC y8 (encQ ((qv ((ps.getD i pr0).2)) * (qv ((ps.getD i pr0).2))))) 27 (0, 0)), (b7, .cells (ratC ((ps.getD i pr0).1) ((ps.getD i pr0).2)) 27 (0, 0)), (b4, .cells (ratC y8 (encQ ((qv ((ps.getD i pr0).2)) * (qv ((ps.getD i pr0).2))))) 27 (0, 0)), (b3, .cells (ratC p c) 27 (0, 0))]) k_ ?_
      refine RN.done k_ ?_
      refine KN.blk ?_
      refine KN.next ?_
      refine J.regN ?_
      refine RN.bq (no 1) [3, 5, 10, 11, 24] [] (k' := 1) (l' := [(3, pt b3), (5, pt b4), (10, sl s ps.length), (11, .int .i64 ((ps.length : Nat) : Int)), (24, .int .i64 (IntKind.i64.wrap (((i : Nat) : Int) + 1)))]) k_ ?_
      rw [show IntKind.i64.wrap (((i : Nat) : Int) + 1) = ((i + 1 : Nat) : Int) from by rw [IntKind.wrap_i64]; omega]
      refine RN.bq (no 1) [3, 5, 10, 11, 12] [] (k' := 2) (l' := [(3, pt b3), (5, pt b4), (10, sl s ps.length), (11, .int .i64 ((ps.length : Nat) : Int)), (12, .int .i64 ((i + 1 : Nat) : Int))]) k_ ?_
      refine RN.done k_ ?_
      refine KN.dropF 2 ?_
      refine KN.roundE (i + 1, y8, (qv ((ps.getD i pr0).2)) * (qv ((ps.getD i pr0).2))) [3, 5, 10, 11, 12] [0, 3, 4] (l2 := [(3, pt b3), (5, pt b4), (10, sl s ps.length), (11, .int .i64 ((ps.length : Nat) : Int)), (12, .int .i64 ((i + 1 : Nat) : Int))]) (by (try dsimp only); omega) (by (try dsimp only); exact ⟨by omega, hxx⟩) k_ (by rfl) (by rfl) (by rfl)
    · skip
      replace c11 := of_decide_eq_false c11
      refine J.skip ?_
      refine KN.blk ?_
      refine KN.next ?_
      refine J.regN ?_
      refine RN.bq (no 1) [3, 5, 10, 11, 24] [] (k' := 1) (l' := [(3, pt b3), (5, pt b4), (10, sl s ps.length), (11, .int .i64 ((ps.length : Nat) : Int)), (24, .int .i64 (IntKind.i64.wrap (((i : Nat) : Int) + 1)))]) k_ ?_
      rw [show IntKind.i64.wrap (((i : Nat) : Int) + 1) = ((i + 1 : Nat) : Int) from by rw [IntKind.wrap_i64]; omega]
      refine RN.bq (no 1) [3, 5, 10, 11, 12] [] (k' := 2) (l' := [(3, pt b3), (5, pt b4), (10, sl s ps.length), (11, .int .i64 ((ps.length : Nat) : Int)), (12, .int .i64 ((i + 1 : Nat) : Int))]) k_ ?_
      refine RN.done k_ ?_
      refine KN.dropF 2 ?_
      refine KN.roundE (i + 1, so, S) [3, 5, 10, 11, 12] [2, 3, 4] (l2 := [(3, pt b3), (5, pt b4), (10, sl s ps.length), (11, .int .i64 ((ps.length : Nat) : Int)), (12, .int .i64 ((i + 1 : Nat) : Int))]) (by (try dsimp only); omega) (by (try dsimp only); exact ⟨by omega, hI3⟩) k_ (by rfl) (by rfl) (by rfl)
  · skip
    replace c6 := of_decide_eq_false c6
    have hq := hI3.div hc
    have hq1 := hq.num_len
    have hq2 := hq.den_len
    refine J.exit (KX.next (KX.next (KX.hit ?_)))
    refine KN.next ?_
    refine J.sreg ?_
    refine RN.bq [some 0, some 1] [25, 26] [b3, b3, b3, b4, b4, b4] (k' := 2) (l' := [(25, ratV so (encQ S)), (26, ratV p c)]) k_ ?_
    refine RN.call (m19_quotient_c1 so S p c y_m19_about y_m19_about) [0, 2] k_ k_ k_ rfl (fun y12 _ => ?_)
    refine RN.new (fun b => pt b) (.cells (ratC (⟨saNil, saNil⟩ : RA) (⟨false, ([] : List Nat), ([] : List Nat)⟩ : Raw)) 27 (0, 0)) k_ k_ (fun w => by kernel_rfl) (fun b13 => ?_)
    refine RN.bat [some 0] [9] [b13, b13, b13] (k' := 5) (l' := [(9, pt b13)]) (M' := [(b13, .cells (ratC y12 (encQ (S / (qv c)))) 27 (0, 0)), (b4, .cells (ratC so (encQ S)) 27 (0, 0)), (b3, .cells (ratC p c) 27 (0, 0))]) k_ ?_
    refine RN.fin k_ ?_
    refine J.seq ?_
    refine J.regD k_ [] ?_
    refine RD.bat k_ [(0, none), (1, none), (2, some 0), (4, none), (5, some 0)] [30, 33] [b13, b13] (L' := [5, 4, 2, 1, 0]) (l' := [(30, sl y12.mag (toL (((S / (qv c)).num).natAbs)).length), (33, sl (y12.den) (toD ((S / (qv c)).den)).length)]) k_ ?_
    refine RD.also (fU y12.mag (toL (((S / (qv c)).num).natAbs))) (fun w h => (h _ (.head _)).1) k_ ?_
    refine RD.call (i := 3) (m19_length_c y12.mag (((S / (qv c)).num).natAbs) y_m19_about) [0] k_ k_ k_ k_ k_ rfl (fun y14 _ => ?_)
    have hA := lenL_le (toL ((S / (qv c)).num.natAbs))
    refine RD.also (fU (y12.den) (toD ((S / (qv c)).den))) (fun w h => (h _ (.tail _ ((.head _)))).2) k_ ?_
    refine RD.call (i := 6) (m19_length (y12.den) (toD ((S / (qv c)).den)) y_m19_about y_m19_about) [0] k_ k_ k_ k_ k_ rfl (fun y15 _ => ?_)
    have hB := lenL_le (toD ((S / (qv c)).den))
    refine RD.bat k_ [(7, none), (8, none)] [36] [] (L' := [8, 7, 6, 3, 5, 4, 2, 1, 0]) (l' := [(36, .int .i64 (IntKind.i64.wrap (((lenL (toL (((S / (qv c)).num).natAbs)) : Nat) : Int) - (if ((lenL (toD ((S / (qv c)).den)) : Nat) : Int) > 1 then ((lenL (toD ((S / (qv c)).den)) : Nat) : Int) else 1))))]) k_ ?_
    rw [show IntKind.i64.wrap (((lenL (toL (((S / (qv c)).num).natAbs)) : Nat) : Int) - (if ((lenL (toD ((S / (qv c)).den)) : Nat) : Int) > 1 then ((lenL (toD ((S / (qv c)).den)) : Nat) : Int) else 1)) = (((lenL (toL (((S / (qv c)).num).natAbs)) : Nat) : Int) - (if ((lenL (toD ((S / (qv c)).den)) : Nat) : Int) > 1 then ((lenL (toD ((S / (qv c)).den)) : Nat) : Int) else 1)) from by rw [IntKind.wrap_i64]; split <;> omega]
    refine RD.bat k_ [(9, none)] [4] [] (L' := [9, 8, 7, 6, 3, 5, 4, 2, 1, 0]) (l' := [(4, .int .i64 (((lenL (toL (((S / (qv c)).num).natAbs)) : Nat) : Int) - (if ((lenL (toD ((S / (qv c)).den)) : Nat) : Int) > 1 then ((lenL (toD ((S / (qv c)).den)) : Nat) : Int) else 1)))]) k_ ?_
    refine RD.done k_ ?_
    refine KN.next ?_
    refine J.ret (KR.ret (v := .int .i64 (((lenL (toL (((S / (qv c)).num).natAbs)) : Nat) : Int) - (if ((lenL (toD ((S / (qv c)).den)) : Nat) : Int) > 1 then ((lenL (toD ((S / (qv c)).den)) : Nat) : Int) else 1))) (((lenL (toL (((S / (qv c)).num).natAbs)) : Nat) : Int) - (if ((lenL (toD ((S / (qv c)).den)) : Nat) : Int) > 1 then ((lenL (toD ((S / (qv c)).den)) : Nat) : Int) else 1)) [none] [] [] k_ rfl (about_b (by omega) (by omega) rfl) rfl)
theorem m19_double (p : RA) (r : Raw) (hr : RQ 268435456 r) : Spec Tryz.prog 59 #[ratV p r] [fRat p r] (ι := RA) (fun y => ratV y (encQ (qv r + qv r))) (fun y => True) (fun y => [fRat y (encQ (qv r + qv r))]) := by
  refine Spec.of_body _ (fn := Tryz.f59) k_ rfl k_ (fun X w0 => ?_)
  refine J.fact (φ := r.mag.length ≤ 140737488355328 ∧ r.den.length ≤ 140737488355328) (fun w h => by have h1 := (h _ (.head _)).1.1; have h2 := (h _ (.head _)).2.1; omega) (fun hl1 => ?_)
  refine J.sreg ?_
  refine RN.new (fun b => pt b) (.cells (ratC p r) 27 (0, 0)) k_ k_ (fun w => by kernel_rfl) (fun b2 => ?_)
  refine RN.new (fun b => pt b) (.cells (ratC (⟨saNil, saNil⟩ : RA) (⟨false, ([] : List Nat), ([] : List Nat)⟩ : Raw)) 27 (0, 0)) k_ k_ (fun w => by kernel_rfl) (fun b3 => ?_)
  refine RN.fin k_ ?_
  refine J.sreg ?_
  refine RN.bq [some 1, some 1] [2, 3, 4] [b2, b2, b2, b2, b2, b2] (k' := 2) (l' := [(2, pt b3), (3, ratV p r), (4, ratV p r)]) k_ ?_
  refine RN.call (rational_Add p r p r y_ y_) [0, 0] k_ k_ k_ rfl (fun y4 _ => ?_)
  refine RN.bat [some 0] [2] [b3, b3, b3] (k' := 4) (l' := [(2, pt b3)]) (M' := [(b3, .cells (ratC y4 (encQ ((qv r) + (qv r)))) 27 (0, 0)), (b2, .cells (ratC p r) 27 (0, 0))]) k_ ?_
  refine RN.fin k_ ?_
  have e_1 : (encQ (qv r + qv r)) = (encQ ((qv r) + (qv r))) := by first | rfl | simp [*]
  refine J.ret (KR.ret (v := ratV y4 (encQ ((qv r) + (qv r)))) (y4) [some 0] [0] [b3, b3, b3] k_ v1_ (trivial) v1_)
theorem m19_double_c (p : RA) (r' : Rat) (hr : Q 268435456 r') : Spec Tryz.prog 59 #[ratV p (encQ r')] [fRat p (encQ r')] (ι := RA) (fun y => ratV y (encQ (r' + r'))) (fun y => True) (fun y => [fRat y (encQ (r' + r'))]) := by
  have H := m19_double p (encQ r') (RQ_enc hr)
  first | exact H | (simp only [qv_encQ, validQ_encQ] at H; exact H)
theorem y_m19_halve {p : Prop} (h : p := by first | assumption | exact Lb_toL _ | omega | (simp; done) | exact Q.le (Q_int (by decide)) (by decide)) : p := h
theorem m19_halve (p : RA) (r : Raw) (hr : RQ 268435456 r) : Spec Tryz.prog 60 #[ratV p r] [fRat p r] (ι := RA) (fun y => ratV y (encQ (qv r / 2))) (fun y => True) (fun y => [fRat y (encQ (qv r / 2))]) := by
  refine Spec.of_body _ (fn := Tryz.f60) k_ rfl k_ (fun X w0 => ?_)
  refine J.fact (φ := r.mag.length ≤ 140737488355328 ∧ r.den.length ≤ 140737488355328) (fun w h => by have h1 := (h _ (.head _)).1.1; have h2 := (h _ (.head _)).2.1; omega) (fun hl1 => ?_)
  refine J.sreg ?_
  refine RN.new (fun b => pt b) (.cells (ratC p r) 27 (0, 0)) k_ k_ (fun w => by kernel_rfl) (fun b2 => ?_)
  refine RN.new (fun b => pt b) (.cells (ratC (⟨saNil, saNil⟩ : RA) (⟨false, ([] : List Nat), ([] : List Nat)⟩ : Raw)) 27 (0, 0)) k_ k_ (fun w => by kernel_rfl) (fun b3 => ?_)
  refine RN.fin k_ ?_
  refine J.seq ?_
  refine J.regD k_ [3] ?_
  refine RD.bat k_ [(0, some 1)] [2, 3] [b2, b2, b2] (L' := [0]) (l' := [(2, pt b3), (3, ratV p r)]) k_ ?_
  refine RD.call (i := 1) (rational_FromInt 2 y_m19_halve y_m19_halve) [] k_ k_ k_ k_ k_ rfl (fun y4 _ => ?_)
  refine RD.call (i := 2) (m19_quotient_c2 p r y4 ((2 : Int) : Rat) y_m19_halve y_m19_halve) [1, 0] k_ k_ k_ k_ k_ rfl (fun y5 _ => ?_)
  refine RD.last (i := 3) (some 0) [2] [b3, b3, b3] k_ k_ k_ (l' := [(2, pt b3)]) (M' := [(b3, .cells (ratC y5 (encQ ((qv r) / ((2 : Int) : Rat)))) 27 (0, 0)), (b2, .cells (ratC p r) 27 (0, 0))]) k_ ?_
  refine RD.done k_ ?_
  refine KN.next ?_
  have e_1 : (encQ (qv r / 2)) = (encQ ((qv r) / ((2 : Int) : Rat))) := by rfl
  refine J.ret (KR.ret (v := ratV y5 (encQ ((qv r) / ((2 : Int) : Rat)))) (y5) [some 0] [0] [b3, b3, b3] k_ v1_ (trivial) v1_)
theorem m19_halve_c (p : RA) (r' : Rat) (hr : Q 268435456 r') : Spec Tryz.prog 60 #[ratV p (encQ r')] [fRat p (encQ r')] (ι := RA) (fun y => ratV y (encQ (r' / 2))) (fun y => True) (fun y => [fRat y (encQ (r' / 2))]) := by
  have H := m19_halve p (encQ r') (RQ_enc hr)
  first | exact H | (simp only [qv_encQ, validQ_encQ] at H; exact H)
end Go.Proofs.YtegnonhgildhoaaGreat.E
namespace Go.Proofs.YtegnonhgildhoaaGreat.E
open Go Go.RowKit
set_option linter.unusedVariables false
set_option linter.unusedSimpArgs false
theorem Q_sumTo {c s : Rat} (ps : List PR) (hps : ∀ i, i < ps.length → RQ 64 (ps.getD i pr0).2) (hc : Q 64 c) (hs : Q 65536 s) : ∀ k, k ≤ ps.length → Q (197198 * k + 1) (sumTo (meanT c s) ps k)
  | 0, _ => Q0
  | k + 1, h => ((Q_sumTo ps hps hc hs k (by omega)).add (Q_term hc hs (hps k (by omega)).2.2.2.2).2.2.2).le (by omega)
theorem Q_mean {c s : Rat} (ps : List PR) (hps : ∀ i, i < ps.length → RQ 64 (ps.getD i pr0).2) (hc : Q 64 c) (hs : Q 65536 s) (hn : ps.length ≤ 1024) : Q 201930760 (sumTo (meanT c s) ps ps.length / ((((ps.length : Nat) : Int)) : Rat)) :=
  ((Q_sumTo ps hps hc hs ps.length (Nat.le_refl _)).div (Q_int (by omega))).le (by omega)
theorem y_m19_above {p : Prop} (h : p := by first | assumption | exact Lb_toL _ | omega | (simp; done) | first | exact ht.le (by decide) | exact hQm) : p := h
theorem m19_above (p' : RA) (t : Rat) (b1 : Nat) (b2 : Nat) (b3 : Nat) (s : SA) (ps : List PR) (p : RA) (c : Raw) (u : RA) (b : Raw) (hps : ∀ i, i < ps.length → RQ 64 (ps.getD i pr0).2) (hcR : RQ 268435456 c) (hbR : RQ 268435456 b) (hc : Q 64 (qv c)) (hb : Q 64 (qv b)) (ht : Q 65536 t) (hn : ps.length ≤ 1024) : SpecM Tryz.prog 56 #[ratV p' (encQ t), pt b1, pt b2, pt b3] [(b3, .cells (ratC u b) 27 (0, 0)), (b2, .cells (ratC p c) 27 (0, 0)), (b1, .cells #[sl s ps.length] 22 (0, 0))] [fRat p' (encQ t), fRats s ps, fRat p c, fRat u b] (ι := Unit) (fun y => .bool (decide ((qv b) < meanN (vals ps) ps.length (qv c) t))) (fun y => True) (fun y => [(b3, .cells (ratC u b) 27 (0, 0)), (b2, .cells (ratC p c) 27 (0, 0)), (b1, .cells #[sl s ps.length] 22 (0, 0))]) (fun y => []) := by
  refine SpecM.of_body _ (fn := Tryz.f56) k_ rfl k_ (fun X w0 => ?_)
  refine J.fact (φ := (encQ t).mag.length ≤ 140737488355328 ∧ (encQ t).den.length ≤ 140737488355328) (fun w h => by have h1 := (h _ (.head _)).1.1; have h2 := (h _ (.head _)).2.1; omega) (fun hl1 => ?_)
  refine J.fact (φ := ps.length ≤ 140737488355328) (fun w h => by have := (h _ (.tail _ ((.head _)))).1; omega) (fun hl2 => ?_)
  refine J.fact (φ := c.mag.length ≤ 140737488355328 ∧ c.den.length ≤ 140737488355328) (fun w h => by have h1 := (h _ (.tail _ ((.tail _ ((.head _)))))).1.1; have h2 := (h _ (.tail _ ((.tail _ ((.head _)))))).2.1; omega) (fun hl3 => ?_)
  refine J.fact (φ := b.mag.length ≤ 140737488355328 ∧ b.den.length ≤ 140737488355328) (fun w h => by have h1 := (h _ (.tail _ ((.tail _ ((.tail _ ((.head _)))))))).1.1; have h2 := (h _ (.tail _ ((.tail _ ((.tail _ ((.head _)))))))).2.1; omega) (fun hl4 => ?_)
  have hQm := (Q_mean ps hps hc ht hn).le (by decide : 201930760 ≤ 268435456)
  refine J.sreg ?_
  refine RN.new (fun b => pt b) (.cells (ratC p' (encQ t)) 27 (0, 0)) k_ k_ (fun w => by kernel_rfl) (fun b5 => ?_)
  refine RN.bq (no 1) [1, 2, 3, 4] [] (k' := 2) (l' := [(1, pt b1), (2, pt b2), (3, pt b3), (4, pt b5)]) k_ ?_
  refine RN.fin k_ ?_
  refine J.seq ?_
  refine J.regD k_ [] ?_
  refine RD.bat k_ [(0, some 3), (1, some 2), (2, some 0), (4, some 1)] [6, 7, 8, 10] [b3, b3, b3, b5, b5, b5, b2, b2, b2, b1] (L' := [4, 2, 1, 0]) (l' := [(6, sl s ps.length), (7, ratV p c), (8, ratV p' (encQ t)), (10, ratV u b)]) k_ ?_
  refine RD.call (i := 3) (m19_mean_c2 s ps p c p' t y_m19_above y_m19_above y_m19_above y_m19_above y_m19_above y_m19_above) [1, 2, 0] k_ k_ k_ k_ k_ rfl (fun y6 _ => ?_)
  refine RD.call (i := 5) (rational_Compare_c1 y6 (sumTo (meanT (qv c) t) ps ps.length / ((((ps.length : Nat) : Int)) : Rat)) u b y_m19_above y_m19_above) [0, 4] k_ k_ k_ k_ k_ rfl (fun y7 _ => ?_)
  refine RD.bat k_ [(6, none), (7, none)] [5] [] (L' := [7, 6, 5, 3, 4, 2, 1, 0]) (l' := [(5, .bool (decide ((cmpQ (sumTo (meanT (qv c) t) ps ps.length / ((((ps.length : Nat) : Int)) : Rat)) (qv b)) > 0)))]) k_ ?_
  refine RD.done k_ ?_
  refine KN.next ?_
  refine J.dropF 1 ?_
  have e_1 : (decide ((qv b) < meanN (vals ps) ps.length (qv c) t)) = (decide ((cmpQ (sumTo (meanT (qv c) t) ps ps.length / ((((ps.length : Nat) : Int)) : Rat)) (qv b)) > 0)) := by rw [decide_eq_decide]; exact cmpQ_gt.symm
  refine J.ret (KR.retM (v := .bool (decide ((cmpQ (sumTo (meanT (qv c) t) ps ps.length / ((((ps.length : Nat) : Int)) : Rat)) (qv b)) > 0))) (()) [none] [] [] k_ v1_ (trivial) v1_ v1_)
end Go.Proofs.YtegnonhgildhoaaGreat.E
/- Plain law of Scale's loops, step by step. -/
namespace Go.Proofs.YtegnonhgildhoaaGreat.E
set_option linter.unusedVariables false
set_option linter.unusedSimpArgs false
structure SIn (x : Nat → Rat) (n : Nat) (c b : Rat) (bits : Int) : Prop where
  n0 : 0 < n
  n1 : n ≤ 1024
  hx : ∀ i, i < n → Q 64 (x i)
  hc : Q 64 c
  c0 : 0 < c
  hb : Q 64 b
  b0 : 0 < b
  hs : b < shareN x n
  t0 : 0 ≤ bits
  t1 : bits ≤ 128
structure L1 (ab : Int) (i : Nat) (H : Rat) : Prop where
  e : H = dy (P2 ab) (2 ^ i) 0
  le : i ≤ 14624
  a1 : -6400 ≤ ab
  a2 : ab ≤ 6400
theorem L1.start {ab : Int} (h : -6400 ≤ ab ∧ ab ≤ 6400) : L1 ab 0 (P2 ab) := ⟨by rw [Nat.pow_zero, dy_one], Nat.zero_le _, h.1, h.2⟩
theorem L1.Q {ab : Int} {i : Nat} {H : Rat} (h : L1 ab i H) : Q 664 H := by
  rw [h.e]
  have hp := P2_Q (e := ab) (l := 201) (by have := h.a1; omega) (by have := h.a2; omega) (by decide)
  obtain ⟨l, hl⟩ : ∃ l, l = 458 := ⟨_, rfl⟩
  exact (Q_dy hp (a := 2 ^ i) (l := l) (k := 0) (m := 1) (pow2_lt (by have := h.le; omega)) (by omega) (by decide)).le (by omega)
theorem L1.step {x : Nat → Rat} {n : Nat} {c b : Rat} {bits : Int} {ab : Int} {i : Nat} {H : Rat} (s : SIn x n c b bits) (h : L1 ab i H) (ha : b < meanN x n c H) : i < 14624 ∧ L1 ab (i + 1) (H + H) := by
  have hp := P2_le (e := ab) (l := 200) (by have := h.a1; omega) (by have := h.a2; omega)
  have hlt := loop1_stop s.n0 s.hx s.hc s.c0 s.hb s.b0 hp.2 (i := i) (by rw [← h.e]; exact ha)
  refine ⟨hlt, ?_, hlt, h.a1, h.a2⟩
  rw [h.e, dy_double, Nat.pow_succ, Nat.mul_comm]
theorem L1.done {ab : Int} {i : Nat} {H : Rat} (h : L1 ab i H) : 0 < H ∧ H ≤ KW 657 := by
  have hp := P2_le (e := ab) (l := 200) (by have := h.a1; omega) (by have := h.a2; omega)
  rw [h.e]
  exact ⟨dy_pos (P2_pos ab) (Nat.pow_pos (by decide)) 0, dy_le_KW (P2_pos ab) hp.1 h.le⟩
structure L2 (x : Nat → Rat) (n : Nat) (c b H : Rat) (j : Nat) (U L : Rat) : Prop where
  eu : U = dy H 1 j
  el : L = dy H 1 (j + 1)
  le : j ≤ 27168
  u : ¬ b < meanN x n c U
theorem L2.start {x : Nat → Rat} {n : Nat} {c b H : Rat} (h : ¬ b < meanN x n c H) : L2 x n c b H 0 H (H / 2) :=
  ⟨(dy_one H).symm, by rw [← dy_halve, dy_one], Nat.zero_le _, h⟩
theorem L2.step {x : Nat → Rat} {n : Nat} {c b H : Rat} {bits : Int} {j : Nat} {U L : Rat} (s : SIn x n c b bits) (hH : 0 < H ∧ H ≤ KW 657) (h : L2 x n c b H j U L) (ha : ¬ b < meanN x n c L) : j < 27168 ∧ L2 x n c b H (j + 1) L (L / 2) := by
  have := loop2_stop s.hx s.hc s.c0 s.hs hH.1 hH.2 (j := j + 1) (by rw [← h.el]; exact ha)
  exact ⟨by omega, h.el, by rw [h.el, dy_halve], by omega, ha⟩
theorem L2.Q {x : Nat → Rat} {n : Nat} {c b H : Rat} {j : Nat} {U L : Rat} (h : L2 x n c b H j U L) (hq : E.Q 664 H) : E.Q 1516 U ∧ E.Q 1516 L := by
  rw [h.eu, h.el]
  have hj := h.le
  exact ⟨(Q_dy hq (a := 1) (l := 1) (m := 850) (by decide +kernel) (by decide) (by omega)).le (by decide), (Q_dy hq (a := 1) (l := 1) (m := 850) (by decide +kernel) (by decide) (by omega)).le (by decide)⟩
structure L3 (x : Nat → Rat) (n : Nat) (c b l : Rat) (bits : Int) (a k : Nat) (U L : Rat) : Prop where
  el : L = dy l a k
  eu : U = dy l (a + 1) k
  a1 : 2 ^ k ≤ a
  a2 : a < 2 ^ (k + 1)
  le : k ≤ bits.toNat
  lo : b < meanN x n c L
  hi : ¬ b < meanN x n c U
  l0 : 0 < l
  hl : Q 1516 l
theorem L3.start {x : Nat → Rat} {n : Nat} {c b H : Rat} {j : Nat} {U L : Rat} {bits : Int} (hH : 0 < H) (hq : E.Q 664 H) (h : L2 x n c b H j U L) (ha : b < meanN x n c L) : L3 x n c b L bits 1 0 U L := by
  have e : U = dy L 2 0 := by
    have : dy H 1 j = dy H 1 (j + 1) + dy H 1 (j + 1) := by rw [← dy_halve]; grind
    rw [h.eu, this, ← h.el]
    have h2 := dy_double L 1 0
    rw [dy_one] at h2
    exact h2
  exact ⟨(dy_one L).symm, e, by decide, by decide, Nat.zero_le _, ha, h.u, by rw [h.el]; exact dy_pos hH (by decide) _, (h.Q hq).2⟩
theorem L3.Q {x : Nat → Rat} {n : Nat} {c b l : Rat} {bits : Int} {a k : Nat} {U L : Rat} (h : L3 x n c b l bits a k U L) (t0 : 0 ≤ bits) (t1 : bits ≤ 128) : E.Q 1530 U ∧ E.Q 1530 L ∧ E.Q 3064 ((L + U) / 2) ∧ E.Q 8 (P2 (-bits)) := by
  have hk : k ≤ 128 := by have := h.le; omega
  have ha : a + 1 < W ^ 5 := by
    have h1 : 2 ^ (k + 1) ≤ 2 ^ 129 := Nat.pow_le_pow_right (by decide) (by omega)
    have h2 : 2 ^ 129 + 1 < W ^ 5 := by decide +kernel
    have := h.a2
    omega
  have q1 : E.Q 1530 U := by rw [h.eu]; exact (Q_dy h.hl (l := 5) (m := 5) ha (by decide) (by omega)).le (by decide)
  have q2 : E.Q 1530 L := by rw [h.el]; exact (Q_dy h.hl (l := 5) (m := 5) (Nat.lt_of_succ_lt ha) (by decide) (by omega)).le (by decide)
  refine ⟨q1, q2, ?_, ?_⟩
  · have hh : E.Q 1 (2 : Rat) := ⟨by decide +kernel, by decide +kernel⟩
    have e : (L + U) / 2 = (L + U) * ((1 : Nat) : Int) / two 1 := by
      rw [show two 1 = (2 : Rat) from rfl, show ((((1 : Nat) : Int)) : Rat) = 1 from rfl]; grind
    rw [e]
    exact (Q_dy (q2.add q1) (a := 1) (l := 1) (k := 1) (m := 1) (by decide +kernel) (by decide) (by decide)).le (by decide)
  · exact (P2_Q (l := 5) (by omega) (by omega) (by decide)).le (by decide)
theorem L3.less {x : Nat → Rat} {n : Nat} {c b l : Rat} {bits : Int} {a k : Nat} {U L : Rat} (h : L3 x n c b l bits a k U L) (t0 : 0 ≤ bits) (ht : P2 (-bits) * U < U - L) : k < bits.toNat := by
  have e : -bits = -((bits.toNat : Nat) : Int) := by omega
  rw [e, h.eu, h.el] at ht
  exact loop3_stop h.l0 h.a1 ht
theorem L3.mid {x : Nat → Rat} {n : Nat} {c b l : Rat} {bits : Int} {a k : Nat} {U L : Rat} (h : L3 x n c b l bits a k U L) : (L + U) / 2 = dy l (2 * a + 1) (k + 1) := by
  rw [h.el, h.eu, dy_mid]
theorem L3.up {x : Nat → Rat} {n : Nat} {c b l : Rat} {bits : Int} {a k : Nat} {U L : Rat} (h : L3 x n c b l bits a k U L) (hk : k < bits.toNat) (ha : b < meanN x n c ((L + U) / 2)) : L3 x n c b l bits (2 * a + 1) (k + 1) U ((L + U) / 2) := by
  have p1 := h.a1
  have p2 := h.a2
  exact ⟨h.mid, by rw [h.eu, dy_up]; rfl, by rw [Nat.pow_succ]; omega, by rw [Nat.pow_succ]; omega, hk, ha, h.hi, h.l0, h.hl⟩
theorem L3.down {x : Nat → Rat} {n : Nat} {c b l : Rat} {bits : Int} {a k : Nat} {U L : Rat} (h : L3 x n c b l bits a k U L) (hk : k < bits.toNat) (ha : ¬ b < meanN x n c ((L + U) / 2)) : L3 x n c b l bits (2 * a) (k + 1) ((L + U) / 2) L := by
  have p1 := h.a1
  have p2 := h.a2
  exact ⟨by rw [h.el, dy_up], h.mid, by rw [Nat.pow_succ]; omega, by rw [Nat.pow_succ]; omega, hk, h.lo, ha, h.l0, h.hl⟩
theorem L3.done {x : Nat → Rat} {n : Nat} {c b l : Rat} {bits : Int} {a k : Nat} {U L : Rat} (h : L3 x n c b l bits a k U L) (t0 : 0 ≤ bits) (t1 : bits ≤ 128) (ht : ¬ P2 (-bits) * U < U - L) : ScaleOk x n c b bits L U := by
  obtain ⟨q1, q2, _, _⟩ := h.Q t0 t1
  refine ⟨by rw [h.el]; exact dy_pos h.l0 (Nat.lt_of_lt_of_le (Nat.pow_pos (by decide)) h.a1) k, ?_, h.lo, Rat.not_lt.1 h.hi, Rat.not_lt.1 ht, q2.le (by decide), q1.le (by decide)⟩
  rw [h.el, h.eu, dy_succ]
  have : 0 < l / two k := by rw [Rat.div_def]; exact Rat.mul_pos h.l0 (Rat.inv_pos.2 (two_pos k))
  grind
end Go.Proofs.YtegnonhgildhoaaGreat.E
namespace Go.Proofs.YtegnonhgildhoaaGreat.E
open Go Go.RowKit
set_option linter.unusedVariables false
set_option linter.unusedSimpArgs false
def ScaleR (x : Nat → Rat) (n : Nat) (c b : Rat) (bits : Int) (lo hi : Rat) : Prop := if checkE n c b bits ≠ 0 ∨ shareN x n ≤ b then lo = 0 ∧ hi = 0 else ScaleOk x n c b bits lo hi
theorem ScaleR_0 {x : Nat → Rat} {n : Nat} {c b : Rat} {bits : Int} (h : checkE n c b bits ≠ 0 ∨ shareN x n ≤ b) : ScaleR x n c b bits 0 0 := by unfold ScaleR; rw [if_pos h]; exact ⟨rfl, rfl⟩
theorem ScaleR_ok {x : Nat → Rat} {n : Nat} {c b : Rat} {bits : Int} {lo hi : Rat} (h1 : checkE n c b bits = 0) (h2 : ¬ shareN x n ≤ b) (h : ScaleOk x n c b bits lo hi) : ScaleR x n c b bits lo hi := by unfold ScaleR; rw [if_neg (by simp [h1, h2])]; exact h
theorem checkE_0 {n : Nat} {c b : Rat} {bits : Int} (h : checkE n c b bits = 0) : 0 < n ∧ n ≤ 1024 ∧ 0 < c ∧ 0 < b ∧ b < 1 ∧ 0 ≤ bits ∧ bits ≤ 128 := by
  unfold checkE at h
  split at h
  · contradiction
  · rename_i h0
    have h1 := sizeE_0 (Decidable.not_not.1 h0)
    split at h
    · rename_i h2; exact ⟨h1.1, h1.2, h2⟩
    · exact absurd h (by decide)
theorem Q_share (x : Nat → Rat) {n : Nat} (h : n ≤ 1024) : Q 5 (shareN x n) := by
  have := cntN_le (fun i => decide (x i ≠ 0)) n
  exact ((Q_int (v := ((cntN (fun i => decide (x i ≠ 0)) n : Nat) : Int)) (by omega)).div (Q_int (v := ((n : Nat) : Int)) (by omega)))
theorem y_m19_Scale {p : Prop} (h : p := by first | assumption | exact Lb_toL _ | omega | (simp; done) | first | exact Q.le hsq (by decide) | exact Q.le hc (by decide) | exact Q.le hb (by decide) | exact Q.le hHQ (by decide) | exact Q.le hUQ.1 (by decide) | exact Q.le hUQ.2 (by decide) | exact Q.le hQ1 (by decide) | exact Q.le hQ2 (by decide) | exact Q.le hQ3 (by decide) | exact Q.le hQ4 (by decide) | exact Q.le hQ5 (by decide) | exact Q.le hQ6 (by decide) | exact Q.le hQ7 (by decide) | omega) : p := h
theorem m19_Scale (s : SA) (ps : List PR) (p : RA) (c : Raw) (u : RA) (b : Raw) (bits : Int) (hps : ∀ i, i < ps.length → RQ 64 (ps.getD i pr0).2) (hcR : RQ 268435456 c) (hbR : RQ 268435456 b) (hc : Q 64 (qv c)) (hb : Q 64 (qv b)) : Spec Tryz.prog 18 #[sl s ps.length, ratV p c, ratV u b, .int .i64 bits] [fRats s ps, fRat p c, fRat u b] (ι := RA × RA × Rat × Rat) (fun y => .tuple #[.agg (ivC y.1 (encQ y.2.2.1) y.2.1 (encQ y.2.2.2)), .int .i64 (checkE ps.length (qv c) (qv b) bits)]) (fun y => ScaleR (vals ps) ps.length (qv c) (qv b) bits y.2.2.1 y.2.2.2) (fun y => [fRat y.1 (encQ y.2.2.1), fRat y.2.1 (encQ y.2.2.2)]) := by
  refine Spec.of_body _ (fn := Tryz.f18) k_ rfl k_ (fun X w0 => ?_)
  refine J.fact (φ := ps.length ≤ 140737488355328) (fun w h => by have := (h _ (.head _)).1; omega) (fun hl1 => ?_)
  refine J.fact (φ := c.mag.length ≤ 140737488355328 ∧ c.den.length ≤ 140737488355328) (fun w h => by have h1 := (h _ (.tail _ ((.head _)))).1.1; have h2 := (h _ (.tail _ ((.head _)))).2.1; omega) (fun hl2 => ?_)
  refine J.fact (φ := b.mag.length ≤ 140737488355328 ∧ b.den.length ≤ 140737488355328) (fun w h => by have h1 := (h _ (.tail _ ((.tail _ ((.head _)))))).1.1; have h2 := (h _ (.tail _ ((.tail _ ((.head _)))))).2.1; omega) (fun hl3 => ?_)
  refine J.sreg ?_
  refine RN.new (fun b => pt b) (.cells #[sl s ps.length] 22 (0, 0)) k_ k_ (fun w => by kernel_rfl) (fun b4 => ?_)
  refine RN.new (fun b => pt b) (.cells (ratC p c) 27 (0, 0)) k_ k_ (fun w => by kernel_rfl) (fun b5 => ?_)
  refine RN.new (fun b => pt b) (.cells (ratC u b) 27 (0, 0)) k_ k_ (fun w => by kernel_rfl) (fun b6 => ?_)
  refine RN.new (fun b => pt b) (.cells (ivC (⟨saNil, saNil⟩ : RA) (⟨false, ([] : List Nat), ([] : List Nat)⟩ : Raw) (⟨saNil, saNil⟩ : RA) (⟨false, ([] : List Nat), ([] : List Nat)⟩ : Raw)) 38 (0, 0)) k_ k_ (fun w => by kernel_rfl) (fun b7 => ?_)
  refine RN.bq (no 1) [3, 4, 5, 6, 8] [] (k' := 5) (l' := [(3, .int .i64 bits), (4, pt b4), (5, pt b5), (6, pt b6), (8, pt b7)]) k_ ?_
  refine RN.fin k_ ?_
  refine J.seq ?_
  refine J.sreg ?_
  refine RN.bq [some 3, some 2, some 1, none] [3, 4, 5, 6, 8, 16, 17, 18, 19] [b6, b6, b6, b5, b5, b5, b4] (k' := 4) (l' := [(3, .int .i64 bits), (4, pt b4), (5, pt b5), (6, pt b6), (8, pt b7), (16, sl s ps.length), (17, ratV p c), (18, ratV u b), (19, .int .i64 bits)]) k_ ?_
  refine RN.call (m19_Check s ps p c u b bits y_m19_Scale y_m19_Scale) [0, 1, 2] k_ k_ k_ rfl (fun y8 _ => ?_)
  refine RN.bq (no 1) [3, 4, 5, 6, 8, 10] [] (k' := 6) (l' := [(3, .int .i64 bits), (4, pt b4), (5, pt b5), (6, pt b6), (8, pt b7), (10, .int .i64 (checkE ps.length (qv c) (qv b) bits))]) k_ ?_
  refine RN.fin k_ ?_
  refine J.sreg ?_
  refine RN.bq (no 2) [3, 4, 5, 6, 8, 10, 22] [] (k' := 2) (l' := [(3, .int .i64 bits), (4, pt b4), (5, pt b5), (6, pt b6), (8, pt b7), (10, .int .i64 (checkE ps.length (qv c) (qv b) bits)), (22, .bool (((checkE ps.length (qv c) (qv b) bits) : Int) != 0))]) k_ ?_
  refine RN.fin k_ ?_
  refine J.cond (((checkE ps.length (qv c) (qv b) bits) : Int) != 0) k_ (fun c9 => ?_) (fun c9 => ?_)
  · skip
    replace c9 := bne_iff_ne.1 c9
    have he := c9
    refine J.sreg ?_
    refine RN.bat [none, none, some 0, none] [8, 9] [b7, b7, b7, b7, b7, b7] (k' := 4) (l' := [(8, pt b7), (9, .int .i64 (checkE ps.length (qv c) (qv b) bits))]) (M' := [(b7, .cells (ivC (⟨saNil, saNil⟩ : RA) (⟨false, ([] : List Nat), ([] : List Nat)⟩ : Raw) (⟨saNil, saNil⟩ : RA) (⟨false, ([] : List Nat), ([] : List Nat)⟩ : Raw)) 38 (0, 0)), (b6, .cells (ratC u b) 27 (0, 0)), (b5, .cells (ratC p c) 27 (0, 0)), (b4, .cells #[sl s ps.length] 22 (0, 0))]) k_ ?_
    refine RN.fin k_ ?_
    have e_1 : encQ (0 : Rat) = (⟨false, ([] : List Nat), ([] : List Nat)⟩ : Raw) := encQ_zero
    have e_2 : encQ (0 : Rat) = (⟨false, ([] : List Nat), ([] : List Nat)⟩ : Raw) := encQ_zero
    refine J.also (fRat (⟨saNil, saNil⟩ : RA) (⟨false, ([] : List Nat), ([] : List Nat)⟩ : Raw)) (fun w h => ⟨fU_nil w, fU_nil w⟩) ?_
    refine J.ret (KR.next (KR.ret (v := .tuple #[.agg (ivC (⟨saNil, saNil⟩ : RA) (⟨false, ([] : List Nat), ([] : List Nat)⟩ : Raw) (⟨saNil, saNil⟩ : RA) (⟨false, ([] : List Nat), ([] : List Nat)⟩ : Raw)), .int .i64 (checkE ps.length (qv c) (qv b) bits)]) (⟨⟨saNil, saNil⟩, ⟨⟨saNil, saNil⟩, ⟨(0 : Rat), (0 : Rat)⟩⟩⟩) [some 0, none] [0, 0] [b7, b7, b7, b7, b7, b7] k_ v2_ (ScaleR_0 (.inl he)) v2_))
  · skip
    replace c9 := bne_eq_false_iff_eq.1 c9
    have he : checkE ps.length (qv c) (qv b) bits = 0 := by simpa using c9
    obtain ⟨hn0, hn1, hc0, hb0, hb1, ht0, ht1⟩ := checkE_0 he
    have hsq := Q_share (vals ps) hn1
    refine J.skip ?_
    refine KN.next ?_
    refine J.seq ?_
    refine J.seq ?_
    refine J.regD k_ [] ?_
    refine RD.bat k_ [(0, some 3), (2, some 1)] [3, 4, 5, 6, 8, 25, 27] [b6, b6, b6, b4] (L' := [2, 0]) (l' := [(3, .int .i64 bits), (4, pt b4), (5, pt b5), (6, pt b6), (8, pt b7), (25, sl s ps.length), (27, ratV u b)]) k_ ?_
    refine RD.call (i := 1) (m19_share s ps y_m19_Scale y_m19_Scale) [0] k_ k_ k_ k_ k_ rfl (fun y10 _ => ?_)
    refine RD.call (i := 3) (rational_Compare_c1 y10 (shareN (vals ps) ps.length) u b y_m19_Scale y_m19_Scale) [0, 3] k_ k_ k_ k_ k_ rfl (fun y11 _ => ?_)
    refine RD.bat k_ [(4, none)] [3, 4, 5, 6, 8, 29] [] (L' := [4, 3, 1, 2, 0]) (l' := [(3, .int .i64 bits), (4, pt b4), (5, pt b5), (6, pt b6), (8, pt b7), (29, .bool (decide ((cmpQ (shareN (vals ps) ps.length) (qv b)) ≤ 0)))]) k_ ?_
    refine RD.done k_ ?_
    refine KN.next ?_
    refine J.cond (decide ((cmpQ (shareN (vals ps) ps.length) (qv b)) ≤ 0)) k_ (fun c12 => ?_) (fun c12 => ?_)
    · skip
      replace c12 := of_decide_eq_true c12
      have hle : shareN (vals ps) ps.length ≤ qv b := Rat.not_lt.1 (cmpQ_le.1 c12)
      refine J.sreg ?_
      refine RN.bat [none, some 0, none] [8, 9] [b7, b7, b7, b7, b7, b7] (k' := 3) (l' := [(8, pt b7), (9, .int .i64 0)]) (M' := [(b7, .cells (ivC (⟨saNil, saNil⟩ : RA) (⟨false, ([] : List Nat), ([] : List Nat)⟩ : Raw) (⟨saNil, saNil⟩ : RA) (⟨false, ([] : List Nat), ([] : List Nat)⟩ : Raw)) 38 (0, 0)), (b6, .cells (ratC u b) 27 (0, 0)), (b5, .cells (ratC p c) 27 (0, 0)), (b4, .cells #[sl s ps.length] 22 (0, 0))]) k_ ?_
      refine RN.fin k_ ?_
      have e_1 : encQ (0 : Rat) = (⟨false, ([] : List Nat), ([] : List Nat)⟩ : Raw) := encQ_zero
      have e_2 : encQ (0 : Rat) = (⟨false, ([] : List Nat), ([] : List Nat)⟩ : Raw) := encQ_zero
      have e_3 : (checkE ps.length (qv c) (qv b) bits : Int) = (0 : Int) := by exact he
      refine J.also (fRat (⟨saNil, saNil⟩ : RA) (⟨false, ([] : List Nat), ([] : List Nat)⟩ : Raw)) (fun w h => ⟨fU_nil w, fU_nil w⟩) ?_
      refine J.ret (KR.next (KR.ret (v := .tuple #[.agg (ivC (⟨saNil, saNil⟩ : RA) (⟨false, ([] : List Nat), ([] : List Nat)⟩ : Raw) (⟨saNil, saNil⟩ : RA) (⟨false, ([] : List Nat), ([] : List Nat)⟩ : Raw)), .int .i64 0]) (⟨⟨saNil, saNil⟩, ⟨⟨saNil, saNil⟩, ⟨(0 : Rat), (0 : Rat)⟩⟩⟩) [some 0, none] [0, 0] [b7, b7, b7, b7, b7, b7] k_ v3_ (ScaleR_0 (.inr hle)) v3_))
    · skip
      replace c12 := of_decide_eq_false c12
      have hnle : ¬ shareN (vals ps) ps.length ≤ qv b := fun h => c12 (cmpQ_le.2 (Rat.not_lt.2 h))
      have hin : SIn (vals ps) ps.length (qv c) (qv b) bits := ⟨hn0, hn1, fun i hi => (hps i hi).2.2.2.2, hc, hc0, hb, hb0, Rat.not_le.1 hnle, ht0, ht1⟩
      refine J.skip ?_
      refine KN.next ?_
      refine J.sreg ?_
      refine RN.bq (no 2) [3, 4, 5, 8, 11] [] (k' := 2) (l' := [(3, .int .i64 bits), (4, pt b4), (5, pt b5), (8, pt b7), (11, .func (.func 56) #[] #[pt b4, pt b5, pt b6])]) k_ ?_
      refine RN.fin k_ ?_
      refine J.sreg ?_
      refine RN.bq [some 3, some 2] [3, 8, 11, 32, 33] [b5, b5, b5, b4] (k' := 2) (l' := [(3, .int .i64 bits), (8, pt b7), (11, .func (.func 56) #[] #[pt b4, pt b5, pt b6]), (32, sl s ps.length), (33, ratV p c)]) k_ ?_
      refine RN.call (m19_about s ps p c y_m19_Scale y_m19_Scale y_m19_Scale) [1, 2] k_ k_ k_ rfl (fun ab h13 => ?_)
      have hab := h13
      have hpq := (L1.start hab).Q
      refine RN.call (m19_power ab y_m19_Scale y_m19_Scale) [] k_ k_ k_ rfl (fun y14 _ => ?_)
      refine RN.new (fun b => pt b) (.cells (ratC (⟨saNil, saNil⟩ : RA) (⟨false, ([] : List Nat), ([] : List Nat)⟩ : Raw)) 27 (0, 0)) k_ k_ (fun w => by kernel_rfl) (fun b15 => ?_)
      refine RN.bat [some 0] [3, 8, 11, 12] [b15, b15, b15] (k' := 6) (l' := [(3, .int .i64 bits), (8, pt b7), (11, .func (.func 56) #[] #[pt b4, pt b5, pt b6]), (12, pt b15)]) (M' := [(b15, .cells (ratC y14 (encQ (P2 ab))) 27 (0, 0)), (b7, .cells (ivC (⟨saNil, saNil⟩ : RA) (⟨false, ([] : List Nat), ([] : List Nat)⟩ : Raw) (⟨saNil, saNil⟩ : RA) (⟨false, ([] : List Nat), ([] : List Nat)⟩ : Raw)) 38 (0, 0)), (b6, .cells (ratC u b) 27 (0, 0)), (b5, .cells (ratC p c) 27 (0, 0)), (b4, .cells #[sl s ps.length] 22 (0, 0))]) k_ ?_
      refine RN.fin k_ ?_
      refine J.seq ?_
      refine J.block ?_
      refine J.loop (ι := (Nat) × (RA) × (Rat)) (fun x => L1 ab x.1 x.2.2) (fun x => 14624 - x.1) (fun x => [(3, .int .i64 bits), (8, pt b7), (11, .func (.func 56) #[] #[pt b4, pt b5, pt b6]), (12, pt b15)]) (fun x => [(b15, .cells (ratC x.2.1 (encQ x.2.2)) 27 (0, 0)), (b7, .cells (ivC (⟨saNil, saNil⟩ : RA) (⟨false, ([] : List Nat), ([] : List Nat)⟩ : Raw) (⟨saNil, saNil⟩ : RA) (⟨false, ([] : List Nat), ([] : List Nat)⟩ : Raw)) 38 (0, 0)), (b6, .cells (ratC u b) 27 (0, 0)), (b5, .cells (ratC p c) 27 (0, 0)), (b4, .cells #[sl s ps.length] 22 (0, 0))]) (fun x => [fRat x.2.1 (encQ x.2.2), fRat y14 (encQ (P2 ab)), fRat y10 (encQ (shareN (vals ps) ps.length)), fRats s ps, fRat p c, fRat u b]) (0, y14, P2 ab) [3, 8, 11, 12] [0, 0, 1, 2, 3, 4] (L1.start hab) k_ (by first | rfl | (simp only [encQ_zero]; done) | (simp only [encQ_zero]; rfl)) (by rfl) (fun x16 hI => ?_)
      obtain ⟨i, ho, H⟩ := x16
      replace hI : L1 ab i H := hI
      have hHQ := L1.Q hI
      refine J.seq ?_
      refine J.sreg ?_
      refine RN.bq [none, some 0] [3, 8, 11, 12, 36, 37] [b15, b15, b15] (k' := 2) (l' := [(3, .int .i64 bits), (8, pt b7), (11, .func (.func 56) #[] #[pt b4, pt b5, pt b6]), (12, pt b15), (36, .func (.func 56) #[] #[pt b4, pt b5, pt b6]), (37, ratV ho (encQ H))]) k_ ?_
      refine RN.callM (m19_above ho H b4 b5 b6 s ps p c u b y_m19_Scale y_m19_Scale y_m19_Scale y_m19_Scale y_m19_Scale y_m19_Scale y_m19_Scale) [(b15, .cells (ratC ho (encQ H)) 27 (0, 0)), (b7, .cells (ivC (⟨saNil, saNil⟩ : RA) (⟨false, ([] : List Nat), ([] : List Nat)⟩ : Raw) (⟨saNil, saNil⟩ : RA) (⟨false, ([] : List Nat), ([] : List Nat)⟩ : Raw)) 38 (0, 0))] ([]) [0, 3, 4, 5] k_ k_ k_ rfl rfl (fun y17 _ => ?_)
      refine RN.fin k_ ?_
      refine J.cond (decide ((qv b) < meanN (vals ps) ps.length (qv c) H)) k_ (fun c18 => ?_) (fun c18 => ?_)
      · skip
        replace c18 := of_decide_eq_true c18
        have hst := L1.step hin hI c18
        refine J.skip ?_
        refine KN.next ?_
        refine J.block ?_
        refine J.regN ?_
        refine RN.bq [some 0] [3, 8, 11, 12, 39] [b15, b15, b15] (k' := 1) (l' := [(3, .int .i64 bits), (8, pt b7), (11, .func (.func 56) #[] #[pt b4, pt b5, pt b6]), (12, pt b15), (39, ratV ho (encQ H))]) k_ ?_
        refine RN.call (m19_double_c ho H y_m19_Scale) [0] k_ k_ k_ rfl (fun y19 _ => ?_)
        refine RN.bat [some 0] [3, 8, 11, 12] [b15, b15, b15] (k' := 3) (l' := [(3, .int .i64 bits), (8, pt b7), (11, .func (.func 56) #[] #[pt b4, pt b5, pt b6]), (12, pt b15)]) (M' := [(b15, .cells (ratC y19 (encQ (H + H))) 27 (0, 0)), (b7, .cells (ivC (⟨saNil, saNil⟩ : RA) (⟨false, ([] : List Nat), ([] : List Nat)⟩ : Raw) (⟨saNil, saNil⟩ : RA) (⟨false, ([] : List Nat), ([] : List Nat)⟩ : Raw)) 38 (0, 0)), (b6, .cells (ratC u b) 27 (0, 0)), (b5, .cells (ratC p c) 27 (0, 0)), (b4, .cells #[sl s ps.length] 22 (0, 0))]) k_ ?_
        refine RN.done k_ ?_
        refine KN.blk ?_
        refine KN.roundE (i + 1, y19, H + H) [3, 8, 11, 12] [0, 2, 3, 4, 5, 6] (l2 := [(3, .int .i64 bits), (8, pt b7), (11, .func (.func 56) #[] #[pt b4, pt b5, pt b6]), (12, pt b15)]) (by (try dsimp only); omega) (by (try dsimp only); exact hst.2) k_ (by rfl) (by rfl) (by rfl)
      · skip
        replace c18 := of_decide_eq_false c18
        have hna := c18
        have hH := L1.done hI
        refine J.exit (KX.next (KX.next (KX.hit ?_)))
        refine KN.next ?_
        refine J.sreg ?_
        refine RN.bq [some 0] [3, 8, 11, 12, 41] [b15, b15, b15] (k' := 1) (l' := [(3, .int .i64 bits), (8, pt b7), (11, .func (.func 56) #[] #[pt b4, pt b5, pt b6]), (12, pt b15), (41, ratV ho (encQ H))]) k_ ?_
        refine RN.call (m19_halve_c ho H y_m19_Scale) [0] k_ k_ k_ rfl (fun y20 _ => ?_)
        refine RN.new (fun b => pt b) (.cells (ratC (⟨saNil, saNil⟩ : RA) (⟨false, ([] : List Nat), ([] : List Nat)⟩ : Raw)) 27 (0, 0)) k_ k_ (fun w => by kernel_rfl) (fun b21 => ?_)
        refine RN.bat [some 0] [3, 8, 11, 12, 13] [b21, b21, b21] (k' := 4) (l' := [(3, .int .i64 bits), (8, pt b7), (11, .func (.func 56) #[] #[pt b4, pt b5, pt b6]), (12, pt b15), (13, pt b21)]) (M' := [(b21, .cells (ratC y20 (encQ (H / 2))) 27 (0, 0)), (b15, .cells (ratC ho (encQ H)) 27 (0, 0)), (b7, .cells (ivC (⟨saNil, saNil⟩ : RA) (⟨false, ([] : List Nat), ([] : List Nat)⟩ : Raw) (⟨saNil, saNil⟩ : RA) (⟨false, ([] : List Nat), ([] : List Nat)⟩ : Raw)) 38 (0, 0)), (b6, .cells (ratC u b) 27 (0, 0)), (b5, .cells (ratC p c) 27 (0, 0)), (b4, .cells #[sl s ps.length] 22 (0, 0))]) k_ ?_
        refine RN.fin k_ ?_
        refine J.seq ?_
        refine J.block ?_
        refine J.loop (ι := (Nat) × (RA) × (Rat) × (RA) × (Rat)) (fun x => L2 (vals ps) ps.length (qv c) (qv b) H x.1 x.2.2.1 x.2.2.2.2) (fun x => 27168 - x.1) (fun x => [(3, .int .i64 bits), (8, pt b7), (11, .func (.func 56) #[] #[pt b4, pt b5, pt b6]), (12, pt b15), (13, pt b21)]) (fun x => [(b21, .cells (ratC x.2.2.2.1 (encQ x.2.2.2.2)) 27 (0, 0)), (b15, .cells (ratC x.2.1 (encQ x.2.2.1)) 27 (0, 0)), (b7, .cells (ivC (⟨saNil, saNil⟩ : RA) (⟨false, ([] : List Nat), ([] : List Nat)⟩ : Raw) (⟨saNil, saNil⟩ : RA) (⟨false, ([] : List Nat), ([] : List Nat)⟩ : Raw)) 38 (0, 0)), (b6, .cells (ratC u b) 27 (0, 0)), (b5, .cells (ratC p c) 27 (0, 0)), (b4, .cells #[sl s ps.length] 22 (0, 0))]) (fun x => [fRat x.2.1 (encQ x.2.2.1), fRat x.2.2.2.1 (encQ x.2.2.2.2), fRat y20 (encQ (H / 2)), fRat ho (encQ H), fRat y14 (encQ (P2 ab)), fRat y10 (encQ (shareN (vals ps) ps.length)), fRats s ps, fRat p c, fRat u b]) (0, ho, H, y20, H / 2) [3, 8, 11, 12, 13] [1, 0, 0, 1, 2, 3, 4, 5, 6] (L2.start hna) k_ (by first | rfl | (simp only [encQ_zero]; done) | (simp only [encQ_zero]; rfl)) (by rfl) (fun x22 hJ => ?_)
        obtain ⟨j, ho2, U, lo, Lo⟩ := x22
        replace hJ : L2 (vals ps) ps.length (qv c) (qv b) H j U Lo := hJ
        have hUQ := L2.Q hJ hHQ
        refine J.seq ?_
        refine J.sreg ?_
        refine RN.bq [none, some 0] [3, 8, 11, 12, 13, 43, 44] [b21, b21, b21] (k' := 2) (l' := [(3, .int .i64 bits), (8, pt b7), (11, .func (.func 56) #[] #[pt b4, pt b5, pt b6]), (12, pt b15), (13, pt b21), (43, .func (.func 56) #[] #[pt b4, pt b5, pt b6]), (44, ratV lo (encQ Lo))]) k_ ?_
        refine RN.callM (m19_above lo Lo b4 b5 b6 s ps p c u b y_m19_Scale y_m19_Scale y_m19_Scale y_m19_Scale y_m19_Scale y_m19_Scale y_m19_Scale) [(b21, .cells (ratC lo (encQ Lo)) 27 (0, 0)), (b15, .cells (ratC ho2 (encQ U)) 27 (0, 0)), (b7, .cells (ivC (⟨saNil, saNil⟩ : RA) (⟨false, ([] : List Nat), ([] : List Nat)⟩ : Raw) (⟨saNil, saNil⟩ : RA) (⟨false, ([] : List Nat), ([] : List Nat)⟩ : Raw)) 38 (0, 0))] ([]) [1, 6, 7, 8] k_ k_ k_ rfl rfl (fun y23 _ => ?_)
        refine RN.bq (no 1) [3, 8, 11, 12, 13, 46] [] (k' := 4) (l' := [(3, .int .i64 bits), (8, pt b7), (11, .func (.func 56) #[] #[pt b4, pt b5, pt b6]), (12, pt b15), (13, pt b21), (46, .bool (!(decide ((qv b) < meanN (vals ps) ps.length (qv c) Lo))))]) k_ ?_
        refine RN.fin k_ ?_
        refine J.cond (!(decide ((qv b) < meanN (vals ps) ps.length (qv c) Lo))) k_ (fun c24 => ?_) (fun c24 => ?_)
        · skip
          replace c24 := of_decide_eq_false ((Bool.not_eq_true' _).mp c24)
          have hst := L2.step hin hH hJ c24
          refine J.skip ?_
          refine KN.next ?_
          refine J.block ?_
          refine J.regD k_ [3, 4] ?_
          refine RD.bat k_ [(0, some 0), (1, some 0)] [3, 8, 11, 12, 13, 47, 48] [b21, b21, b21, b21, b21, b21] (L' := [1, 0]) (l' := [(3, .int .i64 bits), (8, pt b7), (11, .func (.func 56) #[] #[pt b4, pt b5, pt b6]), (12, pt b15), (13, pt b21), (47, ratV lo (encQ Lo)), (48, ratV lo (encQ Lo))]) k_ ?_
          refine RD.call (i := 2) (m19_halve_c lo Lo y_m19_Scale) [1] k_ k_ k_ k_ k_ rfl (fun y25 _ => ?_)
          refine RD.last (i := 3) (some 1) [3, 8, 11, 12, 13, 49] [b15, b15, b15] k_ k_ k_ (l' := [(3, .int .i64 bits), (8, pt b7), (11, .func (.func 56) #[] #[pt b4, pt b5, pt b6]), (12, pt b15), (13, pt b21), (49, ratV y25 (encQ (Lo / 2)))]) (M' := [(b21, .cells (ratC lo (encQ Lo)) 27 (0, 0)), (b15, .cells (ratC lo (encQ Lo)) 27 (0, 0)), (b7, .cells (ivC (⟨saNil, saNil⟩ : RA) (⟨false, ([] : List Nat), ([] : List Nat)⟩ : Raw) (⟨saNil, saNil⟩ : RA) (⟨false, ([] : List Nat), ([] : List Nat)⟩ : Raw)) 38 (0, 0)), (b6, .cells (ratC u b) 27 (0, 0)), (b5, .cells (ratC p c) 27 (0, 0)), (b4, .cells #[sl s ps.length] 22 (0, 0))]) k_ ?_
          refine RD.last (i := 4) (some 0) [3, 8, 11, 12, 13] [b21, b21, b21] k_ k_ k_ (l' := [(3, .int .i64 bits), (8, pt b7), (11, .func (.func 56) #[] #[pt b4, pt b5, pt b6]), (12, pt b15), (13, pt b21)]) (M' := [(b21, .cells (ratC y25 (encQ (Lo / 2))) 27 (0, 0)), (b15, .cells (ratC lo (encQ Lo)) 27 (0, 0)), (b7, .cells (ivC (⟨saNil, saNil⟩ : RA) (⟨false, ([] : List Nat), ([] : List Nat)⟩ : Raw) (⟨saNil, saNil⟩ : RA) (⟨false, ([] : List Nat), ([] : List Nat)⟩ : Raw)) 38 (0, 0)), (b6, .cells (ratC u b) 27 (0, 0)), (b5, .cells (ratC p c) 27 (0, 0)), (b4, .cells #[sl s ps.length] 22 (0, 0))]) k_ ?_
          refine RD.done k_ ?_
          refine KN.blk ?_
          refine KN.roundE (j + 1, lo, Lo, y25, Lo / 2) [3, 8, 11, 12, 13] [2, 0, 3, 4, 5, 6, 7, 8, 9] (l2 := [(3, .int .i64 bits), (8, pt b7), (11, .func (.func 56) #[] #[pt b4, pt b5, pt b6]), (12, pt b15), (13, pt b21)]) (by (try dsimp only); omega) (by (try dsimp only); exact hst.2) k_ (by rfl) (by rfl) (by rfl)
        · skip
          replace c24 := of_decide_eq_true ((Bool.not_eq_false' _).mp c24)
          have hyes := c24
          refine J.exit (KX.next (KX.next (KX.hit ?_)))
          refine KN.next ?_
          refine J.sreg ?_
          refine RN.bq (no 2) [8, 11, 12, 13, 51] [] (k' := 2) (l' := [(8, pt b7), (11, .func (.func 56) #[] #[pt b4, pt b5, pt b6]), (12, pt b15), (13, pt b21), (51, .int .i64 (IntKind.i64.wrap (0 - bits)))]) k_ ?_
          rw [show IntKind.i64.wrap (0 - bits) = (-bits) from by rw [IntKind.wrap_i64]; omega]
          refine RN.call (m19_power (-bits) y_m19_Scale y_m19_Scale) [] k_ k_ k_ rfl (fun y26 _ => ?_)
          refine RN.new (fun b => pt b) (.cells (ratC (⟨saNil, saNil⟩ : RA) (⟨false, ([] : List Nat), ([] : List Nat)⟩ : Raw)) 27 (0, 0)) k_ k_ (fun w => by kernel_rfl) (fun b27 => ?_)
          refine RN.bat [some 0] [8, 11, 12, 13, 14] [b27, b27, b27] (k' := 5) (l' := [(8, pt b7), (11, .func (.func 56) #[] #[pt b4, pt b5, pt b6]), (12, pt b15), (13, pt b21), (14, pt b27)]) (M' := [(b27, .cells (ratC y26 (encQ (P2 (-bits)))) 27 (0, 0)), (b21, .cells (ratC lo (encQ Lo)) 27 (0, 0)), (b15, .cells (ratC ho2 (encQ U)) 27 (0, 0)), (b7, .cells (ivC (⟨saNil, saNil⟩ : RA) (⟨false, ([] : List Nat), ([] : List Nat)⟩ : Raw) (⟨saNil, saNil⟩ : RA) (⟨false, ([] : List Nat), ([] : List Nat)⟩ : Raw)) 38 (0, 0)), (b6, .cells (ratC u b) 27 (0, 0)), (b5, .cells (ratC p c) 27 (0, 0)), (b4, .cells #[sl s ps.length] 22 (0, 0))]) k_ ?_
          refine RN.fin k_ ?_
          refine J.seq ?_
          refine J.block ?_
          refine J.loop (ι := (Nat) × (Nat) × (RA) × (Rat) × (RA) × (Rat)) (fun x => L3 (vals ps) ps.length (qv c) (qv b) Lo bits x.1 x.2.1 x.2.2.2.1 x.2.2.2.2.2) (fun x => bits.toNat - x.2.1) (fun x => [(8, pt b7), (11, .func (.func 56) #[] #[pt b4, pt b5, pt b6]), (12, pt b15), (13, pt b21), (14, pt b27)]) (fun x => [(b27, .cells (ratC y26 (encQ (P2 (-bits)))) 27 (0, 0)), (b21, .cells (ratC x.2.2.2.2.1 (encQ x.2.2.2.2.2)) 27 (0, 0)), (b15, .cells (ratC x.2.2.1 (encQ x.2.2.2.1)) 27 (0, 0)), (b7, .cells (ivC (⟨saNil, saNil⟩ : RA) (⟨false, ([] : List Nat), ([] : List Nat)⟩ : Raw) (⟨saNil, saNil⟩ : RA) (⟨false, ([] : List Nat), ([] : List Nat)⟩ : Raw)) 38 (0, 0)), (b6, .cells (ratC u b) 27 (0, 0)), (b5, .cells (ratC p c) 27 (0, 0)), (b4, .cells #[sl s ps.length] 22 (0, 0))]) (fun x => [fRat x.2.2.1 (encQ x.2.2.2.1), fRat x.2.2.2.2.1 (encQ x.2.2.2.2.2), fRat y26 (encQ (P2 (-bits))), fRat ho2 (encQ U), fRat lo (encQ Lo), fRat y20 (encQ (H / 2)), fRat ho (encQ H), fRat y14 (encQ (P2 ab)), fRat y10 (encQ (shareN (vals ps) ps.length)), fRats s ps, fRat p c, fRat u b]) (1, 0, ho2, U, lo, Lo) [8, 11, 12, 13, 14] [1, 2, 0, 1, 2, 3, 4, 5, 6, 7, 8, 9] (L3.start hH.1 hHQ hJ hyes) k_ (by first | rfl | (simp only [encQ_zero]; done) | (simp only [encQ_zero]; rfl)) (by rfl) (fun x28 hK => ?_)
          obtain ⟨a, k, ho3, U3, lo3, L3v⟩ := x28
          replace hK : L3 (vals ps) ps.length (qv c) (qv b) Lo bits a k U3 L3v := hK
          obtain ⟨hQ1, hQ2, hQ3, hQ4⟩ := L3.Q hK hin.t0 hin.t1
          have hQ5 := hQ1.sub hQ2
          have hQ6 := hQ4.mul hQ1
          have hQ7 := hQ2.add hQ1
          refine J.seq ?_
          refine J.seq ?_
          refine J.regD k_ [] ?_
          refine RD.bat k_ [(0, some 2), (1, some 1), (3, some 0), (4, some 2)] [8, 11, 12, 13, 14, 53, 54, 56, 57] [b15, b15, b15, b27, b27, b27, b21, b21, b21, b15, b15, b15] (L' := [4, 3, 1, 0]) (l' := [(8, pt b7), (11, .func (.func 56) #[] #[pt b4, pt b5, pt b6]), (12, pt b15), (13, pt b21), (14, pt b27), (53, ratV ho3 (encQ U3)), (54, ratV lo3 (encQ L3v)), (56, ratV y26 (encQ (P2 (-bits)))), (57, ratV ho3 (encQ U3))]) k_ ?_
          refine RD.call (i := 2) (rational_Sub_c ho3 U3 lo3 L3v y_m19_Scale y_m19_Scale) [0, 1] k_ k_ k_ k_ k_ rfl (fun y29 _ => ?_)
          refine RD.call (i := 5) (rational_Mul_c y26 (P2 (-bits)) ho3 U3 y_m19_Scale y_m19_Scale) [3, 1] k_ k_ k_ k_ k_ rfl (fun y30 _ => ?_)
          refine RD.call (i := 6) (rational_Compare_c y29 (U3 - L3v) y30 ((P2 (-bits)) * U3) y_m19_Scale y_m19_Scale) [1, 0] k_ k_ k_ k_ k_ rfl (fun y31 _ => ?_)
          refine RD.bat k_ [(7, none)] [8, 11, 12, 13, 14, 60] [] (L' := [7, 6, 5, 2, 4, 3, 1, 0]) (l' := [(8, pt b7), (11, .func (.func 56) #[] #[pt b4, pt b5, pt b6]), (12, pt b15), (13, pt b21), (14, pt b27), (60, .bool (decide ((cmpQ (U3 - L3v) ((P2 (-bits)) * U3)) > 0)))]) k_ ?_
          refine RD.done k_ ?_
          refine KN.next ?_
          refine J.cond (decide ((cmpQ (U3 - L3v) ((P2 (-bits)) * U3)) > 0)) k_ (fun c32 => ?_) (fun c32 => ?_)
          · skip
            replace c32 := of_decide_eq_true c32
            have hkb := L3.less hK hin.t0 (cmpQ_gt.1 c32)
            refine J.skip ?_
            refine KN.next ?_
            refine J.block ?_
            refine J.sreg ?_
            refine RN.bq [some 1, some 2] [8, 11, 12, 13, 14, 61, 62] [b15, b15, b15, b21, b21, b21] (k' := 2) (l' := [(8, pt b7), (11, .func (.func 56) #[] #[pt b4, pt b5, pt b6]), (12, pt b15), (13, pt b21), (14, pt b27), (61, ratV lo3 (encQ L3v)), (62, ratV ho3 (encQ U3))]) k_ ?_
            refine RN.call (rational_Add_c lo3 L3v ho3 U3 y_m19_Scale y_m19_Scale) [3, 2] k_ k_ k_ rfl (fun y33 _ => ?_)
            refine RN.call (m19_halve_c y33 (L3v + U3) y_m19_Scale) [0] k_ k_ k_ rfl (fun y34 _ => ?_)
            refine RN.new (fun b => pt b) (.cells (ratC (⟨saNil, saNil⟩ : RA) (⟨false, ([] : List Nat), ([] : List Nat)⟩ : Raw)) 27 (0, 0)) k_ k_ (fun w => by kernel_rfl) (fun b35 => ?_)
            refine RN.bat [some 0] [8, 11, 12, 13, 14, 15] [b35, b35, b35] (k' := 6) (l' := [(8, pt b7), (11, .func (.func 56) #[] #[pt b4, pt b5, pt b6]), (12, pt b15), (13, pt b21), (14, pt b27), (15, pt b35)]) (M' := [(b35, .cells (ratC y34 (encQ ((L3v + U3) / 2))) 27 (0, 0)), (b27, .cells (ratC y26 (encQ (P2 (-bits)))) 27 (0, 0)), (b21, .cells (ratC lo3 (encQ L3v)) 27 (0, 0)), (b15, .cells (ratC ho3 (encQ U3)) 27 (0, 0)), (b7, .cells (ivC (⟨saNil, saNil⟩ : RA) (⟨false, ([] : List Nat), ([] : List Nat)⟩ : Raw) (⟨saNil, saNil⟩ : RA) (⟨false, ([] : List Nat), ([] : List Nat)⟩ : Raw)) 38 (0, 0)), (b6, .cells (ratC u b) 27 (0, 0)), (b5, .cells (ratC p c) 27 (0, 0)), (b4, .cells #[sl s ps.length] 22 (0, 0))]) k_ ?_
            refine RN.fin k_ ?_
            refine J.sreg ?_
            refine RN.bq [none, some 0] [8, 11, 12, 13, 14, 15, 65, 66] [b35, b35, b35] (k' := 2) (l' := [(8, pt b7), (11, .func (.func 56) #[] #[pt b4, pt b5, pt b6]), (12, pt b15), (13, pt b21), (14, pt b27), (15, pt b35), (65, .func (.func 56) #[] #[pt b4, pt b5, pt b6]), (66, ratV y34 (encQ ((L3v + U3) / 2)))]) k_ ?_
            refine RN.callM (m19_above y34 ((L3v + U3) / 2) b4 b5 b6 s ps p c u b y_m19_Scale y_m19_Scale y_m19_Scale y_m19_Scale y_m19_Scale y_m19_Scale y_m19_Scale) [(b35, .cells (ratC y34 (encQ ((L3v + U3) / 2))) 27 (0, 0)), (b27, .cells (ratC y26 (encQ (P2 (-bits)))) 27 (0, 0)), (b21, .cells (ratC lo3 (encQ L3v)) 27 (0, 0)), (b15, .cells (ratC ho3 (encQ U3)) 27 (0, 0)), (b7, .cells (ivC (⟨saNil, saNil⟩ : RA) (⟨false, ([] : List Nat), ([] : List Nat)⟩ : Raw) (⟨saNil, saNil⟩ : RA) (⟨false, ([] : List Nat), ([] : List Nat)⟩ : Raw)) 38 (0, 0))] ([]) [0, 13, 14, 15] k_ k_ k_ rfl rfl (fun y36 _ => ?_)
            refine RN.fin k_ ?_
            refine J.cond (decide ((qv b) < meanN (vals ps) ps.length (qv c) ((L3v + U3) / 2))) k_ (fun c37 => ?_) (fun c37 => ?_)
            · skip
              replace c37 := of_decide_eq_true c37
              have hup := L3.up hK hkb c37
              refine J.regN ?_
              refine RN.bat [some 0, some 2] [8, 11, 12, 13, 14] [b21, b21, b21, b35, b35, b35] (k' := 2) (l' := [(8, pt b7), (11, .func (.func 56) #[] #[pt b4, pt b5, pt b6]), (12, pt b15), (13, pt b21), (14, pt b27)]) (M' := [(b35, .cells (ratC y34 (encQ ((L3v + U3) / 2))) 27 (0, 0)), (b27, .cells (ratC y26 (encQ (P2 (-bits)))) 27 (0, 0)), (b21, .cells (ratC y34 (encQ ((L3v + U3) / 2))) 27 (0, 0)), (b15, .cells (ratC ho3 (encQ U3)) 27 (0, 0)), (b7, .cells (ivC (⟨saNil, saNil⟩ : RA) (⟨false, ([] : List Nat), ([] : List Nat)⟩ : Raw) (⟨saNil, saNil⟩ : RA) (⟨false, ([] : List Nat), ([] : List Nat)⟩ : Raw)) 38 (0, 0)), (b6, .cells (ratC u b) 27 (0, 0)), (b5, .cells (ratC p c) 27 (0, 0)), (b4, .cells #[sl s ps.length] 22 (0, 0))]) k_ ?_
              refine RN.done k_ ?_
              refine KN.blk ?_
              refine KN.dropF 1 ?_
              refine KN.roundE (2 * a + 1, k + 1, ho3, U3, y34, (L3v + U3) / 2) [8, 11, 12, 13, 14] [4, 0, 6, 7, 8, 9, 10, 11, 12, 13, 14, 15] (l2 := [(8, pt b7), (11, .func (.func 56) #[] #[pt b4, pt b5, pt b6]), (12, pt b15), (13, pt b21), (14, pt b27)]) (by (try dsimp only); omega) (by (try dsimp only); exact hup) k_ (by rfl) (by rfl) (by rfl)
            · skip
              replace c37 := of_decide_eq_false c37
              have hdn := L3.down hK hkb c37
              refine J.regN ?_
              refine RN.bat [some 0, some 3] [8, 11, 12, 13, 14] [b15, b15, b15, b35, b35, b35] (k' := 2) (l' := [(8, pt b7), (11, .func (.func 56) #[] #[pt b4, pt b5, pt b6]), (12, pt b15), (13, pt b21), (14, pt b27)]) (M' := [(b35, .cells (ratC y34 (encQ ((L3v + U3) / 2))) 27 (0, 0)), (b27, .cells (ratC y26 (encQ (P2 (-bits)))) 27 (0, 0)), (b21, .cells (ratC lo3 (encQ L3v)) 27 (0, 0)), (b15, .cells (ratC y34 (encQ ((L3v + U3) / 2))) 27 (0, 0)), (b7, .cells (ivC (⟨saNil, saNil⟩ : RA) (⟨false, ([] : List Nat), ([] : List Nat)⟩ : Raw) (⟨saNil, saNil⟩ : RA) (⟨false, ([] : List Nat), ([] : List Nat)⟩ : Raw)) 38 (0, 0)), (b6, .cells (ratC u b) 27 (0, 0)), (b5, .cells (ratC p c) 27 (0, 0)), (b4, .cells #[sl s ps.length] 22 (0, 0))]) k_ ?_
              refine RN.done k_ ?_
              refine KN.blk ?_
              refine KN.dropF 1 ?_
              refine KN.roundE (2 * a, k + 1, y34, (L3v + U3) / 2, lo3, L3v) [8, 11, 12, 13, 14] [0, 5, 6, 7, 8, 9, 10, 11, 12, 13, 14, 15] (l2 := [(8, pt b7), (11, .func (.func 56) #[] #[pt b4, pt b5, pt b6]), (12, pt b15), (13, pt b21), (14, pt b27)]) (by (try dsimp only); omega) (by (try dsimp only); exact hdn) k_ (by rfl) (by rfl) (by rfl)
          · skip
            replace c32 := of_decide_eq_false c32
            have hdone := L3.done hK hin.t0 hin.t1 (mt cmpQ_gt.2 c32)
            refine J.exit (KX.next (KX.next (KX.hit ?_)))
            refine KN.next ?_
            refine J.sreg ?_
            refine RN.bat [some 1, some 2, none, some 3, none] [8, 9] [b7, b7, b7, b7, b7, b7, b15, b15, b15, b21, b21, b21] (k' := 5) (l' := [(8, pt b7), (9, .int .i64 0)]) (M' := [(b27, .cells (ratC y26 (encQ (P2 (-bits)))) 27 (0, 0)), (b21, .cells (ratC lo3 (encQ L3v)) 27 (0, 0)), (b15, .cells (ratC ho3 (encQ U3)) 27 (0, 0)), (b7, .cells (ivC lo3 (encQ L3v) ho3 (encQ U3)) 38 (0, 0)), (b6, .cells (ratC u b) 27 (0, 0)), (b5, .cells (ratC p c) 27 (0, 0)), (b4, .cells #[sl s ps.length] 22 (0, 0))]) k_ ?_
            refine RN.fin k_ ?_
            have e_1 : (checkE ps.length (qv c) (qv b) bits : Int) = (0 : Int) := by exact he
            refine J.ret (KR.ret (v := .tuple #[.agg (ivC lo3 (encQ L3v) ho3 (encQ U3)), .int .i64 0]) (⟨lo3, ⟨ho3, ⟨(L3v : Rat), (U3 : Rat)⟩⟩⟩) [some 3, none] [3, 2] [b7, b7, b7, b7, b7, b7] k_ v1_ (ScaleR_ok he hnle hdone) v1_)
theorem m19_Scale_c (s : SA) (ps : List PR) (p : RA) (c' : Rat) (u : RA) (b' : Rat) (bits : Int) (hps : ∀ i, i < ps.length → RQ 64 (ps.getD i pr0).2) (hcR : Q 268435456 c') (hbR : Q 268435456 b') (hc : Q 64 c') (hb : Q 64 b') : Spec Tryz.prog 18 #[sl s ps.length, ratV p (encQ c'), ratV u (encQ b'), .int .i64 bits] [fRats s ps, fRat p (encQ c'), fRat u (encQ b')] (ι := RA × RA × Rat × Rat) (fun y => .tuple #[.agg (ivC y.1 (encQ y.2.2.1) y.2.1 (encQ y.2.2.2)), .int .i64 (checkE ps.length c' b' bits)]) (fun y => ScaleR (vals ps) ps.length c' b' bits y.2.2.1 y.2.2.2) (fun y => [fRat y.1 (encQ y.2.2.1), fRat y.2.1 (encQ y.2.2.2)]) := by
  have H := m19_Scale s ps p (encQ c') u (encQ b') bits (by first | exact hps | simpa only [qv_encQ, qv_encQ] using hps) (RQ_enc hcR) (RQ_enc hbR) (by first | exact hc | simpa only [qv_encQ, qv_encQ] using hc) (by first | exact hb | simpa only [qv_encQ, qv_encQ] using hb)
  first | exact H | (simp only [qv_encQ, validQ_encQ] at H; exact H)
end Go.Proofs.YtegnonhgildhoaaGreat.E
/- Plain laws of the scale: order, growth, scaling. -/
namespace Go.Proofs.YtegnonhgildhoaaGreat.E
set_option linter.unusedVariables false
set_option linter.unusedSimpArgs false
end Go.Proofs.YtegnonhgildhoaaGreat.E
namespace Go.Proofs.YtegnonhgildhoaaGreat.E
open Go Go.RowKit
set_option linter.unusedVariables false
set_option linter.unusedSimpArgs false
theorem ScaleR.Q {x : Nat → Rat} {n : Nat} {c b : Rat} {bits : Int} {l h : Rat} (hs : ScaleR x n c b bits l h) : E.Q 2000 l ∧ E.Q 2000 h := by
  unfold ScaleR at hs
  split at hs
  · rw [hs.1, hs.2]; exact ⟨Q.le Q0 (by decide), Q.le Q0 (by decide)⟩
  · exact ⟨hs.qlo, hs.qhi⟩
end Go.Proofs.YtegnonhgildhoaaGreat.E
namespace Go.Proofs.YtegnonhgildhoaaGreat.E
open Go Go.RowKit
set_option linter.unusedVariables false
set_option linter.unusedSimpArgs false
end Go.Proofs.YtegnonhgildhoaaGreat.E
namespace Go.Proofs.YtegnonhgildhoaaGreat.E
open Go Go.RowKit
set_option linter.unusedVariables false
set_option linter.unusedSimpArgs false
theorem sign_eq0 {q : Rat} : Int.sign q.num = 0 ↔ q = 0 := by rw [Int.sign_eq_zero_iff_zero, Rat.num_eq_zero]
def nullB (x : Nat → Rat) (n : Nat) (b : Rat) : Bool := decide (shareN x n ≤ b)
theorem nullB_eq {ps : List PR} {k : Nat} {b : Rat} (h : k = cntN (nzP ps) ps.length) : (!decide (b < ((k : Int) : Rat) / ((((ps.length : Nat) : Int)) : Rat))) = nullB (vals ps) ps.length b := by
  subst h
  unfold nullB
  rw [share_eq]
  rw [Bool.eq_iff_iff]; simp [Rat.not_lt]
theorem y_r19_Null {p : Prop} (h : p := by first | assumption | exact Lb_toL _ | omega | (simp; done) | first | exact Q.le hQ1 (by decide) | exact Q.le hQ2 (by decide) | exact Q.le hQ3 (by decide) | exact Q.le hQ4 (by decide) | exact Q.le hb (by decide) | omega | (simp; omega)) : p := h
theorem r19_Null (s : SA) (ps : List PR) (u : RA) (b : Raw) (hps : ∀ i, i < ps.length → RQ 64 (ps.getD i pr0).2) (hn : ps.length ≤ 1024) (hn0 : 0 < ps.length) (hbR : RQ 268435456 b) (hb : Q 64 (qv b)) : Spec Tryz.prog 36 #[sl s ps.length, ratV u b] [fRats s ps, fRat u b] (ι := Unit) (fun y => .bool (nullB (vals ps) ps.length (qv b))) (fun y => True) (fun y => []) := by
  refine Spec.of_body _ (fn := Tryz.f36) k_ rfl k_ (fun X w0 => ?_)
  refine J.fact (φ := ps.length ≤ 140737488355328) (fun w h => by have := (h _ (.head _)).1; omega) (fun hl1 => ?_)
  refine J.fact (φ := b.mag.length ≤ 140737488355328 ∧ b.den.length ≤ 140737488355328) (fun w h => by have h1 := (h _ (.tail _ ((.head _)))).1.1; have h2 := (h _ (.tail _ ((.head _)))).2.1; omega) (fun hl2 => ?_)
  refine J.sreg ?_
  refine RN.new (fun b => pt b) (.cells (ratC u b) 27 (0, 0)) k_ k_ (fun w => by kernel_rfl) (fun b3 => ?_)
  refine RN.bq (no 1) [0, 3] [] (k' := 2) (l' := [(0, sl s ps.length), (3, pt b3)]) k_ ?_
  refine RN.fin k_ ?_
  refine J.sreg ?_
  refine RN.bq (no 1) [0, 3, 5] [] (k' := 1) (l' := [(0, sl s ps.length), (3, pt b3), (5, .int .i64 0)]) k_ ?_
  refine RN.fin k_ ?_
  refine J.seq ?_
  refine J.sreg ?_
  refine RN.bq (no 1) [0, 3, 5, 6] [] (k' := 1) (l' := [(0, sl s ps.length), (3, pt b3), (5, .int .i64 0), (6, .int .i64 0)]) k_ ?_
  refine RN.fin k_ ?_
  refine J.block ?_
  refine J.loop (ι := (Nat) × (Nat)) (fun x => x.1 ≤ ps.length ∧ x.2 = cntN (nzP ps) x.1) (fun x => ps.length - x.1) (fun x => [(0, sl s ps.length), (3, pt b3), (5, .int .i64 ((x.2 : Nat) : Int)), (6, .int .i64 ((x.1 : Nat) : Int))]) (fun x => [(b3, .cells (ratC u b) 27 (0, 0))]) (fun x => [fRats s ps, fRat u b]) (0, 0) [0, 3, 5, 6] [0, 1] (⟨Nat.zero_le _, rfl⟩) k_ (by first | rfl | (simp only [encQ_zero]; done) | (simp only [encQ_zero]; rfl)) (by rfl) (fun x4 hI => ?_)
  obtain ⟨i, k⟩ := x4
  replace hI : i ≤ ps.length ∧ k = cntN (nzP ps) i := hI
  obtain ⟨hI1, hI2⟩ := hI
  have hkb := cnt_b (nzP ps) i (by omega)
  have hkle := cntN_le (nzP ps) i
  refine J.seq ?_
  refine J.sreg ?_
  refine RN.bq (no 4) [0, 3, 5, 6, 10] [] (k' := 4) (l' := [(0, sl s ps.length), (3, pt b3), (5, .int .i64 ((k : Nat) : Int)), (6, .int .i64 ((i : Nat) : Int)), (10, .bool (decide (((i : Nat) : Int) < ((ps.length : Nat) : Int))))]) k_ ?_
  refine RN.fin k_ ?_
  refine J.cond (decide (((i : Nat) : Int) < ((ps.length : Nat) : Int))) k_ (fun c5 => ?_) (fun c5 => ?_)
  · skip
    replace c5 := of_decide_eq_true c5
    have hxr := hps i (by omega)
    have hxb := hxr.le (by decide : 64 ≤ 268435456)
    refine J.skip ?_
    refine KN.next ?_
    refine J.seq ?_
    refine J.block ?_
    refine J.sreg ?_
    refine RN.bq (no 2) [0, 3, 5, 6, 13, 14] [] (k' := 2) (l' := [(0, sl s ps.length), (3, pt b3), (5, .int .i64 ((k : Nat) : Int)), (6, .int .i64 ((i : Nat) : Int)), (13, sl s ps.length), (14, .int .i64 ((i : Nat) : Int))]) k_ ?_
    refine RN.val _ k_ k_ (q_ridx (t := 22) (x := (.tmp 13)) (ix := (.tmp 14)) (K := .i64) (i0 := ((i : Nat) : Int)) (m := i) (e := 27) 0 rfl k_ k_ k_ k_ k_ (by omega) x_) ?_
    refine RN.val _ k_ k_ (q_rload (T := 27) (x := (.tmp 15)) (m := i) (s := s) (ps := ps) 0 rfl k_ k_ k_ k_ x_) ?_
    refine RN.also (fRat ((ps.getD i pr0).1) ((ps.getD i pr0).2)) (fun w h => rat_of (h _ (.head _)) x_) ?_
    refine RN.call (r03_Sign ((ps.getD i pr0).1) ((ps.getD i pr0).2) y_r19_Null) [0] k_ k_ k_ rfl (fun y6 _ => ?_)
    refine RN.bq (no 1) [0, 3, 5, 6, 18] [] (k' := 6) (l' := [(0, sl s ps.length), (3, pt b3), (5, .int .i64 ((k : Nat) : Int)), (6, .int .i64 ((i : Nat) : Int)), (18, .bool (((Int.sign ((qv ((ps.getD i pr0).2)).num)) : Int) != 0))]) k_ ?_
    refine RN.fin k_ ?_
    refine J.cond (((Int.sign ((qv ((ps.getD i pr0).2)).num)) : Int) != 0) k_ (fun c7 => ?_) (fun c7 => ?_)
    · skip
      replace c7 := bne_iff_ne.1 c7
      refine J.regN ?_
      refine RN.bq (no 2) [0, 3, 6, 20] [] (k' := 2) (l' := [(0, sl s ps.length), (3, pt b3), (6, .int .i64 ((i : Nat) : Int)), (20, .int .i64 (IntKind.i64.wrap (((k : Nat) : Int) + 1)))]) k_ ?_
      rw [show IntKind.i64.wrap (((k : Nat) : Int) + 1) = ((k + 1 : Nat) : Int) from by rw [IntKind.wrap_i64]; omega]
      refine RN.bq (no 1) [0, 3, 5, 6] [] (k' := 3) (l' := [(0, sl s ps.length), (3, pt b3), (5, .int .i64 ((k + 1 : Nat) : Int)), (6, .int .i64 ((i : Nat) : Int))]) k_ ?_
      refine RN.done k_ ?_
      refine KN.blk ?_
      refine KN.next ?_
      refine J.regN ?_
      refine RN.bq (no 2) [0, 3, 5, 12] [] (k' := 2) (l' := [(0, sl s ps.length), (3, pt b3), (5, .int .i64 ((k + 1 : Nat) : Int)), (12, .int .i64 (IntKind.i64.wrap (((i : Nat) : Int) + 1)))]) k_ ?_
      rw [show IntKind.i64.wrap (((i : Nat) : Int) + 1) = ((i + 1 : Nat) : Int) from by rw [IntKind.wrap_i64]; omega]
      refine RN.bq (no 1) [0, 3, 5, 6] [] (k' := 3) (l' := [(0, sl s ps.length), (3, pt b3), (5, .int .i64 ((k + 1 : Nat) : Int)), (6, .int .i64 ((i + 1 : Nat) : Int))]) k_ ?_
      refine RN.done k_ ?_
      refine KN.roundE (i + 1, k + 1) [0, 3, 5, 6] [1, 2] (l2 := [(0, sl s ps.length), (3, pt b3), (5, .int .i64 ((k + 1 : Nat) : Int)), (6, .int .i64 ((i + 1 : Nat) : Int))]) (by (try dsimp only); omega) (by (try dsimp only); exact ⟨by omega, by rw [hI2]; exact cnt_y ‹_›⟩) k_ (by rfl) (by rfl) (by rfl)
    · skip
      replace c7 := bne_eq_false_iff_eq.1 c7
      refine J.skip ?_
      refine KN.blk ?_
      refine KN.next ?_
      refine J.regN ?_
      refine RN.bq (no 2) [0, 3, 5, 12] [] (k' := 2) (l' := [(0, sl s ps.length), (3, pt b3), (5, .int .i64 ((k : Nat) : Int)), (12, .int .i64 (IntKind.i64.wrap (((i : Nat) : Int) + 1)))]) k_ ?_
      rw [show IntKind.i64.wrap (((i : Nat) : Int) + 1) = ((i + 1 : Nat) : Int) from by rw [IntKind.wrap_i64]; omega]
      refine RN.bq (no 1) [0, 3, 5, 6] [] (k' := 3) (l' := [(0, sl s ps.length), (3, pt b3), (5, .int .i64 ((k : Nat) : Int)), (6, .int .i64 ((i + 1 : Nat) : Int))]) k_ ?_
      refine RN.done k_ ?_
      refine KN.roundE (i + 1, k) [0, 3, 5, 6] [1, 2] (l2 := [(0, sl s ps.length), (3, pt b3), (5, .int .i64 ((k : Nat) : Int)), (6, .int .i64 ((i + 1 : Nat) : Int))]) (by (try dsimp only); omega) (by (try dsimp only); exact ⟨by omega, by rw [hI2]; exact cnt_n ‹_›⟩) k_ (by rfl) (by rfl) (by rfl)
  · skip
    replace c5 := of_decide_eq_false c5
    have hi : i = ps.length := by omega
    subst hi
    have hQ1 := Q_int (v := ((k : Nat) : Int)) (by omega)
    have hQ2 := Q_int (v := ((ps.length : Nat) : Int)) (by omega)
    have hQ3 := hQ1.div hQ2
    have hQ4 := hb.sub hQ3
    refine J.exit (KX.next (KX.next (KX.hit ?_)))
    refine KN.next ?_
    refine J.seq ?_
    refine J.regD k_ [] ?_
    refine RD.bat k_ [(0, some 0), (1, none), (2, none), (3, none)] [21, 22, 24] [b3, b3, b3] (L' := [3, 2, 1, 0]) (l' := [(21, ratV u b), (22, .int .i64 ((k : Nat) : Int)), (24, .int .i64 ((ps.length : Nat) : Int))]) k_ ?_
    refine RD.call (i := 4) (r03_Fraction ((k : Nat) : Int) ((ps.length : Nat) : Int) y_r19_Null y_r19_Null y_r19_Null y_r19_Null y_r19_Null) [] k_ k_ k_ k_ k_ rfl (fun y8 _ => ?_)
    refine RD.call (i := 5) (r03_Less_c2 u b y8 (((((k : Nat) : Int) : Int) : Rat) / ((((ps.length : Nat) : Int) : Int) : Rat)) y_r19_Null y_r19_Null y_r19_Null) [2, 0] k_ k_ k_ k_ k_ rfl (fun y9 _ => ?_)
    refine RD.bat k_ [(6, none), (7, none)] [4] [] (L' := [7, 6, 5, 4, 3, 2, 1, 0]) (l' := [(4, .bool (!(decide ((qv b) < (((((k : Nat) : Int) : Int) : Rat) / ((((ps.length : Nat) : Int) : Int) : Rat))))))]) k_ ?_
    refine RD.done k_ ?_
    refine KN.next ?_
    have e_1 : (nullB (vals ps) ps.length (qv b)) = (!(decide ((qv b) < (((((k : Nat) : Int) : Int) : Rat) / ((((ps.length : Nat) : Int) : Int) : Rat))))) := by exact (nullB_eq hI2).symm
    refine J.ret (KR.ret (v := .bool (!(decide ((qv b) < (((((k : Nat) : Int) : Int) : Rat) / ((((ps.length : Nat) : Int) : Int) : Rat)))))) (()) [none] [] [] k_ v1_ (trivial) v1_)
theorem r19_Null_c (s : SA) (ps : List PR) (u : RA) (b' : Rat) (hps : ∀ i, i < ps.length → RQ 64 (ps.getD i pr0).2) (hn : ps.length ≤ 1024) (hn0 : 0 < ps.length) (hbR : Q 268435456 b') (hb : Q 64 b') : Spec Tryz.prog 36 #[sl s ps.length, ratV u (encQ b')] [fRats s ps, fRat u (encQ b')] (ι := Unit) (fun y => .bool (nullB (vals ps) ps.length b')) (fun y => True) (fun y => []) := by
  have H := r19_Null s ps u (encQ b') (by first | exact hps | simpa only [qv_encQ] using hps) (by first | exact hn | simpa only [qv_encQ] using hn) (by first | exact hn0 | simpa only [qv_encQ] using hn0) (RQ_enc hbR) (by first | exact hb | simpa only [qv_encQ] using hb)
  first | exact H | (simp only [qv_encQ, validQ_encQ] at H; exact H)
end Go.Proofs.YtegnonhgildhoaaGreat.E
namespace Go.Proofs.YtegnonhgildhoaaGreat.E
open Go Go.RowKit
set_option linter.unusedVariables false
set_option linter.unusedSimpArgs false
theorem hps_nil {k : Nat} : ∀ i, i < ([] : List PR).length → RQ k (([] : List PR).getD i pr0).2 := fun i h => absurd h (Nat.not_lt_zero _)
theorem hps_cons {k : Nat} {p : PR} {ps : List PR} (h : RQ k p.2) (t : ∀ i, i < ps.length → RQ k (ps.getD i pr0).2) : ∀ i, i < (p :: ps).length → RQ k ((p :: ps).getD i pr0).2
  | 0, _ => h
  | i + 1, hi => t i (by simpa using hi)
theorem Q_dec {k : Nat} {q : Rat} (h : (decide (q.num.natAbs < W ^ k) && decide (q.den < W ^ k)) = true) : Q k q := by
  simp only [Bool.and_eq_true, decide_eq_true_eq] at h
  exact Q_iff.2 h
theorem aw_e : meanE 2 ((1 : Int) : Rat) ((2 : Int) : Rat) = 0 := by decide +kernel
theorem aw_m (p1 p2 : RA) : meanV [(p1, encQ ((1 : Int) : Rat)), (p2, encQ (((-1) : Int) : Rat))] ((1 : Int) : Rat) ((2 : Int) : Rat) = ((7 : Int) : Rat) / ((8 : Int) : Rat) := by
  unfold meanV
  rw [if_pos (show meanE [(p1, encQ ((1 : Int) : Rat)), (p2, encQ (((-1) : Int) : Rat))].length ((1 : Int) : Rat) ((2 : Int) : Rat) = 0 from aw_e)]
  show (0 + meanT ((1 : Int) : Rat) ((2 : Int) : Rat) (qv (encQ ((1 : Int) : Rat))) + meanT ((1 : Int) : Rat) ((2 : Int) : Rat) (qv (encQ (((-1) : Int) : Rat)))) / (((2 : Nat) : Int) : Rat) = _
  rw [qv_encQ, qv_encQ]
  decide +kernel
theorem aw_c : checkE 4 ((1 : Int) : Rat) (((1 : Int) : Rat) / ((4 : Int) : Rat)) 3 = 0 := by decide +kernel
theorem aw_s (p1 p2 p3 p4 : RA) (b : Rat) (hb : b = ((1 : Int) : Rat) / ((4 : Int) : Rat)) : shareN (vals [(p1, ⟨false, [], []⟩), (p2, ⟨false, [], []⟩), (p3, ⟨false, [], []⟩), (p4, encQ ((5 : Int) : Rat))]) 4 ≤ b := by
  subst hb
  have h : ∀ i, i < 4 → vals [(p1, ⟨false, [], []⟩), (p2, ⟨false, [], []⟩), (p3, ⟨false, [], []⟩), (p4, encQ ((5 : Int) : Rat))] i = (if i = 3 then ((5 : Int) : Rat) else 0) := by
    intro i hi
    have z : qv ⟨false, [], []⟩ = 0 := by rw [← encQ_zero, qv_encQ]
    match i, hi with
    | 0, _ => exact z
    | 1, _ => exact z
    | 2, _ => exact z
    | 3, _ => exact qv_encQ _
  unfold shareN
  rw [cntN_sum, sumN_congr (g := fun i => if i = 3 then 1 else 0)]
  · decide +kernel
  · intro i hi
    show (if decide (vals _ i ≠ 0) = true then (1 : Rat) else 0) = _
    rw [h i hi]
    match i, hi with
    | 0, _ => rfl
    | 1, _ => rfl
    | 2, _ => rfl
    | 3, _ => rfl
theorem aw_r : rhoQ (((1 : Int) : Rat) / ((2 : Int) : Rat)) = ((7 : Int) : Rat) / ((8 : Int) : Rat) := by decide +kernel
theorem aw_i {x : Nat → Rat} {n : Nat} {c b : Rat} {bits : Int} {lo hi : Rat} (h : ScaleR x n c b bits lo hi) (hs : shareN x n ≤ b) : encQ lo = ⟨false, [], []⟩ ∧ encQ hi = ⟨false, [], []⟩ := by
  unfold ScaleR at h
  rw [if_pos (.inr hs)] at h
  rw [h.1, h.2, encQ_zero]; exact ⟨rfl, rfl⟩
theorem y_l19_awake {p : Prop} (h : p := by first | assumption | exact Lb_toL _ | omega | (simp; done) | first | exact Q.le (Q_int (by decide)) (by decide) | exact RQ_enc (Q.le (Q_int (by decide)) (by decide)) | exact Q.le (Q_dec (k := 2) (by decide +kernel)) (by decide) | exact RQ_enc (Q.le (Q_dec (k := 2) (by decide +kernel)) (by decide)) | ((repeat' (first | exact hps_nil | refine hps_cons ?_ ?_ | exact RQ_enc (Q.le (Q_int (by decide)) (by decide)) | (rw [← encQ_zero]; exact RQ_enc (Q_0 (by decide))))); done)) : p := h
theorem l19_awake : Spec Tryz.prog 12 #[] [] (ι := Unit) (fun y => .bool true) (fun y => True) (fun y => []) := by
  refine Spec.of_body _ (fn := Tryz.f12) k_ rfl k_ (fun X w0 => ?_)
  refine J.sreg ?_
  refine RN.bq (no 1) [] [] (k' := 1) (l' := []) k_ ?_
  refine RN.fin k_ ?_
  refine J.sreg ?_
  refine RN.call (r03_FromInt 1 y_l19_awake y_l19_awake) [] k_ k_ k_ rfl (fun y1 _ => ?_)
  refine RN.new (fun b => pt b) (.cells (ratC (⟨saNil, saNil⟩ : RA) (⟨false, ([] : List Nat), ([] : List Nat)⟩ : Raw)) 27 (0, 0)) k_ k_ (fun w => by kernel_rfl) (fun b2 => ?_)
  refine RN.bat [some 0] [1] [b2, b2, b2] (k' := 3) (l' := [(1, pt b2)]) (M' := [(b2, .cells (ratC y1 (encQ ((1 : Int) : Rat))) 27 (0, 0))]) k_ ?_
  refine RN.fin k_ ?_
  refine J.seqC (ι := (RA) × (Nat) × (RA) × (RA) × (Nat)) (fun x => True) (fun x => [(1, pt b2), (2, .pointer (some ⟨x.2.2.2.2, 0, none⟩)), (3, .int .i64 (meanE ([(y1, (encQ ((1 : Int) : Rat))), (x.1, (encQ (((-1) : Int) : Rat)))] : List PR).length ((1 : Int) : Rat) ((2 : Int) : Rat)))]) (fun x => [(x.2.2.2.2, .cells (ratC x.2.2.2.1 (encQ (meanV ([(y1, (encQ ((1 : Int) : Rat))), (x.1, (encQ (((-1) : Int) : Rat)))] : List PR) ((1 : Int) : Rat) ((2 : Int) : Rat)))) 27 (0, 0)), (b2, .cells (ratC y1 (encQ ((1 : Int) : Rat))) 27 (0, 0))]) (fun x => [fRat x.2.2.2.1 (encQ (meanV ([(y1, (encQ ((1 : Int) : Rat))), (x.1, (encQ (((-1) : Int) : Rat)))] : List PR) ((1 : Int) : Rat) ((2 : Int) : Rat))), fRats (⟨some ⟨x.2.1, 0, none⟩, 2⟩ : SA) ([(y1, (encQ ((1 : Int) : Rat))), (x.1, (encQ (((-1) : Int) : Rat)))] : List PR), allRat ([(y1, (encQ ((1 : Int) : Rat))), (x.1, (encQ (((-1) : Int) : Rat)))] : List PR), fBlk x.2.1 (.cells (encR ([(y1, (encQ ((1 : Int) : Rat))), (x.1, (encQ (((-1) : Int) : Rat)))] : List PR)) 27 (0, 0)), fRat x.2.2.1 (encQ ((2 : Int) : Rat)), fRat x.1 (encQ (((-1) : Int) : Rat)), fRat y1 (encQ ((1 : Int) : Rat))]) ?_ ?_
  · skip
    refine J.regD k_ [10] ?_
    refine RD.bat k_ [(0, some 0), (3, some 0)] [1, 8, 11] [b2, b2, b2, b2, b2, b2] (L' := [3, 0]) (l' := [(1, pt b2), (8, ratV y1 (encQ ((1 : Int) : Rat))), (11, ratV y1 (encQ ((1 : Int) : Rat)))]) k_ ?_
    refine RD.forkL (is := [1, 9]) k_ rfl k_ ⟨?_, ?_, trivial⟩
    · skip
      refine RDi.call (i := 1) (r03_FromInt (-1) y_l19_awake y_l19_awake) [] k_ k_ k_ k_ rfl (fun y3 _ => ?_)
      refine RD.forkL (is := [2, 4, 9]) k_ rfl k_ ⟨?_, ?_, ?_, trivial⟩
      · skip
        refine RDi.new (i := 2) (fun b => .slice (some ⟨b, 0, none⟩) 2 2) (.cells (encR ([(y1, (encQ ((1 : Int) : Rat))), (y3, (encQ (((-1) : Int) : Rat)))] : List PR)) 27 (0, 0)) k_ k_ k_ (fun w => by kernel_rfl) (fun b4 => ?_)
        refine RD.forkL (is := [4, 9]) k_ rfl k_ ⟨?_, ?_, trivial⟩
        · skip
          refine RDi.call (i := 4) (r03_FromInt 2 y_l19_awake y_l19_awake) [] k_ k_ k_ k_ rfl (fun y5 _ => ?_)
          refine RD.share 0 rfl rfl k_ ?_
          refine RD.also (allRat ([(y1, (encQ ((1 : Int) : Rat))), (y3, (encQ (((-1) : Int) : Rat)))] : List PR)) (fun w h => allRat_cons (h _ (.tail _ ((.tail _ ((.tail _ ((.head _)))))))) (allRat_cons (h _ (.tail _ ((.tail _ ((.head _)))))) (allRat_nil _))) k_ ?_
          refine RD.also (fRats (⟨some ⟨b4, 0, none⟩, 2⟩ : SA) ([(y1, (encQ ((1 : Int) : Rat))), (y3, (encQ (((-1) : Int) : Rat)))] : List PR)) (fun w h => fRats_own (h _ (.tail _ ((.head _)))) (h _ (.head _)) x_ x_) k_ ?_
          refine RD.turn 10 (v := .slice (some ⟨b4, 0, none⟩) 2 2) (v' := sl (⟨some ⟨b4, 0, none⟩, 2⟩ : SA) ([(y1, (encQ ((1 : Int) : Rat))), (y3, (encQ (((-1) : Int) : Rat)))] : List PR).length) k_ (sl_eq x_) ?_
          refine RD.forkL (is := [5, 9]) k_ rfl k_ ⟨?_, ?_, trivial⟩
          · skip
            refine RDi.call (i := 5) (m19_Mean_c (⟨some ⟨b4, 0, none⟩, 2⟩ : SA) ([(y1, (encQ ((1 : Int) : Rat))), (y3, (encQ (((-1) : Int) : Rat)))] : List PR) y1 ((1 : Int) : Rat) y5 ((2 : Int) : Rat) y_l19_awake y_l19_awake y_l19_awake y_l19_awake y_l19_awake) [0, 5, 3] k_ k_ k_ k_ rfl (fun y6 _ => ?_)
            refine RD.bat k_ [(6, none), (7, none), (8, none)] [1, 14, 15] [] (L' := [8, 7, 6, 5, 4, 2, 1, 3, 0]) (l' := [(1, pt b2), (14, ratV y6 (encQ (meanV ([(y1, (encQ ((1 : Int) : Rat))), (y3, (encQ (((-1) : Int) : Rat)))] : List PR) ((1 : Int) : Rat) ((2 : Int) : Rat)))), (15, .int .i64 (meanE ([(y1, (encQ ((1 : Int) : Rat))), (y3, (encQ (((-1) : Int) : Rat)))] : List PR).length ((1 : Int) : Rat) ((2 : Int) : Rat)))]) k_ ?_
            refine RD.new (i := 9) (fun b => pt b) (.cells (ratC (⟨saNil, saNil⟩ : RA) (⟨false, ([] : List Nat), ([] : List Nat)⟩ : Raw)) 27 (0, 0)) k_ k_ k_ k_ (fun w => by kernel_rfl) (fun b7 => ?_)
            refine RD.last (i := 10) (some 0) [1, 2, 15] [b7, b7, b7] k_ k_ k_ (l' := [(1, pt b2), (2, pt b7), (15, .int .i64 (meanE ([(y1, (encQ ((1 : Int) : Rat))), (y3, (encQ (((-1) : Int) : Rat)))] : List PR).length ((1 : Int) : Rat) ((2 : Int) : Rat)))]) (M' := [(b7, .cells (ratC y6 (encQ (meanV ([(y1, (encQ ((1 : Int) : Rat))), (y3, (encQ (((-1) : Int) : Rat)))] : List PR) ((1 : Int) : Rat) ((2 : Int) : Rat)))) 27 (0, 0)), (b2, .cells (ratC y1 (encQ ((1 : Int) : Rat))) 27 (0, 0))]) k_ ?_
            refine RD.bat k_ [(11, none)] [1, 2, 3] [] (L' := [11, 10, 9, 8, 7, 6, 5, 4, 2, 1, 3, 0]) (l' := [(1, pt b2), (2, pt b7), (3, .int .i64 (meanE ([(y1, (encQ ((1 : Int) : Rat))), (y3, (encQ (((-1) : Int) : Rat)))] : List PR).length ((1 : Int) : Rat) ((2 : Int) : Rat)))]) k_ ?_
            refine RD.done k_ ?_
            refine KN.meet (y3, b4, y5, y6, b7) [1, 2, 3] [0, 1, 2, 3, 4, 5, 6] (l2 := [(1, pt b2), (2, pt b7), (3, .int .i64 (meanE ([(y1, (encQ ((1 : Int) : Rat))), (y3, (encQ (((-1) : Int) : Rat)))] : List PR).length ((1 : Int) : Rat) ((2 : Int) : Rat)))]) (by exact trivial) k_ (by rfl) (by rfl) (by rfl)
          · skip
            refine RDi.new (i := 9) (fun b => pt b) (.cells (ratC (⟨saNil, saNil⟩ : RA) (⟨false, ([] : List Nat), ([] : List Nat)⟩ : Raw)) 27 (0, 0)) k_ k_ k_ (fun w => by kernel_rfl) (fun b8 => ?_)
            refine RD.call (i := 5) (m19_Mean_c (⟨some ⟨b4, 0, none⟩, 2⟩ : SA) ([(y1, (encQ ((1 : Int) : Rat))), (y3, (encQ (((-1) : Int) : Rat)))] : List PR) y1 ((1 : Int) : Rat) y5 ((2 : Int) : Rat) y_l19_awake y_l19_awake y_l19_awake y_l19_awake y_l19_awake) [0, 5, 3] k_ k_ k_ k_ k_ rfl (fun y9 _ => ?_)
            refine RD.bat k_ [(6, none), (7, none), (8, none)] [1, 2, 14, 15] [] (L' := [8, 7, 6, 5, 9, 4, 2, 1, 3, 0]) (l' := [(1, pt b2), (2, pt b8), (14, ratV y9 (encQ (meanV ([(y1, (encQ ((1 : Int) : Rat))), (y3, (encQ (((-1) : Int) : Rat)))] : List PR) ((1 : Int) : Rat) ((2 : Int) : Rat)))), (15, .int .i64 (meanE ([(y1, (encQ ((1 : Int) : Rat))), (y3, (encQ (((-1) : Int) : Rat)))] : List PR).length ((1 : Int) : Rat) ((2 : Int) : Rat)))]) k_ ?_
            refine RD.last (i := 10) (some 0) [1, 2, 15] [b8, b8, b8] k_ k_ k_ (l' := [(1, pt b2), (2, pt b8), (15, .int .i64 (meanE ([(y1, (encQ ((1 : Int) : Rat))), (y3, (encQ (((-1) : Int) : Rat)))] : List PR).length ((1 : Int) : Rat) ((2 : Int) : Rat)))]) (M' := [(b8, .cells (ratC y9 (encQ (meanV ([(y1, (encQ ((1 : Int) : Rat))), (y3, (encQ (((-1) : Int) : Rat)))] : List PR) ((1 : Int) : Rat) ((2 : Int) : Rat)))) 27 (0, 0)), (b2, .cells (ratC y1 (encQ ((1 : Int) : Rat))) 27 (0, 0))]) k_ ?_
            refine RD.bat k_ [(11, none)] [1, 2, 3] [] (L' := [11, 10, 8, 7, 6, 5, 9, 4, 2, 1, 3, 0]) (l' := [(1, pt b2), (2, pt b8), (3, .int .i64 (meanE ([(y1, (encQ ((1 : Int) : Rat))), (y3, (encQ (((-1) : Int) : Rat)))] : List PR).length ((1 : Int) : Rat) ((2 : Int) : Rat)))]) k_ ?_
            refine RD.done k_ ?_
            refine KN.meet (y3, b4, y5, y9, b8) [1, 2, 3] [0, 1, 2, 3, 4, 5, 6] (l2 := [(1, pt b2), (2, pt b8), (3, .int .i64 (meanE ([(y1, (encQ ((1 : Int) : Rat))), (y3, (encQ (((-1) : Int) : Rat)))] : List PR).length ((1 : Int) : Rat) ((2 : Int) : Rat)))]) (by exact trivial) k_ (by rfl) (by rfl) (by rfl)
        · skip
          refine RDi.new (i := 9) (fun b => pt b) (.cells (ratC (⟨saNil, saNil⟩ : RA) (⟨false, ([] : List Nat), ([] : List Nat)⟩ : Raw)) 27 (0, 0)) k_ k_ k_ (fun w => by kernel_rfl) (fun b10 => ?_)
          refine RD.call (i := 4) (r03_FromInt 2 y_l19_awake y_l19_awake) [] k_ k_ k_ k_ k_ rfl (fun y11 _ => ?_)
          refine RD.share 1 rfl rfl k_ ?_
          refine RD.also (allRat ([(y1, (encQ ((1 : Int) : Rat))), (y3, (encQ (((-1) : Int) : Rat)))] : List PR)) (fun w h => allRat_cons (h _ (.tail _ ((.tail _ ((.tail _ ((.head _)))))))) (allRat_cons (h _ (.tail _ ((.tail _ ((.head _)))))) (allRat_nil _))) k_ ?_
          refine RD.also (fRats (⟨some ⟨b4, 0, none⟩, 2⟩ : SA) ([(y1, (encQ ((1 : Int) : Rat))), (y3, (encQ (((-1) : Int) : Rat)))] : List PR)) (fun w h => fRats_own (h _ (.tail _ ((.head _)))) (h _ (.head _)) x_ x_) k_ ?_
          refine RD.turn 10 (v := .slice (some ⟨b4, 0, none⟩) 2 2) (v' := sl (⟨some ⟨b4, 0, none⟩, 2⟩ : SA) ([(y1, (encQ ((1 : Int) : Rat))), (y3, (encQ (((-1) : Int) : Rat)))] : List PR).length) k_ (sl_eq x_) ?_
          refine RD.call (i := 5) (m19_Mean_c (⟨some ⟨b4, 0, none⟩, 2⟩ : SA) ([(y1, (encQ ((1 : Int) : Rat))), (y3, (encQ (((-1) : Int) : Rat)))] : List PR) y1 ((1 : Int) : Rat) y11 ((2 : Int) : Rat) y_l19_awake y_l19_awake y_l19_awake y_l19_awake y_l19_awake) [0, 5, 3] k_ k_ k_ k_ k_ rfl (fun y12 _ => ?_)
          refine RD.bat k_ [(6, none), (7, none), (8, none)] [1, 2, 14, 15] [] (L' := [8, 7, 6, 5, 4, 9, 2, 1, 3, 0]) (l' := [(1, pt b2), (2, pt b10), (14, ratV y12 (encQ (meanV ([(y1, (encQ ((1 : Int) : Rat))), (y3, (encQ (((-1) : Int) : Rat)))] : List PR) ((1 : Int) : Rat) ((2 : Int) : Rat)))), (15, .int .i64 (meanE ([(y1, (encQ ((1 : Int) : Rat))), (y3, (encQ (((-1) : Int) : Rat)))] : List PR).length ((1 : Int) : Rat) ((2 : Int) : Rat)))]) k_ ?_
          refine RD.last (i := 10) (some 0) [1, 2, 15] [b10, b10, b10] k_ k_ k_ (l' := [(1, pt b2), (2, pt b10), (15, .int .i64 (meanE ([(y1, (encQ ((1 : Int) : Rat))), (y3, (encQ (((-1) : Int) : Rat)))] : List PR).length ((1 : Int) : Rat) ((2 : Int) : Rat)))]) (M' := [(b10, .cells (ratC y12 (encQ (meanV ([(y1, (encQ ((1 : Int) : Rat))), (y3, (encQ (((-1) : Int) : Rat)))] : List PR) ((1 : Int) : Rat) ((2 : Int) : Rat)))) 27 (0, 0)), (b2, .cells (ratC y1 (encQ ((1 : Int) : Rat))) 27 (0, 0))]) k_ ?_
          refine RD.bat k_ [(11, none)] [1, 2, 3] [] (L' := [11, 10, 8, 7, 6, 5, 4, 9, 2, 1, 3, 0]) (l' := [(1, pt b2), (2, pt b10), (3, .int .i64 (meanE ([(y1, (encQ ((1 : Int) : Rat))), (y3, (encQ (((-1) : Int) : Rat)))] : List PR).length ((1 : Int) : Rat) ((2 : Int) : Rat)))]) k_ ?_
          refine RD.done k_ ?_
          refine KN.meet (y3, b4, y11, y12, b10) [1, 2, 3] [0, 1, 2, 3, 4, 5, 6] (l2 := [(1, pt b2), (2, pt b10), (3, .int .i64 (meanE ([(y1, (encQ ((1 : Int) : Rat))), (y3, (encQ (((-1) : Int) : Rat)))] : List PR).length ((1 : Int) : Rat) ((2 : Int) : Rat)))]) (by exact trivial) k_ (by rfl) (by rfl) (by rfl)
      · skip
        refine RDi.call (i := 4) (r03_FromInt 2 y_l19_awake y_l19_awake) [] k_ k_ k_ k_ rfl (fun y13 _ => ?_)
        refine RD.forkL (is := [2, 9]) k_ rfl k_ ⟨?_, ?_, trivial⟩
        · skip
          refine RDi.new (i := 2) (fun b => .slice (some ⟨b, 0, none⟩) 2 2) (.cells (encR ([(y1, (encQ ((1 : Int) : Rat))), (y3, (encQ (((-1) : Int) : Rat)))] : List PR)) 27 (0, 0)) k_ k_ k_ (fun w => by kernel_rfl) (fun b14 => ?_)
          refine RD.share 0 rfl rfl k_ ?_
          refine RD.also (allRat ([(y1, (encQ ((1 : Int) : Rat))), (y3, (encQ (((-1) : Int) : Rat)))] : List PR)) (fun w h => allRat_cons (h _ (.tail _ ((.tail _ ((.tail _ ((.head _)))))))) (allRat_cons (h _ (.tail _ ((.tail _ ((.head _)))))) (allRat_nil _))) k_ ?_
          refine RD.also (fRats (⟨some ⟨b14, 0, none⟩, 2⟩ : SA) ([(y1, (encQ ((1 : Int) : Rat))), (y3, (encQ (((-1) : Int) : Rat)))] : List PR)) (fun w h => fRats_own (h _ (.tail _ ((.head _)))) (h _ (.head _)) x_ x_) k_ ?_
          refine RD.turn 10 (v := .slice (some ⟨b14, 0, none⟩) 2 2) (v' := sl (⟨some ⟨b14, 0, none⟩, 2⟩ : SA) ([(y1, (encQ ((1 : Int) : Rat))), (y3, (encQ (((-1) : Int) : Rat)))] : List PR).length) k_ (sl_eq x_) ?_
          refine RD.forkL (is := [5, 9]) k_ rfl k_ ⟨?_, ?_, trivial⟩
          · skip
            refine RDi.call (i := 5) (m19_Mean_c (⟨some ⟨b14, 0, none⟩, 2⟩ : SA) ([(y1, (encQ ((1 : Int) : Rat))), (y3, (encQ (((-1) : Int) : Rat)))] : List PR) y1 ((1 : Int) : Rat) y13 ((2 : Int) : Rat) y_l19_awake y_l19_awake y_l19_awake y_l19_awake y_l19_awake) [0, 5, 3] k_ k_ k_ k_ rfl (fun y15 _ => ?_)
            refine RD.bat k_ [(6, none), (7, none), (8, none)] [1, 14, 15] [] (L' := [8, 7, 6, 5, 2, 4, 1, 3, 0]) (l' := [(1, pt b2), (14, ratV y15 (encQ (meanV ([(y1, (encQ ((1 : Int) : Rat))), (y3, (encQ (((-1) : Int) : Rat)))] : List PR) ((1 : Int) : Rat) ((2 : Int) : Rat)))), (15, .int .i64 (meanE ([(y1, (encQ ((1 : Int) : Rat))), (y3, (encQ (((-1) : Int) : Rat)))] : List PR).length ((1 : Int) : Rat) ((2 : Int) : Rat)))]) k_ ?_
            refine RD.new (i := 9) (fun b => pt b) (.cells (ratC (⟨saNil, saNil⟩ : RA) (⟨false, ([] : List Nat), ([] : List Nat)⟩ : Raw)) 27 (0, 0)) k_ k_ k_ k_ (fun w => by kernel_rfl) (fun b16 => ?_)
            refine RD.last (i := 10) (some 0) [1, 2, 15] [b16, b16, b16] k_ k_ k_ (l' := [(1, pt b2), (2, pt b16), (15, .int .i64 (meanE ([(y1, (encQ ((1 : Int) : Rat))), (y3, (encQ (((-1) : Int) : Rat)))] : List PR).length ((1 : Int) : Rat) ((2 : Int) : Rat)))]) (M' := [(b16, .cells (ratC y15 (encQ (meanV ([(y1, (encQ ((1 : Int) : Rat))), (y3, (encQ (((-1) : Int) : Rat)))] : List PR) ((1 : Int) : Rat) ((2 : Int) : Rat)))) 27 (0, 0)), (b2, .cells (ratC y1 (encQ ((1 : Int) : Rat))) 27 (0, 0))]) k_ ?_
            refine RD.bat k_ [(11, none)] [1, 2, 3] [] (L' := [11, 10, 9, 8, 7, 6, 5, 2, 4, 1, 3, 0]) (l' := [(1, pt b2), (2, pt b16), (3, .int .i64 (meanE ([(y1, (encQ ((1 : Int) : Rat))), (y3, (encQ (((-1) : Int) : Rat)))] : List PR).length ((1 : Int) : Rat) ((2 : Int) : Rat)))]) k_ ?_
            refine RD.done k_ ?_
            refine KN.meet (y3, b14, y13, y15, b16) [1, 2, 3] [0, 1, 2, 3, 4, 5, 6] (l2 := [(1, pt b2), (2, pt b16), (3, .int .i64 (meanE ([(y1, (encQ ((1 : Int) : Rat))), (y3, (encQ (((-1) : Int) : Rat)))] : List PR).length ((1 : Int) : Rat) ((2 : Int) : Rat)))]) (by exact trivial) k_ (by rfl) (by rfl) (by rfl)
          · skip
            refine RDi.new (i := 9) (fun b => pt b) (.cells (ratC (⟨saNil, saNil⟩ : RA) (⟨false, ([] : List Nat), ([] : List Nat)⟩ : Raw)) 27 (0, 0)) k_ k_ k_ (fun w => by kernel_rfl) (fun b17 => ?_)
            refine RD.call (i := 5) (m19_Mean_c (⟨some ⟨b14, 0, none⟩, 2⟩ : SA) ([(y1, (encQ ((1 : Int) : Rat))), (y3, (encQ (((-1) : Int) : Rat)))] : List PR) y1 ((1 : Int) : Rat) y13 ((2 : Int) : Rat) y_l19_awake y_l19_awake y_l19_awake y_l19_awake y_l19_awake) [0, 5, 3] k_ k_ k_ k_ k_ rfl (fun y18 _ => ?_)
            refine RD.bat k_ [(6, none), (7, none), (8, none)] [1, 2, 14, 15] [] (L' := [8, 7, 6, 5, 9, 2, 4, 1, 3, 0]) (l' := [(1, pt b2), (2, pt b17), (14, ratV y18 (encQ (meanV ([(y1, (encQ ((1 : Int) : Rat))), (y3, (encQ (((-1) : Int) : Rat)))] : List PR) ((1 : Int) : Rat) ((2 : Int) : Rat)))), (15, .int .i64 (meanE ([(y1, (encQ ((1 : Int) : Rat))), (y3, (encQ (((-1) : Int) : Rat)))] : List PR).length ((1 : Int) : Rat) ((2 : Int) : Rat)))]) k_ ?_
            refine RD.last (i := 10) (some 0) [1, 2, 15] [b17, b17, b17] k_ k_ k_ (l' := [(1, pt b2), (2, pt b17), (15, .int .i64 (meanE ([(y1, (encQ ((1 : Int) : Rat))), (y3, (encQ (((-1) : Int) : Rat)))] : List PR).length ((1 : Int) : Rat) ((2 : Int) : Rat)))]) (M' := [(b17, .cells (ratC y18 (encQ (meanV ([(y1, (encQ ((1 : Int) : Rat))), (y3, (encQ (((-1) : Int) : Rat)))] : List PR) ((1 : Int) : Rat) ((2 : Int) : Rat)))) 27 (0, 0)), (b2, .cells (ratC y1 (encQ ((1 : Int) : Rat))) 27 (0, 0))]) k_ ?_
            refine RD.bat k_ [(11, none)] [1, 2, 3] [] (L' := [11, 10, 8, 7, 6, 5, 9, 2, 4, 1, 3, 0]) (l' := [(1, pt b2), (2, pt b17), (3, .int .i64 (meanE ([(y1, (encQ ((1 : Int) : Rat))), (y3, (encQ (((-1) : Int) : Rat)))] : List PR).length ((1 : Int) : Rat) ((2 : Int) : Rat)))]) k_ ?_
            refine RD.done k_ ?_
            refine KN.meet (y3, b14, y13, y18, b17) [1, 2, 3] [0, 1, 2, 3, 4, 5, 6] (l2 := [(1, pt b2), (2, pt b17), (3, .int .i64 (meanE ([(y1, (encQ ((1 : Int) : Rat))), (y3, (encQ (((-1) : Int) : Rat)))] : List PR).length ((1 : Int) : Rat) ((2 : Int) : Rat)))]) (by exact trivial) k_ (by rfl) (by rfl) (by rfl)
        · skip
          refine RDi.new (i := 9) (fun b => pt b) (.cells (ratC (⟨saNil, saNil⟩ : RA) (⟨false, ([] : List Nat), ([] : List Nat)⟩ : Raw)) 27 (0, 0)) k_ k_ k_ (fun w => by kernel_rfl) (fun b19 => ?_)
          refine RD.new (i := 2) (fun b => .slice (some ⟨b, 0, none⟩) 2 2) (.cells (encR ([(y1, (encQ ((1 : Int) : Rat))), (y3, (encQ (((-1) : Int) : Rat)))] : List PR)) 27 (0, 0)) k_ k_ k_ k_ (fun w => by kernel_rfl) (fun b20 => ?_)
          refine RD.share 0 rfl rfl k_ ?_
          refine RD.also (allRat ([(y1, (encQ ((1 : Int) : Rat))), (y3, (encQ (((-1) : Int) : Rat)))] : List PR)) (fun w h => allRat_cons (h _ (.tail _ ((.tail _ ((.tail _ ((.head _)))))))) (allRat_cons (h _ (.tail _ ((.tail _ ((.head _)))))) (allRat_nil _))) k_ ?_
          refine RD.also (fRats (⟨some ⟨b20, 0, none⟩, 2⟩ : SA) ([(y1, (encQ ((1 : Int) : Rat))), (y3, (encQ (((-1) : Int) : Rat)))] : List PR)) (fun w h => fRats_own (h _ (.tail _ ((.head _)))) (h _ (.head _)) x_ x_) k_ ?_
          refine RD.turn 10 (v := .slice (some ⟨b20, 0, none⟩) 2 2) (v' := sl (⟨some ⟨b20, 0, none⟩, 2⟩ : SA) ([(y1, (encQ ((1 : Int) : Rat))), (y3, (encQ (((-1) : Int) : Rat)))] : List PR).length) k_ (sl_eq x_) ?_
          refine RD.call (i := 5) (m19_Mean_c (⟨some ⟨b20, 0, none⟩, 2⟩ : SA) ([(y1, (encQ ((1 : Int) : Rat))), (y3, (encQ (((-1) : Int) : Rat)))] : List PR) y1 ((1 : Int) : Rat) y13 ((2 : Int) : Rat) y_l19_awake y_l19_awake y_l19_awake y_l19_awake y_l19_awake) [0, 5, 3] k_ k_ k_ k_ k_ rfl (fun y21 _ => ?_)
          refine RD.bat k_ [(6, none), (7, none), (8, none)] [1, 2, 14, 15] [] (L' := [8, 7, 6, 5, 2, 9, 4, 1, 3, 0]) (l' := [(1, pt b2), (2, pt b19), (14, ratV y21 (encQ (meanV ([(y1, (encQ ((1 : Int) : Rat))), (y3, (encQ (((-1) : Int) : Rat)))] : List PR) ((1 : Int) : Rat) ((2 : Int) : Rat)))), (15, .int .i64 (meanE ([(y1, (encQ ((1 : Int) : Rat))), (y3, (encQ (((-1) : Int) : Rat)))] : List PR).length ((1 : Int) : Rat) ((2 : Int) : Rat)))]) k_ ?_
          refine RD.last (i := 10) (some 0) [1, 2, 15] [b19, b19, b19] k_ k_ k_ (l' := [(1, pt b2), (2, pt b19), (15, .int .i64 (meanE ([(y1, (encQ ((1 : Int) : Rat))), (y3, (encQ (((-1) : Int) : Rat)))] : List PR).length ((1 : Int) : Rat) ((2 : Int) : Rat)))]) (M' := [(b19, .cells (ratC y21 (encQ (meanV ([(y1, (encQ ((1 : Int) : Rat))), (y3, (encQ (((-1) : Int) : Rat)))] : List PR) ((1 : Int) : Rat) ((2 : Int) : Rat)))) 27 (0, 0)), (b2, .cells (ratC y1 (encQ ((1 : Int) : Rat))) 27 (0, 0))]) k_ ?_
          refine RD.bat k_ [(11, none)] [1, 2, 3] [] (L' := [11, 10, 8, 7, 6, 5, 2, 9, 4, 1, 3, 0]) (l' := [(1, pt b2), (2, pt b19), (3, .int .i64 (meanE ([(y1, (encQ ((1 : Int) : Rat))), (y3, (encQ (((-1) : Int) : Rat)))] : List PR).length ((1 : Int) : Rat) ((2 : Int) : Rat)))]) k_ ?_
          refine RD.done k_ ?_
          refine KN.meet (y3, b20, y13, y21, b19) [1, 2, 3] [0, 1, 2, 3, 4, 5, 6] (l2 := [(1, pt b2), (2, pt b19), (3, .int .i64 (meanE ([(y1, (encQ ((1 : Int) : Rat))), (y3, (encQ (((-1) : Int) : Rat)))] : List PR).length ((1 : Int) : Rat) ((2 : Int) : Rat)))]) (by exact trivial) k_ (by rfl) (by rfl) (by rfl)
      · skip
        refine RDi.new (i := 9) (fun b => pt b) (.cells (ratC (⟨saNil, saNil⟩ : RA) (⟨false, ([] : List Nat), ([] : List Nat)⟩ : Raw)) 27 (0, 0)) k_ k_ k_ (fun w => by kernel_rfl) (fun b22 => ?_)
        refine RD.forkL (is := [2, 4]) k_ rfl k_ ⟨?_, ?_, trivial⟩
        · skip
          refine RDi.new (i := 2) (fun b => .slice (some ⟨b, 0, none⟩) 2 2) (.cells (encR ([(y1, (encQ ((1 : Int) : Rat))), (y3, (encQ (((-1) : Int) : Rat)))] : List PR)) 27 (0, 0)) k_ k_ k_ (fun w => by kernel_rfl) (fun b23 => ?_)
          refine RD.call (i := 4) (r03_FromInt 2 y_l19_awake y_l19_awake) [] k_ k_ k_ k_ k_ rfl (fun y24 _ => ?_)
          refine RD.share 0 rfl rfl k_ ?_
          refine RD.also (allRat ([(y1, (encQ ((1 : Int) : Rat))), (y3, (encQ (((-1) : Int) : Rat)))] : List PR)) (fun w h => allRat_cons (h _ (.tail _ ((.tail _ ((.tail _ ((.head _)))))))) (allRat_cons (h _ (.tail _ ((.tail _ ((.head _)))))) (allRat_nil _))) k_ ?_
          refine RD.also (fRats (⟨some ⟨b23, 0, none⟩, 2⟩ : SA) ([(y1, (encQ ((1 : Int) : Rat))), (y3, (encQ (((-1) : Int) : Rat)))] : List PR)) (fun w h => fRats_own (h _ (.tail _ ((.head _)))) (h _ (.head _)) x_ x_) k_ ?_
          refine RD.turn 10 (v := .slice (some ⟨b23, 0, none⟩) 2 2) (v' := sl (⟨some ⟨b23, 0, none⟩, 2⟩ : SA) ([(y1, (encQ ((1 : Int) : Rat))), (y3, (encQ (((-1) : Int) : Rat)))] : List PR).length) k_ (sl_eq x_) ?_
          refine RD.call (i := 5) (m19_Mean_c (⟨some ⟨b23, 0, none⟩, 2⟩ : SA) ([(y1, (encQ ((1 : Int) : Rat))), (y3, (encQ (((-1) : Int) : Rat)))] : List PR) y1 ((1 : Int) : Rat) y24 ((2 : Int) : Rat) y_l19_awake y_l19_awake y_l19_awake y_l19_awake y_l19_awake) [0, 5, 3] k_ k_ k_ k_ k_ rfl (fun y25 _ => ?_)
          refine RD.bat k_ [(6, none), (7, none), (8, none)] [1, 2, 14, 15] [] (L' := [8, 7, 6, 5, 4, 2, 9, 1, 3, 0]) (l' := [(1, pt b2), (2, pt b22), (14, ratV y25 (encQ (meanV ([(y1, (encQ ((1 : Int) : Rat))), (y3, (encQ (((-1) : Int) : Rat)))] : List PR) ((1 : Int) : Rat) ((2 : Int) : Rat)))), (15, .int .i64 (meanE ([(y1, (encQ ((1 : Int) : Rat))), (y3, (encQ (((-1) : Int) : Rat)))] : List PR).length ((1 : Int) : Rat) ((2 : Int) : Rat)))]) k_ ?_
          refine RD.last (i := 10) (some 0) [1, 2, 15] [b22, b22, b22] k_ k_ k_ (l' := [(1, pt b2), (2, pt b22), (15, .int .i64 (meanE ([(y1, (encQ ((1 : Int) : Rat))), (y3, (encQ (((-1) : Int) : Rat)))] : List PR).length ((1 : Int) : Rat) ((2 : Int) : Rat)))]) (M' := [(b22, .cells (ratC y25 (encQ (meanV ([(y1, (encQ ((1 : Int) : Rat))), (y3, (encQ (((-1) : Int) : Rat)))] : List PR) ((1 : Int) : Rat) ((2 : Int) : Rat)))) 27 (0, 0)), (b2, .cells (ratC y1 (encQ ((1 : Int) : Rat))) 27 (0, 0))]) k_ ?_
          refine RD.bat k_ [(11, none)] [1, 2, 3] [] (L' := [11, 10, 8, 7, 6, 5, 4, 2, 9, 1, 3, 0]) (l' := [(1, pt b2), (2, pt b22), (3, .int .i64 (meanE ([(y1, (encQ ((1 : Int) : Rat))), (y3, (encQ (((-1) : Int) : Rat)))] : List PR).length ((1 : Int) : Rat) ((2 : Int) : Rat)))]) k_ ?_
          refine RD.done k_ ?_
          refine KN.meet (y3, b23, y24, y25, b22) [1, 2, 3] [0, 1, 2, 3, 4, 5, 6] (l2 := [(1, pt b2), (2, pt b22), (3, .int .i64 (meanE ([(y1, (encQ ((1 : Int) : Rat))), (y3, (encQ (((-1) : Int) : Rat)))] : List PR).length ((1 : Int) : Rat) ((2 : Int) : Rat)))]) (by exact trivial) k_ (by rfl) (by rfl) (by rfl)
        · skip
          refine RDi.call (i := 4) (r03_FromInt 2 y_l19_awake y_l19_awake) [] k_ k_ k_ k_ rfl (fun y26 _ => ?_)
          refine RD.new (i := 2) (fun b => .slice (some ⟨b, 0, none⟩) 2 2) (.cells (encR ([(y1, (encQ ((1 : Int) : Rat))), (y3, (encQ (((-1) : Int) : Rat)))] : List PR)) 27 (0, 0)) k_ k_ k_ k_ (fun w => by kernel_rfl) (fun b27 => ?_)
          refine RD.share 0 rfl rfl k_ ?_
          refine RD.also (allRat ([(y1, (encQ ((1 : Int) : Rat))), (y3, (encQ (((-1) : Int) : Rat)))] : List PR)) (fun w h => allRat_cons (h _ (.tail _ ((.tail _ ((.tail _ ((.head _)))))))) (allRat_cons (h _ (.tail _ ((.tail _ ((.head _)))))) (allRat_nil _))) k_ ?_
          refine RD.also (fRats (⟨some ⟨b27, 0, none⟩, 2⟩ : SA) ([(y1, (encQ ((1 : Int) : Rat))), (y3, (encQ (((-1) : Int) : Rat)))] : List PR)) (fun w h => fRats_own (h _ (.tail _ ((.head _)))) (h _ (.head _)) x_ x_) k_ ?_
          refine RD.turn 10 (v := .slice (some ⟨b27, 0, none⟩) 2 2) (v' := sl (⟨some ⟨b27, 0, none⟩, 2⟩ : SA) ([(y1, (encQ ((1 : Int) : Rat))), (y3, (encQ (((-1) : Int) : Rat)))] : List PR).length) k_ (sl_eq x_) ?_
          refine RD.call (i := 5) (m19_Mean_c (⟨some ⟨b27, 0, none⟩, 2⟩ : SA) ([(y1, (encQ ((1 : Int) : Rat))), (y3, (encQ (((-1) : Int) : Rat)))] : List PR) y1 ((1 : Int) : Rat) y26 ((2 : Int) : Rat) y_l19_awake y_l19_awake y_l19_awake y_l19_awake y_l19_awake) [0, 5, 3] k_ k_ k_ k_ k_ rfl (fun y28 _ => ?_)
          refine RD.bat k_ [(6, none), (7, none), (8, none)] [1, 2, 14, 15] [] (L' := [8, 7, 6, 5, 2, 4, 9, 1, 3, 0]) (l' := [(1, pt b2), (2, pt b22), (14, ratV y28 (encQ (meanV ([(y1, (encQ ((1 : Int) : Rat))), (y3, (encQ (((-1) : Int) : Rat)))] : List PR) ((1 : Int) : Rat) ((2 : Int) : Rat)))), (15, .int .i64 (meanE ([(y1, (encQ ((1 : Int) : Rat))), (y3, (encQ (((-1) : Int) : Rat)))] : List PR).length ((1 : Int) : Rat) ((2 : Int) : Rat)))]) k_ ?_
          refine RD.last (i := 10) (some 0) [1, 2, 15] [b22, b22, b22] k_ k_ k_ (l' := [(1, pt b2), (2, pt b22), (15, .int .i64 (meanE ([(y1, (encQ ((1 : Int) : Rat))), (y3, (encQ (((-1) : Int) : Rat)))] : List PR).length ((1 : Int) : Rat) ((2 : Int) : Rat)))]) (M' := [(b22, .cells (ratC y28 (encQ (meanV ([(y1, (encQ ((1 : Int) : Rat))), (y3, (encQ (((-1) : Int) : Rat)))] : List PR) ((1 : Int) : Rat) ((2 : Int) : Rat)))) 27 (0, 0)), (b2, .cells (ratC y1 (encQ ((1 : Int) : Rat))) 27 (0, 0))]) k_ ?_
          refine RD.bat k_ [(11, none)] [1, 2, 3] [] (L' := [11, 10, 8, 7, 6, 5, 2, 4, 9, 1, 3, 0]) (l' := [(1, pt b2), (2, pt b22), (3, .int .i64 (meanE ([(y1, (encQ ((1 : Int) : Rat))), (y3, (encQ (((-1) : Int) : Rat)))] : List PR).length ((1 : Int) : Rat) ((2 : Int) : Rat)))]) k_ ?_
          refine RD.done k_ ?_
          refine KN.meet (y3, b27, y26, y28, b22) [1, 2, 3] [0, 1, 2, 3, 4, 5, 6] (l2 := [(1, pt b2), (2, pt b22), (3, .int .i64 (meanE ([(y1, (encQ ((1 : Int) : Rat))), (y3, (encQ (((-1) : Int) : Rat)))] : List PR).length ((1 : Int) : Rat) ((2 : Int) : Rat)))]) (by exact trivial) k_ (by rfl) (by rfl) (by rfl)
    · skip
      refine RDi.new (i := 9) (fun b => pt b) (.cells (ratC (⟨saNil, saNil⟩ : RA) (⟨false, ([] : List Nat), ([] : List Nat)⟩ : Raw)) 27 (0, 0)) k_ k_ k_ (fun w => by kernel_rfl) (fun b29 => ?_)
      refine RD.call (i := 1) (r03_FromInt (-1) y_l19_awake y_l19_awake) [] k_ k_ k_ k_ k_ rfl (fun y30 _ => ?_)
      refine RD.forkL (is := [2, 4]) k_ rfl k_ ⟨?_, ?_, trivial⟩
      · skip
        refine RDi.new (i := 2) (fun b => .slice (some ⟨b, 0, none⟩) 2 2) (.cells (encR ([(y1, (encQ ((1 : Int) : Rat))), (y30, (encQ (((-1) : Int) : Rat)))] : List PR)) 27 (0, 0)) k_ k_ k_ (fun w => by kernel_rfl) (fun b31 => ?_)
        refine RD.call (i := 4) (r03_FromInt 2 y_l19_awake y_l19_awake) [] k_ k_ k_ k_ k_ rfl (fun y32 _ => ?_)
        refine RD.share 0 rfl rfl k_ ?_
        refine RD.also (allRat ([(y1, (encQ ((1 : Int) : Rat))), (y30, (encQ (((-1) : Int) : Rat)))] : List PR)) (fun w h => allRat_cons (h _ (.tail _ ((.tail _ ((.tail _ ((.head _)))))))) (allRat_cons (h _ (.tail _ ((.tail _ ((.head _)))))) (allRat_nil _))) k_ ?_
        refine RD.also (fRats (⟨some ⟨b31, 0, none⟩, 2⟩ : SA) ([(y1, (encQ ((1 : Int) : Rat))), (y30, (encQ (((-1) : Int) : Rat)))] : List PR)) (fun w h => fRats_own (h _ (.tail _ ((.head _)))) (h _ (.head _)) x_ x_) k_ ?_
        refine RD.turn 10 (v := .slice (some ⟨b31, 0, none⟩) 2 2) (v' := sl (⟨some ⟨b31, 0, none⟩, 2⟩ : SA) ([(y1, (encQ ((1 : Int) : Rat))), (y30, (encQ (((-1) : Int) : Rat)))] : List PR).length) k_ (sl_eq x_) ?_
        refine RD.call (i := 5) (m19_Mean_c (⟨some ⟨b31, 0, none⟩, 2⟩ : SA) ([(y1, (encQ ((1 : Int) : Rat))), (y30, (encQ (((-1) : Int) : Rat)))] : List PR) y1 ((1 : Int) : Rat) y32 ((2 : Int) : Rat) y_l19_awake y_l19_awake y_l19_awake y_l19_awake y_l19_awake) [0, 5, 3] k_ k_ k_ k_ k_ rfl (fun y33 _ => ?_)
        refine RD.bat k_ [(6, none), (7, none), (8, none)] [1, 2, 14, 15] [] (L' := [8, 7, 6, 5, 4, 2, 1, 9, 3, 0]) (l' := [(1, pt b2), (2, pt b29), (14, ratV y33 (encQ (meanV ([(y1, (encQ ((1 : Int) : Rat))), (y30, (encQ (((-1) : Int) : Rat)))] : List PR) ((1 : Int) : Rat) ((2 : Int) : Rat)))), (15, .int .i64 (meanE ([(y1, (encQ ((1 : Int) : Rat))), (y30, (encQ (((-1) : Int) : Rat)))] : List PR).length ((1 : Int) : Rat) ((2 : Int) : Rat)))]) k_ ?_
        refine RD.last (i := 10) (some 0) [1, 2, 15] [b29, b29, b29] k_ k_ k_ (l' := [(1, pt b2), (2, pt b29), (15, .int .i64 (meanE ([(y1, (encQ ((1 : Int) : Rat))), (y30, (encQ (((-1) : Int) : Rat)))] : List PR).length ((1 : Int) : Rat) ((2 : Int) : Rat)))]) (M' := [(b29, .cells (ratC y33 (encQ (meanV ([(y1, (encQ ((1 : Int) : Rat))), (y30, (encQ (((-1) : Int) : Rat)))] : List PR) ((1 : Int) : Rat) ((2 : Int) : Rat)))) 27 (0, 0)), (b2, .cells (ratC y1 (encQ ((1 : Int) : Rat))) 27 (0, 0))]) k_ ?_
        refine RD.bat k_ [(11, none)] [1, 2, 3] [] (L' := [11, 10, 8, 7, 6, 5, 4, 2, 1, 9, 3, 0]) (l' := [(1, pt b2), (2, pt b29), (3, .int .i64 (meanE ([(y1, (encQ ((1 : Int) : Rat))), (y30, (encQ (((-1) : Int) : Rat)))] : List PR).length ((1 : Int) : Rat) ((2 : Int) : Rat)))]) k_ ?_
        refine RD.done k_ ?_
        refine KN.meet (y30, b31, y32, y33, b29) [1, 2, 3] [0, 1, 2, 3, 4, 5, 6] (l2 := [(1, pt b2), (2, pt b29), (3, .int .i64 (meanE ([(y1, (encQ ((1 : Int) : Rat))), (y30, (encQ (((-1) : Int) : Rat)))] : List PR).length ((1 : Int) : Rat) ((2 : Int) : Rat)))]) (by exact trivial) k_ (by rfl) (by rfl) (by rfl)
      · skip
        refine RDi.call (i := 4) (r03_FromInt 2 y_l19_awake y_l19_awake) [] k_ k_ k_ k_ rfl (fun y34 _ => ?_)
        refine RD.new (i := 2) (fun b => .slice (some ⟨b, 0, none⟩) 2 2) (.cells (encR ([(y1, (encQ ((1 : Int) : Rat))), (y30, (encQ (((-1) : Int) : Rat)))] : List PR)) 27 (0, 0)) k_ k_ k_ k_ (fun w => by kernel_rfl) (fun b35 => ?_)
        refine RD.share 0 rfl rfl k_ ?_
        refine RD.also (allRat ([(y1, (encQ ((1 : Int) : Rat))), (y30, (encQ (((-1) : Int) : Rat)))] : List PR)) (fun w h => allRat_cons (h _ (.tail _ ((.tail _ ((.tail _ ((.head _)))))))) (allRat_cons (h _ (.tail _ ((.tail _ ((.head _)))))) (allRat_nil _))) k_ ?_
        refine RD.also (fRats (⟨some ⟨b35, 0, none⟩, 2⟩ : SA) ([(y1, (encQ ((1 : Int) : Rat))), (y30, (encQ (((-1) : Int) : Rat)))] : List PR)) (fun w h => fRats_own (h _ (.tail _ ((.head _)))) (h _ (.head _)) x_ x_) k_ ?_
        refine RD.turn 10 (v := .slice (some ⟨b35, 0, none⟩) 2 2) (v' := sl (⟨some ⟨b35, 0, none⟩, 2⟩ : SA) ([(y1, (encQ ((1 : Int) : Rat))), (y30, (encQ (((-1) : Int) : Rat)))] : List PR).length) k_ (sl_eq x_) ?_
        refine RD.call (i := 5) (m19_Mean_c (⟨some ⟨b35, 0, none⟩, 2⟩ : SA) ([(y1, (encQ ((1 : Int) : Rat))), (y30, (encQ (((-1) : Int) : Rat)))] : List PR) y1 ((1 : Int) : Rat) y34 ((2 : Int) : Rat) y_l19_awake y_l19_awake y_l19_awake y_l19_awake y_l19_awake) [0, 5, 3] k_ k_ k_ k_ k_ rfl (fun y36 _ => ?_)
        refine RD.bat k_ [(6, none), (7, none), (8, none)] [1, 2, 14, 15] [] (L' := [8, 7, 6, 5, 2, 4, 1, 9, 3, 0]) (l' := [(1, pt b2), (2, pt b29), (14, ratV y36 (encQ (meanV ([(y1, (encQ ((1 : Int) : Rat))), (y30, (encQ (((-1) : Int) : Rat)))] : List PR) ((1 : Int) : Rat) ((2 : Int) : Rat)))), (15, .int .i64 (meanE ([(y1, (encQ ((1 : Int) : Rat))), (y30, (encQ (((-1) : Int) : Rat)))] : List PR).length ((1 : Int) : Rat) ((2 : Int) : Rat)))]) k_ ?_
        refine RD.last (i := 10) (some 0) [1, 2, 15] [b29, b29, b29] k_ k_ k_ (l' := [(1, pt b2), (2, pt b29), (15, .int .i64 (meanE ([(y1, (encQ ((1 : Int) : Rat))), (y30, (encQ (((-1) : Int) : Rat)))] : List PR).length ((1 : Int) : Rat) ((2 : Int) : Rat)))]) (M' := [(b29, .cells (ratC y36 (encQ (meanV ([(y1, (encQ ((1 : Int) : Rat))), (y30, (encQ (((-1) : Int) : Rat)))] : List PR) ((1 : Int) : Rat) ((2 : Int) : Rat)))) 27 (0, 0)), (b2, .cells (ratC y1 (encQ ((1 : Int) : Rat))) 27 (0, 0))]) k_ ?_
        refine RD.bat k_ [(11, none)] [1, 2, 3] [] (L' := [11, 10, 8, 7, 6, 5, 2, 4, 1, 9, 3, 0]) (l' := [(1, pt b2), (2, pt b29), (3, .int .i64 (meanE ([(y1, (encQ ((1 : Int) : Rat))), (y30, (encQ (((-1) : Int) : Rat)))] : List PR).length ((1 : Int) : Rat) ((2 : Int) : Rat)))]) k_ ?_
        refine RD.done k_ ?_
        refine KN.meet (y30, b35, y34, y36, b29) [1, 2, 3] [0, 1, 2, 3, 4, 5, 6] (l2 := [(1, pt b2), (2, pt b29), (3, .int .i64 (meanE ([(y1, (encQ ((1 : Int) : Rat))), (y30, (encQ (((-1) : Int) : Rat)))] : List PR).length ((1 : Int) : Rat) ((2 : Int) : Rat)))]) (by exact trivial) k_ (by rfl) (by rfl) (by rfl)
  · skip
    intro x37 hx38
    obtain ⟨y3, b4, y5, y6, b7⟩ := x37
    replace hx38 : True := hx38
    refine J.seqC (ι := (RA) × (Nat) × (RA) × (RA × RA × Rat × Rat) × (Nat)) (fun x => (ScaleR (vals ([((⟨saNil, saNil⟩ : RA), (⟨false, ([] : List Nat), ([] : List Nat)⟩ : Raw)), ((⟨saNil, saNil⟩ : RA), (⟨false, ([] : List Nat), ([] : List Nat)⟩ : Raw)), ((⟨saNil, saNil⟩ : RA), (⟨false, ([] : List Nat), ([] : List Nat)⟩ : Raw)), (x.1, (encQ ((5 : Int) : Rat)))] : List PR)) ([((⟨saNil, saNil⟩ : RA), (⟨false, ([] : List Nat), ([] : List Nat)⟩ : Raw)), ((⟨saNil, saNil⟩ : RA), (⟨false, ([] : List Nat), ([] : List Nat)⟩ : Raw)), ((⟨saNil, saNil⟩ : RA), (⟨false, ([] : List Nat), ([] : List Nat)⟩ : Raw)), (x.1, (encQ ((5 : Int) : Rat)))] : List PR).length ((1 : Int) : Rat) (((1 : Int) : Rat) / ((4 : Int) : Rat)) 3 x.2.2.2.1.2.2.1 x.2.2.2.1.2.2.2)) (fun x => [(2, pt b7), (3, .int .i64 (meanE ([(y1, (encQ ((1 : Int) : Rat))), (y3, (encQ (((-1) : Int) : Rat)))] : List PR).length ((1 : Int) : Rat) ((2 : Int) : Rat))), (4, .pointer (some ⟨x.2.2.2.2, 0, none⟩)), (5, .int .i64 (checkE ([((⟨saNil, saNil⟩ : RA), (⟨false, ([] : List Nat), ([] : List Nat)⟩ : Raw)), ((⟨saNil, saNil⟩ : RA), (⟨false, ([] : List Nat), ([] : List Nat)⟩ : Raw)), ((⟨saNil, saNil⟩ : RA), (⟨false, ([] : List Nat), ([] : List Nat)⟩ : Raw)), (x.1, (encQ ((5 : Int) : Rat)))] : List PR).length ((1 : Int) : Rat) (((1 : Int) : Rat) / ((4 : Int) : Rat)) 3))]) (fun x => [(x.2.2.2.2, .cells (ivC x.2.2.2.1.1 (encQ x.2.2.2.1.2.2.1) x.2.2.2.1.2.1 (encQ x.2.2.2.1.2.2.2)) 38 (0, 0)), (b7, .cells (ratC y6 (encQ (meanV ([(y1, (encQ ((1 : Int) : Rat))), (y3, (encQ (((-1) : Int) : Rat)))] : List PR) ((1 : Int) : Rat) ((2 : Int) : Rat)))) 27 (0, 0)), (b2, .cells (ratC y1 (encQ ((1 : Int) : Rat))) 27 (0, 0))]) (fun x => [fRat x.2.2.2.1.1 (encQ x.2.2.2.1.2.2.1), fRat x.2.2.2.1.2.1 (encQ x.2.2.2.1.2.2.2), fRats (⟨some ⟨x.2.1, 0, none⟩, 4⟩ : SA) ([((⟨saNil, saNil⟩ : RA), (⟨false, ([] : List Nat), ([] : List Nat)⟩ : Raw)), ((⟨saNil, saNil⟩ : RA), (⟨false, ([] : List Nat), ([] : List Nat)⟩ : Raw)), ((⟨saNil, saNil⟩ : RA), (⟨false, ([] : List Nat), ([] : List Nat)⟩ : Raw)), (x.1, (encQ ((5 : Int) : Rat)))] : List PR), allRat ([((⟨saNil, saNil⟩ : RA), (⟨false, ([] : List Nat), ([] : List Nat)⟩ : Raw)), ((⟨saNil, saNil⟩ : RA), (⟨false, ([] : List Nat), ([] : List Nat)⟩ : Raw)), ((⟨saNil, saNil⟩ : RA), (⟨false, ([] : List Nat), ([] : List Nat)⟩ : Raw)), (x.1, (encQ ((5 : Int) : Rat)))] : List PR), fRat (⟨saNil, saNil⟩ : RA) (⟨false, ([] : List Nat), ([] : List Nat)⟩ : Raw), fBlk x.2.1 (.cells (encR ([((⟨saNil, saNil⟩ : RA), (⟨false, ([] : List Nat), ([] : List Nat)⟩ : Raw)), ((⟨saNil, saNil⟩ : RA), (⟨false, ([] : List Nat), ([] : List Nat)⟩ : Raw)), ((⟨saNil, saNil⟩ : RA), (⟨false, ([] : List Nat), ([] : List Nat)⟩ : Raw)), (x.1, (encQ ((5 : Int) : Rat)))] : List PR)) 27 (0, 0)), fRat x.2.2.1 (encQ (((1 : Int) : Rat) / ((4 : Int) : Rat))), fRat x.1 (encQ ((5 : Int) : Rat)), fRat y6 (encQ (meanV ([(y1, (encQ ((1 : Int) : Rat))), (y3, (encQ (((-1) : Int) : Rat)))] : List PR) ((1 : Int) : Rat) ((2 : Int) : Rat))), fRats (⟨some ⟨b4, 0, none⟩, 2⟩ : SA) ([(y1, (encQ ((1 : Int) : Rat))), (y3, (encQ (((-1) : Int) : Rat)))] : List PR), allRat ([(y1, (encQ ((1 : Int) : Rat))), (y3, (encQ (((-1) : Int) : Rat)))] : List PR), fBlk b4 (.cells (encR ([(y1, (encQ ((1 : Int) : Rat))), (y3, (encQ (((-1) : Int) : Rat)))] : List PR)) 27 (0, 0)), fRat y5 (encQ ((2 : Int) : Rat)), fRat y3 (encQ (((-1) : Int) : Rat)), fRat y1 (encQ ((1 : Int) : Rat))]) ?_ ?_
    · skip
      refine J.regD k_ [12] ?_
      refine RD.bat k_ [(0, none), (1, none), (2, none), (5, some 1)] [2, 3, 17, 18, 19, 22] [b2, b2, b2] (L' := [5, 2, 1, 0]) (l' := [(2, pt b7), (3, .int .i64 (meanE ([(y1, (encQ ((1 : Int) : Rat))), (y3, (encQ (((-1) : Int) : Rat)))] : List PR).length ((1 : Int) : Rat) ((2 : Int) : Rat))), (17, ratV (⟨saNil, saNil⟩ : RA) (⟨false, ([] : List Nat), ([] : List Nat)⟩ : Raw)), (18, ratV (⟨saNil, saNil⟩ : RA) (⟨false, ([] : List Nat), ([] : List Nat)⟩ : Raw)), (19, ratV (⟨saNil, saNil⟩ : RA) (⟨false, ([] : List Nat), ([] : List Nat)⟩ : Raw)), (22, ratV y1 (encQ ((1 : Int) : Rat)))]) k_ ?_
      refine RD.forkL (is := [3, 11]) k_ rfl k_ ⟨?_, ?_, trivial⟩
      · skip
        refine RDi.call (i := 3) (r03_FromInt 5 y_l19_awake y_l19_awake) [] k_ k_ k_ k_ rfl (fun y39 _ => ?_)
        refine RD.forkL (is := [4, 6, 11]) k_ rfl k_ ⟨?_, ?_, ?_, trivial⟩
        · skip
          refine RDi.new (i := 4) (fun b => .slice (some ⟨b, 0, none⟩) 4 4) (.cells (encR ([((⟨saNil, saNil⟩ : RA), (⟨false, ([] : List Nat), ([] : List Nat)⟩ : Raw)), ((⟨saNil, saNil⟩ : RA), (⟨false, ([] : List Nat), ([] : List Nat)⟩ : Raw)), ((⟨saNil, saNil⟩ : RA), (⟨false, ([] : List Nat), ([] : List Nat)⟩ : Raw)), (y39, (encQ ((5 : Int) : Rat)))] : List PR)) 27 (0, 0)) k_ k_ k_ (fun w => by kernel_rfl) (fun b40 => ?_)
          refine RD.forkL (is := [6, 11]) k_ rfl k_ ⟨?_, ?_, trivial⟩
          · skip
            refine RDi.call (i := 6) (r03_Fraction 1 4 y_l19_awake y_l19_awake y_l19_awake y_l19_awake y_l19_awake) [] k_ k_ k_ k_ rfl (fun y41 _ => ?_)
            refine RD.share 0 rfl rfl k_ ?_
            refine RD.also (fRat (⟨saNil, saNil⟩ : RA) (⟨false, ([] : List Nat), ([] : List Nat)⟩ : Raw)) (fun w h => ⟨fU_nil w, fU_nil w⟩) k_ ?_
            refine RD.also (allRat ([((⟨saNil, saNil⟩ : RA), (⟨false, ([] : List Nat), ([] : List Nat)⟩ : Raw)), ((⟨saNil, saNil⟩ : RA), (⟨false, ([] : List Nat), ([] : List Nat)⟩ : Raw)), ((⟨saNil, saNil⟩ : RA), (⟨false, ([] : List Nat), ([] : List Nat)⟩ : Raw)), (y39, (encQ ((5 : Int) : Rat)))] : List PR)) (fun w h => allRat_cons (h _ (.head _)) (allRat_cons (h _ (.head _)) (allRat_cons (h _ (.head _)) (allRat_cons (h _ (.tail _ ((.tail _ ((.tail _ ((.head _)))))))) (allRat_nil _))))) k_ ?_
            refine RD.also (fRats (⟨some ⟨b40, 0, none⟩, 4⟩ : SA) ([((⟨saNil, saNil⟩ : RA), (⟨false, ([] : List Nat), ([] : List Nat)⟩ : Raw)), ((⟨saNil, saNil⟩ : RA), (⟨false, ([] : List Nat), ([] : List Nat)⟩ : Raw)), ((⟨saNil, saNil⟩ : RA), (⟨false, ([] : List Nat), ([] : List Nat)⟩ : Raw)), (y39, (encQ ((5 : Int) : Rat)))] : List PR)) (fun w h => fRats_own (h _ (.tail _ ((.tail _ ((.head _)))))) (h _ (.head _)) x_ x_) k_ ?_
            refine RD.turn 21 (v := .slice (some ⟨b40, 0, none⟩) 4 4) (v' := sl (⟨some ⟨b40, 0, none⟩, 4⟩ : SA) ([((⟨saNil, saNil⟩ : RA), (⟨false, ([] : List Nat), ([] : List Nat)⟩ : Raw)), ((⟨saNil, saNil⟩ : RA), (⟨false, ([] : List Nat), ([] : List Nat)⟩ : Raw)), ((⟨saNil, saNil⟩ : RA), (⟨false, ([] : List Nat), ([] : List Nat)⟩ : Raw)), (y39, (encQ ((5 : Int) : Rat)))] : List PR).length) k_ (sl_eq x_) ?_
            refine RD.forkL (is := [7, 11]) k_ rfl k_ ⟨?_, ?_, trivial⟩
            · skip
              refine RDi.call (i := 7) (m19_Scale_c (⟨some ⟨b40, 0, none⟩, 4⟩ : SA) ([((⟨saNil, saNil⟩ : RA), (⟨false, ([] : List Nat), ([] : List Nat)⟩ : Raw)), ((⟨saNil, saNil⟩ : RA), (⟨false, ([] : List Nat), ([] : List Nat)⟩ : Raw)), ((⟨saNil, saNil⟩ : RA), (⟨false, ([] : List Nat), ([] : List Nat)⟩ : Raw)), (y39, (encQ ((5 : Int) : Rat)))] : List PR) y1 ((1 : Int) : Rat) y41 (((1 : Int) : Rat) / ((4 : Int) : Rat)) 3 y_l19_awake y_l19_awake y_l19_awake y_l19_awake y_l19_awake) [0, 12, 4] k_ k_ k_ k_ rfl (fun y42 h43 => ?_)
              refine RD.bat k_ [(8, none), (9, none), (10, none)] [2, 3, 25, 26] [] (L' := [10, 9, 8, 7, 6, 4, 3, 5, 2, 1, 0]) (l' := [(2, pt b7), (3, .int .i64 (meanE ([(y1, (encQ ((1 : Int) : Rat))), (y3, (encQ (((-1) : Int) : Rat)))] : List PR).length ((1 : Int) : Rat) ((2 : Int) : Rat))), (25, .agg (ivC y42.1 (encQ y42.2.2.1) y42.2.1 (encQ y42.2.2.2))), (26, .int .i64 (checkE ([((⟨saNil, saNil⟩ : RA), (⟨false, ([] : List Nat), ([] : List Nat)⟩ : Raw)), ((⟨saNil, saNil⟩ : RA), (⟨false, ([] : List Nat), ([] : List Nat)⟩ : Raw)), ((⟨saNil, saNil⟩ : RA), (⟨false, ([] : List Nat), ([] : List Nat)⟩ : Raw)), (y39, (encQ ((5 : Int) : Rat)))] : List PR).length ((1 : Int) : Rat) (((1 : Int) : Rat) / ((4 : Int) : Rat)) 3))]) k_ ?_
              refine RD.new (i := 11) (fun b => pt b) (.cells (ivC (⟨saNil, saNil⟩ : RA) (⟨false, ([] : List Nat), ([] : List Nat)⟩ : Raw) (⟨saNil, saNil⟩ : RA) (⟨false, ([] : List Nat), ([] : List Nat)⟩ : Raw)) 38 (0, 0)) k_ k_ k_ k_ (fun w => by kernel_rfl) (fun b44 => ?_)
              refine RD.last (i := 12) (some 0) [2, 3, 4, 26] [b44, b44, b44, b44, b44, b44] k_ k_ k_ (l' := [(2, pt b7), (3, .int .i64 (meanE ([(y1, (encQ ((1 : Int) : Rat))), (y3, (encQ (((-1) : Int) : Rat)))] : List PR).length ((1 : Int) : Rat) ((2 : Int) : Rat))), (4, pt b44), (26, .int .i64 (checkE ([((⟨saNil, saNil⟩ : RA), (⟨false, ([] : List Nat), ([] : List Nat)⟩ : Raw)), ((⟨saNil, saNil⟩ : RA), (⟨false, ([] : List Nat), ([] : List Nat)⟩ : Raw)), ((⟨saNil, saNil⟩ : RA), (⟨false, ([] : List Nat), ([] : List Nat)⟩ : Raw)), (y39, (encQ ((5 : Int) : Rat)))] : List PR).length ((1 : Int) : Rat) (((1 : Int) : Rat) / ((4 : Int) : Rat)) 3))]) (M' := [(b44, .cells (ivC y42.1 (encQ y42.2.2.1) y42.2.1 (encQ y42.2.2.2)) 38 (0, 0)), (b7, .cells (ratC y6 (encQ (meanV ([(y1, (encQ ((1 : Int) : Rat))), (y3, (encQ (((-1) : Int) : Rat)))] : List PR) ((1 : Int) : Rat) ((2 : Int) : Rat)))) 27 (0, 0)), (b2, .cells (ratC y1 (encQ ((1 : Int) : Rat))) 27 (0, 0))]) k_ ?_
              refine RD.bat k_ [(13, none)] [2, 3, 4, 5] [] (L' := [13, 12, 11, 10, 9, 8, 7, 6, 4, 3, 5, 2, 1, 0]) (l' := [(2, pt b7), (3, .int .i64 (meanE ([(y1, (encQ ((1 : Int) : Rat))), (y3, (encQ (((-1) : Int) : Rat)))] : List PR).length ((1 : Int) : Rat) ((2 : Int) : Rat))), (4, pt b44), (5, .int .i64 (checkE ([((⟨saNil, saNil⟩ : RA), (⟨false, ([] : List Nat), ([] : List Nat)⟩ : Raw)), ((⟨saNil, saNil⟩ : RA), (⟨false, ([] : List Nat), ([] : List Nat)⟩ : Raw)), ((⟨saNil, saNil⟩ : RA), (⟨false, ([] : List Nat), ([] : List Nat)⟩ : Raw)), (y39, (encQ ((5 : Int) : Rat)))] : List PR).length ((1 : Int) : Rat) (((1 : Int) : Rat) / ((4 : Int) : Rat)) 3))]) k_ ?_
              refine RD.done k_ ?_
              refine KN.meet (y39, b40, y41, y42, b44) [2, 3, 4, 5] [0, 1, 2, 3, 4, 5, 6, 7, 8, 9, 10, 11, 12, 13, 14] (l2 := [(2, pt b7), (3, .int .i64 (meanE ([(y1, (encQ ((1 : Int) : Rat))), (y3, (encQ (((-1) : Int) : Rat)))] : List PR).length ((1 : Int) : Rat) ((2 : Int) : Rat))), (4, pt b44), (5, .int .i64 (checkE ([((⟨saNil, saNil⟩ : RA), (⟨false, ([] : List Nat), ([] : List Nat)⟩ : Raw)), ((⟨saNil, saNil⟩ : RA), (⟨false, ([] : List Nat), ([] : List Nat)⟩ : Raw)), ((⟨saNil, saNil⟩ : RA), (⟨false, ([] : List Nat), ([] : List Nat)⟩ : Raw)), (y39, (encQ ((5 : Int) : Rat)))] : List PR).length ((1 : Int) : Rat) (((1 : Int) : Rat) / ((4 : Int) : Rat)) 3))]) (by exact h43) k_ (by rfl) (by rfl) (by rfl)
            · skip
              refine RDi.new (i := 11) (fun b => pt b) (.cells (ivC (⟨saNil, saNil⟩ : RA) (⟨false, ([] : List Nat), ([] : List Nat)⟩ : Raw) (⟨saNil, saNil⟩ : RA) (⟨false, ([] : List Nat), ([] : List Nat)⟩ : Raw)) 38 (0, 0)) k_ k_ k_ (fun w => by kernel_rfl) (fun b45 => ?_)
              refine RD.call (i := 7) (m19_Scale_c (⟨some ⟨b40, 0, none⟩, 4⟩ : SA) ([((⟨saNil, saNil⟩ : RA), (⟨false, ([] : List Nat), ([] : List Nat)⟩ : Raw)), ((⟨saNil, saNil⟩ : RA), (⟨false, ([] : List Nat), ([] : List Nat)⟩ : Raw)), ((⟨saNil, saNil⟩ : RA), (⟨false, ([] : List Nat), ([] : List Nat)⟩ : Raw)), (y39, (encQ ((5 : Int) : Rat)))] : List PR) y1 ((1 : Int) : Rat) y41 (((1 : Int) : Rat) / ((4 : Int) : Rat)) 3 y_l19_awake y_l19_awake y_l19_awake y_l19_awake y_l19_awake) [0, 12, 4] k_ k_ k_ k_ k_ rfl (fun y46 h47 => ?_)
              refine RD.bat k_ [(8, none), (9, none), (10, none)] [2, 3, 4, 25, 26] [] (L' := [10, 9, 8, 7, 11, 6, 4, 3, 5, 2, 1, 0]) (l' := [(2, pt b7), (3, .int .i64 (meanE ([(y1, (encQ ((1 : Int) : Rat))), (y3, (encQ (((-1) : Int) : Rat)))] : List PR).length ((1 : Int) : Rat) ((2 : Int) : Rat))), (4, pt b45), (25, .agg (ivC y46.1 (encQ y46.2.2.1) y46.2.1 (encQ y46.2.2.2))), (26, .int .i64 (checkE ([((⟨saNil, saNil⟩ : RA), (⟨false, ([] : List Nat), ([] : List Nat)⟩ : Raw)), ((⟨saNil, saNil⟩ : RA), (⟨false, ([] : List Nat), ([] : List Nat)⟩ : Raw)), ((⟨saNil, saNil⟩ : RA), (⟨false, ([] : List Nat), ([] : List Nat)⟩ : Raw)), (y39, (encQ ((5 : Int) : Rat)))] : List PR).length ((1 : Int) : Rat) (((1 : Int) : Rat) / ((4 : Int) : Rat)) 3))]) k_ ?_
              refine RD.last (i := 12) (some 0) [2, 3, 4, 26] [b45, b45, b45, b45, b45, b45] k_ k_ k_ (l' := [(2, pt b7), (3, .int .i64 (meanE ([(y1, (encQ ((1 : Int) : Rat))), (y3, (encQ (((-1) : Int) : Rat)))] : List PR).length ((1 : Int) : Rat) ((2 : Int) : Rat))), (4, pt b45), (26, .int .i64 (checkE ([((⟨saNil, saNil⟩ : RA), (⟨false, ([] : List Nat), ([] : List Nat)⟩ : Raw)), ((⟨saNil, saNil⟩ : RA), (⟨false, ([] : List Nat), ([] : List Nat)⟩ : Raw)), ((⟨saNil, saNil⟩ : RA), (⟨false, ([] : List Nat), ([] : List Nat)⟩ : Raw)), (y39, (encQ ((5 : Int) : Rat)))] : List PR).length ((1 : Int) : Rat) (((1 : Int) : Rat) / ((4 : Int) : Rat)) 3))]) (M' := [(b45, .cells (ivC y46.1 (encQ y46.2.2.1) y46.2.1 (encQ y46.2.2.2)) 38 (0, 0)), (b7, .cells (ratC y6 (encQ (meanV ([(y1, (encQ ((1 : Int) : Rat))), (y3, (encQ (((-1) : Int) : Rat)))] : List PR) ((1 : Int) : Rat) ((2 : Int) : Rat)))) 27 (0, 0)), (b2, .cells (ratC y1 (encQ ((1 : Int) : Rat))) 27 (0, 0))]) k_ ?_
              refine RD.bat k_ [(13, none)] [2, 3, 4, 5] [] (L' := [13, 12, 10, 9, 8, 7, 11, 6, 4, 3, 5, 2, 1, 0]) (l' := [(2, pt b7), (3, .int .i64 (meanE ([(y1, (encQ ((1 : Int) : Rat))), (y3, (encQ (((-1) : Int) : Rat)))] : List PR).length ((1 : Int) : Rat) ((2 : Int) : Rat))), (4, pt b45), (5, .int .i64 (checkE ([((⟨saNil, saNil⟩ : RA), (⟨false, ([] : List Nat), ([] : List Nat)⟩ : Raw)), ((⟨saNil, saNil⟩ : RA), (⟨false, ([] : List Nat), ([] : List Nat)⟩ : Raw)), ((⟨saNil, saNil⟩ : RA), (⟨false, ([] : List Nat), ([] : List Nat)⟩ : Raw)), (y39, (encQ ((5 : Int) : Rat)))] : List PR).length ((1 : Int) : Rat) (((1 : Int) : Rat) / ((4 : Int) : Rat)) 3))]) k_ ?_
              refine RD.done k_ ?_
              refine KN.meet (y39, b40, y41, y46, b45) [2, 3, 4, 5] [0, 1, 2, 3, 4, 5, 6, 7, 8, 9, 10, 11, 12, 13, 14] (l2 := [(2, pt b7), (3, .int .i64 (meanE ([(y1, (encQ ((1 : Int) : Rat))), (y3, (encQ (((-1) : Int) : Rat)))] : List PR).length ((1 : Int) : Rat) ((2 : Int) : Rat))), (4, pt b45), (5, .int .i64 (checkE ([((⟨saNil, saNil⟩ : RA), (⟨false, ([] : List Nat), ([] : List Nat)⟩ : Raw)), ((⟨saNil, saNil⟩ : RA), (⟨false, ([] : List Nat), ([] : List Nat)⟩ : Raw)), ((⟨saNil, saNil⟩ : RA), (⟨false, ([] : List Nat), ([] : List Nat)⟩ : Raw)), (y39, (encQ ((5 : Int) : Rat)))] : List PR).length ((1 : Int) : Rat) (((1 : Int) : Rat) / ((4 : Int) : Rat)) 3))]) (by exact h47) k_ (by rfl) (by rfl) (by rfl)
          · skip
            refine RDi.new (i := 11) (fun b => pt b) (.cells (ivC (⟨saNil, saNil⟩ : RA) (⟨false, ([] : List Nat), ([] : List Nat)⟩ : Raw) (⟨saNil, saNil⟩ : RA) (⟨false, ([] : List Nat), ([] : List Nat)⟩ : Raw)) 38 (0, 0)) k_ k_ k_ (fun w => by kernel_rfl) (fun b48 => ?_)
            refine RD.call (i := 6) (r03_Fraction 1 4 y_l19_awake y_l19_awake y_l19_awake y_l19_awake y_l19_awake) [] k_ k_ k_ k_ k_ rfl (fun y49 _ => ?_)
            refine RD.share 1 rfl rfl k_ ?_
            refine RD.also (fRat (⟨saNil, saNil⟩ : RA) (⟨false, ([] : List Nat), ([] : List Nat)⟩ : Raw)) (fun w h => ⟨fU_nil w, fU_nil w⟩) k_ ?_
            refine RD.also (allRat ([((⟨saNil, saNil⟩ : RA), (⟨false, ([] : List Nat), ([] : List Nat)⟩ : Raw)), ((⟨saNil, saNil⟩ : RA), (⟨false, ([] : List Nat), ([] : List Nat)⟩ : Raw)), ((⟨saNil, saNil⟩ : RA), (⟨false, ([] : List Nat), ([] : List Nat)⟩ : Raw)), (y39, (encQ ((5 : Int) : Rat)))] : List PR)) (fun w h => allRat_cons (h _ (.head _)) (allRat_cons (h _ (.head _)) (allRat_cons (h _ (.head _)) (allRat_cons (h _ (.tail _ ((.tail _ ((.tail _ ((.head _)))))))) (allRat_nil _))))) k_ ?_
            refine RD.also (fRats (⟨some ⟨b40, 0, none⟩, 4⟩ : SA) ([((⟨saNil, saNil⟩ : RA), (⟨false, ([] : List Nat), ([] : List Nat)⟩ : Raw)), ((⟨saNil, saNil⟩ : RA), (⟨false, ([] : List Nat), ([] : List Nat)⟩ : Raw)), ((⟨saNil, saNil⟩ : RA), (⟨false, ([] : List Nat), ([] : List Nat)⟩ : Raw)), (y39, (encQ ((5 : Int) : Rat)))] : List PR)) (fun w h => fRats_own (h _ (.tail _ ((.tail _ ((.head _)))))) (h _ (.head _)) x_ x_) k_ ?_
            refine RD.turn 21 (v := .slice (some ⟨b40, 0, none⟩) 4 4) (v' := sl (⟨some ⟨b40, 0, none⟩, 4⟩ : SA) ([((⟨saNil, saNil⟩ : RA), (⟨false, ([] : List Nat), ([] : List Nat)⟩ : Raw)), ((⟨saNil, saNil⟩ : RA), (⟨false, ([] : List Nat), ([] : List Nat)⟩ : Raw)), ((⟨saNil, saNil⟩ : RA), (⟨false, ([] : List Nat), ([] : List Nat)⟩ : Raw)), (y39, (encQ ((5 : Int) : Rat)))] : List PR).length) k_ (sl_eq x_) ?_
            refine RD.call (i := 7) (m19_Scale_c (⟨some ⟨b40, 0, none⟩, 4⟩ : SA) ([((⟨saNil, saNil⟩ : RA), (⟨false, ([] : List Nat), ([] : List Nat)⟩ : Raw)), ((⟨saNil, saNil⟩ : RA), (⟨false, ([] : List Nat), ([] : List Nat)⟩ : Raw)), ((⟨saNil, saNil⟩ : RA), (⟨false, ([] : List Nat), ([] : List Nat)⟩ : Raw)), (y39, (encQ ((5 : Int) : Rat)))] : List PR) y1 ((1 : Int) : Rat) y49 (((1 : Int) : Rat) / ((4 : Int) : Rat)) 3 y_l19_awake y_l19_awake y_l19_awake y_l19_awake y_l19_awake) [0, 12, 4] k_ k_ k_ k_ k_ rfl (fun y50 h51 => ?_)
            refine RD.bat k_ [(8, none), (9, none), (10, none)] [2, 3, 4, 25, 26] [] (L' := [10, 9, 8, 7, 6, 11, 4, 3, 5, 2, 1, 0]) (l' := [(2, pt b7), (3, .int .i64 (meanE ([(y1, (encQ ((1 : Int) : Rat))), (y3, (encQ (((-1) : Int) : Rat)))] : List PR).length ((1 : Int) : Rat) ((2 : Int) : Rat))), (4, pt b48), (25, .agg (ivC y50.1 (encQ y50.2.2.1) y50.2.1 (encQ y50.2.2.2))), (26, .int .i64 (checkE ([((⟨saNil, saNil⟩ : RA), (⟨false, ([] : List Nat), ([] : List Nat)⟩ : Raw)), ((⟨saNil, saNil⟩ : RA), (⟨false, ([] : List Nat), ([] : List Nat)⟩ : Raw)), ((⟨saNil, saNil⟩ : RA), (⟨false, ([] : List Nat), ([] : List Nat)⟩ : Raw)), (y39, (encQ ((5 : Int) : Rat)))] : List PR).length ((1 : Int) : Rat) (((1 : Int) : Rat) / ((4 : Int) : Rat)) 3))]) k_ ?_
            refine RD.last (i := 12) (some 0) [2, 3, 4, 26] [b48, b48, b48, b48, b48, b48] k_ k_ k_ (l' := [(2, pt b7), (3, .int .i64 (meanE ([(y1, (encQ ((1 : Int) : Rat))), (y3, (encQ (((-1) : Int) : Rat)))] : List PR).length ((1 : Int) : Rat) ((2 : Int) : Rat))), (4, pt b48), (26, .int .i64 (checkE ([((⟨saNil, saNil⟩ : RA), (⟨false, ([] : List Nat), ([] : List Nat)⟩ : Raw)), ((⟨saNil, saNil⟩ : RA), (⟨false, ([] : List Nat), ([] : List Nat)⟩ : Raw)), ((⟨saNil, saNil⟩ : RA), (⟨false, ([] : List Nat), ([] : List Nat)⟩ : Raw)), (y39, (encQ ((5 : Int) : Rat)))] : List PR).length ((1 : Int) : Rat) (((1 : Int) : Rat) / ((4 : Int) : Rat)) 3))]) (M' := [(b48, .cells (ivC y50.1 (encQ y50.2.2.1) y50.2.1 (encQ y50.2.2.2)) 38 (0, 0)), (b7, .cells (ratC y6 (encQ (meanV ([(y1, (encQ ((1 : Int) : Rat))), (y3, (encQ (((-1) : Int) : Rat)))] : List PR) ((1 : Int) : Rat) ((2 : Int) : Rat)))) 27 (0, 0)), (b2, .cells (ratC y1 (encQ ((1 : Int) : Rat))) 27 (0, 0))]) k_ ?_
            refine RD.bat k_ [(13, none)] [2, 3, 4, 5] [] (L' := [13, 12, 10, 9, 8, 7, 6, 11, 4, 3, 5, 2, 1, 0]) (l' := [(2, pt b7), (3, .int .i64 (meanE ([(y1, (encQ ((1 : Int) : Rat))), (y3, (encQ (((-1) : Int) : Rat)))] : List PR).length ((1 : Int) : Rat) ((2 : Int) : Rat))), (4, pt b48), (5, .int .i64 (checkE ([((⟨saNil, saNil⟩ : RA), (⟨false, ([] : List Nat), ([] : List Nat)⟩ : Raw)), ((⟨saNil, saNil⟩ : RA), (⟨false, ([] : List Nat), ([] : List Nat)⟩ : Raw)), ((⟨saNil, saNil⟩ : RA), (⟨false, ([] : List Nat), ([] : List Nat)⟩ : Raw)), (y39, (encQ ((5 : Int) : Rat)))] : List PR).length ((1 : Int) : Rat) (((1 : Int) : Rat) / ((4 : Int) : Rat)) 3))]) k_ ?_
            refine RD.done k_ ?_
            refine KN.meet (y39, b40, y49, y50, b48) [2, 3, 4, 5] [0, 1, 2, 3, 4, 5, 6, 7, 8, 9, 10, 11, 12, 13, 14] (l2 := [(2, pt b7), (3, .int .i64 (meanE ([(y1, (encQ ((1 : Int) : Rat))), (y3, (encQ (((-1) : Int) : Rat)))] : List PR).length ((1 : Int) : Rat) ((2 : Int) : Rat))), (4, pt b48), (5, .int .i64 (checkE ([((⟨saNil, saNil⟩ : RA), (⟨false, ([] : List Nat), ([] : List Nat)⟩ : Raw)), ((⟨saNil, saNil⟩ : RA), (⟨false, ([] : List Nat), ([] : List Nat)⟩ : Raw)), ((⟨saNil, saNil⟩ : RA), (⟨false, ([] : List Nat), ([] : List Nat)⟩ : Raw)), (y39, (encQ ((5 : Int) : Rat)))] : List PR).length ((1 : Int) : Rat) (((1 : Int) : Rat) / ((4 : Int) : Rat)) 3))]) (by exact h51) k_ (by rfl) (by rfl) (by rfl)
        · skip
          refine RDi.call (i := 6) (r03_Fraction 1 4 y_l19_awake y_l19_awake y_l19_awake y_l19_awake y_l19_awake) [] k_ k_ k_ k_ rfl (fun y52 _ => ?_)
          refine RD.forkL (is := [4, 11]) k_ rfl k_ ⟨?_, ?_, trivial⟩
          · skip
            refine RDi.new (i := 4) (fun b => .slice (some ⟨b, 0, none⟩) 4 4) (.cells (encR ([((⟨saNil, saNil⟩ : RA), (⟨false, ([] : List Nat), ([] : List Nat)⟩ : Raw)), ((⟨saNil, saNil⟩ : RA), (⟨false, ([] : List Nat), ([] : List Nat)⟩ : Raw)), ((⟨saNil, saNil⟩ : RA), (⟨false, ([] : List Nat), ([] : List Nat)⟩ : Raw)), (y39, (encQ ((5 : Int) : Rat)))] : List PR)) 27 (0, 0)) k_ k_ k_ (fun w => by kernel_rfl) (fun b53 => ?_)
            refine RD.share 0 rfl rfl k_ ?_
            refine RD.also (fRat (⟨saNil, saNil⟩ : RA) (⟨false, ([] : List Nat), ([] : List Nat)⟩ : Raw)) (fun w h => ⟨fU_nil w, fU_nil w⟩) k_ ?_
            refine RD.also (allRat ([((⟨saNil, saNil⟩ : RA), (⟨false, ([] : List Nat), ([] : List Nat)⟩ : Raw)), ((⟨saNil, saNil⟩ : RA), (⟨false, ([] : List Nat), ([] : List Nat)⟩ : Raw)), ((⟨saNil, saNil⟩ : RA), (⟨false, ([] : List Nat), ([] : List Nat)⟩ : Raw)), (y39, (encQ ((5 : Int) : Rat)))] : List PR)) (fun w h => allRat_cons (h _ (.head _)) (allRat_cons (h _ (.head _)) (allRat_cons (h _ (.head _)) (allRat_cons (h _ (.tail _ ((.tail _ ((.tail _ ((.head _)))))))) (allRat_nil _))))) k_ ?_
            refine RD.also (fRats (⟨some ⟨b53, 0, none⟩, 4⟩ : SA) ([((⟨saNil, saNil⟩ : RA), (⟨false, ([] : List Nat), ([] : List Nat)⟩ : Raw)), ((⟨saNil, saNil⟩ : RA), (⟨false, ([] : List Nat), ([] : List Nat)⟩ : Raw)), ((⟨saNil, saNil⟩ : RA), (⟨false, ([] : List Nat), ([] : List Nat)⟩ : Raw)), (y39, (encQ ((5 : Int) : Rat)))] : List PR)) (fun w h => fRats_own (h _ (.tail _ ((.tail _ ((.head _)))))) (h _ (.head _)) x_ x_) k_ ?_
            refine RD.turn 21 (v := .slice (some ⟨b53, 0, none⟩) 4 4) (v' := sl (⟨some ⟨b53, 0, none⟩, 4⟩ : SA) ([((⟨saNil, saNil⟩ : RA), (⟨false, ([] : List Nat), ([] : List Nat)⟩ : Raw)), ((⟨saNil, saNil⟩ : RA), (⟨false, ([] : List Nat), ([] : List Nat)⟩ : Raw)), ((⟨saNil, saNil⟩ : RA), (⟨false, ([] : List Nat), ([] : List Nat)⟩ : Raw)), (y39, (encQ ((5 : Int) : Rat)))] : List PR).length) k_ (sl_eq x_) ?_
            refine RD.forkL (is := [7, 11]) k_ rfl k_ ⟨?_, ?_, trivial⟩
            · skip
              refine RDi.call (i := 7) (m19_Scale_c (⟨some ⟨b53, 0, none⟩, 4⟩ : SA) ([((⟨saNil, saNil⟩ : RA), (⟨false, ([] : List Nat), ([] : List Nat)⟩ : Raw)), ((⟨saNil, saNil⟩ : RA), (⟨false, ([] : List Nat), ([] : List Nat)⟩ : Raw)), ((⟨saNil, saNil⟩ : RA), (⟨false, ([] : List Nat), ([] : List Nat)⟩ : Raw)), (y39, (encQ ((5 : Int) : Rat)))] : List PR) y1 ((1 : Int) : Rat) y52 (((1 : Int) : Rat) / ((4 : Int) : Rat)) 3 y_l19_awake y_l19_awake y_l19_awake y_l19_awake y_l19_awake) [0, 12, 4] k_ k_ k_ k_ rfl (fun y54 h55 => ?_)
              refine RD.bat k_ [(8, none), (9, none), (10, none)] [2, 3, 25, 26] [] (L' := [10, 9, 8, 7, 4, 6, 3, 5, 2, 1, 0]) (l' := [(2, pt b7), (3, .int .i64 (meanE ([(y1, (encQ ((1 : Int) : Rat))), (y3, (encQ (((-1) : Int) : Rat)))] : List PR).length ((1 : Int) : Rat) ((2 : Int) : Rat))), (25, .agg (ivC y54.1 (encQ y54.2.2.1) y54.2.1 (encQ y54.2.2.2))), (26, .int .i64 (checkE ([((⟨saNil, saNil⟩ : RA), (⟨false, ([] : List Nat), ([] : List Nat)⟩ : Raw)), ((⟨saNil, saNil⟩ : RA), (⟨false, ([] : List Nat), ([] : List Nat)⟩ : Raw)), ((⟨saNil, saNil⟩ : RA), (⟨false, ([] : List Nat), ([] : List Nat)⟩ : Raw)), (y39, (encQ ((5 : Int) : Rat)))] : List PR).length ((1 : Int) : Rat) (((1 : Int) : Rat) / ((4 : Int) : Rat)) 3))]) k_ ?_
              refine RD.new (i := 11) (fun b => pt b) (.cells (ivC (⟨saNil, saNil⟩ : RA) (⟨false, ([] : List Nat), ([] : List Nat)⟩ : Raw) (⟨saNil, saNil⟩ : RA) (⟨false, ([] : List Nat), ([] : List Nat)⟩ : Raw)) 38 (0, 0)) k_ k_ k_ k_ (fun w => by kernel_rfl) (fun b56 => ?_)
              refine RD.last (i := 12) (some 0) [2, 3, 4, 26] [b56, b56, b56, b56, b56, b56] k_ k_ k_ (l' := [(2, pt b7), (3, .int .i64 (meanE ([(y1, (encQ ((1 : Int) : Rat))), (y3, (encQ (((-1) : Int) : Rat)))] : List PR).length ((1 : Int) : Rat) ((2 : Int) : Rat))), (4, pt b56), (26, .int .i64 (checkE ([((⟨saNil, saNil⟩ : RA), (⟨false, ([] : List Nat), ([] : List Nat)⟩ : Raw)), ((⟨saNil, saNil⟩ : RA), (⟨false, ([] : List Nat), ([] : List Nat)⟩ : Raw)), ((⟨saNil, saNil⟩ : RA), (⟨false, ([] : List Nat), ([] : List Nat)⟩ : Raw)), (y39, (encQ ((5 : Int) : Rat)))] : List PR).length ((1 : Int) : Rat) (((1 : Int) : Rat) / ((4 : Int) : Rat)) 3))]) (M' := [(b56, .cells (ivC y54.1 (encQ y54.2.2.1) y54.2.1 (encQ y54.2.2.2)) 38 (0, 0)), (b7, .cells (ratC y6 (encQ (meanV ([(y1, (encQ ((1 : Int) : Rat))), (y3, (encQ (((-1) : Int) : Rat)))] : List PR) ((1 : Int) : Rat) ((2 : Int) : Rat)))) 27 (0, 0)), (b2, .cells (ratC y1 (encQ ((1 : Int) : Rat))) 27 (0, 0))]) k_ ?_
              refine RD.bat k_ [(13, none)] [2, 3, 4, 5] [] (L' := [13, 12, 11, 10, 9, 8, 7, 4, 6, 3, 5, 2, 1, 0]) (l' := [(2, pt b7), (3, .int .i64 (meanE ([(y1, (encQ ((1 : Int) : Rat))), (y3, (encQ (((-1) : Int) : Rat)))] : List PR).length ((1 : Int) : Rat) ((2 : Int) : Rat))), (4, pt b56), (5, .int .i64 (checkE ([((⟨saNil, saNil⟩ : RA), (⟨false, ([] : List Nat), ([] : List Nat)⟩ : Raw)), ((⟨saNil, saNil⟩ : RA), (⟨false, ([] : List Nat), ([] : List Nat)⟩ : Raw)), ((⟨saNil, saNil⟩ : RA), (⟨false, ([] : List Nat), ([] : List Nat)⟩ : Raw)), (y39, (encQ ((5 : Int) : Rat)))] : List PR).length ((1 : Int) : Rat) (((1 : Int) : Rat) / ((4 : Int) : Rat)) 3))]) k_ ?_
              refine RD.done k_ ?_
              refine KN.meet (y39, b53, y52, y54, b56) [2, 3, 4, 5] [0, 1, 2, 3, 4, 5, 6, 7, 8, 9, 10, 11, 12, 13, 14] (l2 := [(2, pt b7), (3, .int .i64 (meanE ([(y1, (encQ ((1 : Int) : Rat))), (y3, (encQ (((-1) : Int) : Rat)))] : List PR).length ((1 : Int) : Rat) ((2 : Int) : Rat))), (4, pt b56), (5, .int .i64 (checkE ([((⟨saNil, saNil⟩ : RA), (⟨false, ([] : List Nat), ([] : List Nat)⟩ : Raw)), ((⟨saNil, saNil⟩ : RA), (⟨false, ([] : List Nat), ([] : List Nat)⟩ : Raw)), ((⟨saNil, saNil⟩ : RA), (⟨false, ([] : List Nat), ([] : List Nat)⟩ : Raw)), (y39, (encQ ((5 : Int) : Rat)))] : List PR).length ((1 : Int) : Rat) (((1 : Int) : Rat) / ((4 : Int) : Rat)) 3))]) (by exact h55) k_ (by rfl) (by rfl) (by rfl)
            · skip
              refine RDi.new (i := 11) (fun b => pt b) (.cells (ivC (⟨saNil, saNil⟩ : RA) (⟨false, ([] : List Nat), ([] : List Nat)⟩ : Raw) (⟨saNil, saNil⟩ : RA) (⟨false, ([] : List Nat), ([] : List Nat)⟩ : Raw)) 38 (0, 0)) k_ k_ k_ (fun w => by kernel_rfl) (fun b57 => ?_)
              refine RD.call (i := 7) (m19_Scale_c (⟨some ⟨b53, 0, none⟩, 4⟩ : SA) ([((⟨saNil, saNil⟩ : RA), (⟨false, ([] : List Nat), ([] : List Nat)⟩ : Raw)), ((⟨saNil, saNil⟩ : RA), (⟨false, ([] : List Nat), ([] : List Nat)⟩ : Raw)), ((⟨saNil, saNil⟩ : RA), (⟨false, ([] : List Nat), ([] : List Nat)⟩ : Raw)), (y39, (encQ ((5 : Int) : Rat)))] : List PR) y1 ((1 : Int) : Rat) y52 (((1 : Int) : Rat) / ((4 : Int) : Rat)) 3 y_l19_awake y_l19_awake y_l19_awake y_l19_awake y_l19_awake) [0, 12, 4] k_ k_ k_ k_ k_ rfl (fun y58 h59 => ?_)
              refine RD.bat k_ [(8, none), (9, none), (10, none)] [2, 3, 4, 25, 26] [] (L' := [10, 9, 8, 7, 11, 4, 6, 3, 5, 2, 1, 0]) (l' := [(2, pt b7), (3, .int .i64 (meanE ([(y1, (encQ ((1 : Int) : Rat))), (y3, (encQ (((-1) : Int) : Rat)))] : List PR).length ((1 : Int) : Rat) ((2 : Int) : Rat))), (4, pt b57), (25, .agg (ivC y58.1 (encQ y58.2.2.1) y58.2.1 (encQ y58.2.2.2))), (26, .int .i64 (checkE ([((⟨saNil, saNil⟩ : RA), (⟨false, ([] : List Nat), ([] : List Nat)⟩ : Raw)), ((⟨saNil, saNil⟩ : RA), (⟨false, ([] : List Nat), ([] : List Nat)⟩ : Raw)), ((⟨saNil, saNil⟩ : RA), (⟨false, ([] : List Nat), ([] : List Nat)⟩ : Raw)), (y39, (encQ ((5 : Int) : Rat)))] : List PR).length ((1 : Int) : Rat) (((1 : Int) : Rat) / ((4 : Int) : Rat)) 3))]) k_ ?_
              refine RD.last (i := 12) (some 0) [2, 3, 4, 26] [b57, b57, b57, b57, b57, b57] k_ k_ k_ (l' := [(2, pt b7), (3, .int .i64 (meanE ([(y1, (encQ ((1 : Int) : Rat))), (y3, (encQ (((-1) : Int) : Rat)))] : List PR).length ((1 : Int) : Rat) ((2 : Int) : Rat))), (4, pt b57), (26, .int .i64 (checkE ([((⟨saNil, saNil⟩ : RA), (⟨false, ([] : List Nat), ([] : List Nat)⟩ : Raw)), ((⟨saNil, saNil⟩ : RA), (⟨false, ([] : List Nat), ([] : List Nat)⟩ : Raw)), ((⟨saNil, saNil⟩ : RA), (⟨false, ([] : List Nat), ([] : List Nat)⟩ : Raw)), (y39, (encQ ((5 : Int) : Rat)))] : List PR).length ((1 : Int) : Rat) (((1 : Int) : Rat) / ((4 : Int) : Rat)) 3))]) (M' := [(b57, .cells (ivC y58.1 (encQ y58.2.2.1) y58.2.1 (encQ y58.2.2.2)) 38 (0, 0)), (b7, .cells (ratC y6 (encQ (meanV ([(y1, (encQ ((1 : Int) : Rat))), (y3, (encQ (((-1) : Int) : Rat)))] : List PR) ((1 : Int) : Rat) ((2 : Int) : Rat)))) 27 (0, 0)), (b2, .cells (ratC y1 (encQ ((1 : Int) : Rat))) 27 (0, 0))]) k_ ?_
              refine RD.bat k_ [(13, none)] [2, 3, 4, 5] [] (L' := [13, 12, 10, 9, 8, 7, 11, 4, 6, 3, 5, 2, 1, 0]) (l' := [(2, pt b7), (3, .int .i64 (meanE ([(y1, (encQ ((1 : Int) : Rat))), (y3, (encQ (((-1) : Int) : Rat)))] : List PR).length ((1 : Int) : Rat) ((2 : Int) : Rat))), (4, pt b57), (5, .int .i64 (checkE ([((⟨saNil, saNil⟩ : RA), (⟨false, ([] : List Nat), ([] : List Nat)⟩ : Raw)), ((⟨saNil, saNil⟩ : RA), (⟨false, ([] : List Nat), ([] : List Nat)⟩ : Raw)), ((⟨saNil, saNil⟩ : RA), (⟨false, ([] : List Nat), ([] : List Nat)⟩ : Raw)), (y39, (encQ ((5 : Int) : Rat)))] : List PR).length ((1 : Int) : Rat) (((1 : Int) : Rat) / ((4 : Int) : Rat)) 3))]) k_ ?_
              refine RD.done k_ ?_
              refine KN.meet (y39, b53, y52, y58, b57) [2, 3, 4, 5] [0, 1, 2, 3, 4, 5, 6, 7, 8, 9, 10, 11, 12, 13, 14] (l2 := [(2, pt b7), (3, .int .i64 (meanE ([(y1, (encQ ((1 : Int) : Rat))), (y3, (encQ (((-1) : Int) : Rat)))] : List PR).length ((1 : Int) : Rat) ((2 : Int) : Rat))), (4, pt b57), (5, .int .i64 (checkE ([((⟨saNil, saNil⟩ : RA), (⟨false, ([] : List Nat), ([] : List Nat)⟩ : Raw)), ((⟨saNil, saNil⟩ : RA), (⟨false, ([] : List Nat), ([] : List Nat)⟩ : Raw)), ((⟨saNil, saNil⟩ : RA), (⟨false, ([] : List Nat), ([] : List Nat)⟩ : Raw)), (y39, (encQ ((5 : Int) : Rat)))] : List PR).length ((1 : Int) : Rat) (((1 : Int) : Rat) / ((4 : Int) : Rat)) 3))]) (by exact h59) k_ (by rfl) (by rfl) (by rfl)
          · skip
            refine RDi.new (i := 11) (fun b => pt b) (.cells (ivC (⟨saNil, saNil⟩ : RA) (⟨false, ([] : List Nat), ([] : List Nat)⟩ : Raw) (⟨saNil, saNil⟩ : RA) (⟨false, ([] : List Nat), ([] : List Nat)⟩ : Raw)) 38 (0, 0)) k_ k_ k_ (fun w => by kernel_rfl) (fun b60 => ?_)
            refine RD.new (i := 4) (fun b => .slice (some ⟨b, 0, none⟩) 4 4) (.cells (encR ([((⟨saNil, saNil⟩ : RA), (⟨false, ([] : List Nat), ([] : List Nat)⟩ : Raw)), ((⟨saNil, saNil⟩ : RA), (⟨false, ([] : List Nat), ([] : List Nat)⟩ : Raw)), ((⟨saNil, saNil⟩ : RA), (⟨false, ([] : List Nat), ([] : List Nat)⟩ : Raw)), (y39, (encQ ((5 : Int) : Rat)))] : List PR)) 27 (0, 0)) k_ k_ k_ k_ (fun w => by kernel_rfl) (fun b61 => ?_)
            refine RD.share 0 rfl rfl k_ ?_
            refine RD.also (fRat (⟨saNil, saNil⟩ : RA) (⟨false, ([] : List Nat), ([] : List Nat)⟩ : Raw)) (fun w h => ⟨fU_nil w, fU_nil w⟩) k_ ?_
            refine RD.also (allRat ([((⟨saNil, saNil⟩ : RA), (⟨false, ([] : List Nat), ([] : List Nat)⟩ : Raw)), ((⟨saNil, saNil⟩ : RA), (⟨false, ([] : List Nat), ([] : List Nat)⟩ : Raw)), ((⟨saNil, saNil⟩ : RA), (⟨false, ([] : List Nat), ([] : List Nat)⟩ : Raw)), (y39, (encQ ((5 : Int) : Rat)))] : List PR)) (fun w h => allRat_cons (h _ (.head _)) (allRat_cons (h _ (.head _)) (allRat_cons (h _ (.head _)) (allRat_cons (h _ (.tail _ ((.tail _ ((.tail _ ((.head _)))))))) (allRat_nil _))))) k_ ?_
            refine RD.also (fRats (⟨some ⟨b61, 0, none⟩, 4⟩ : SA) ([((⟨saNil, saNil⟩ : RA), (⟨false, ([] : List Nat), ([] : List Nat)⟩ : Raw)), ((⟨saNil, saNil⟩ : RA), (⟨false, ([] : List Nat), ([] : List Nat)⟩ : Raw)), ((⟨saNil, saNil⟩ : RA), (⟨false, ([] : List Nat), ([] : List Nat)⟩ : Raw)), (y39, (encQ ((5 : Int) : Rat)))] : List PR)) (fun w h => fRats_own (h _ (.tail _ ((.tail _ ((.head _)))))) (h _ (.head _)) x_ x_) k_ ?_
            refine RD.turn 21 (v := .slice (some ⟨b61, 0, none⟩) 4 4) (v' := sl (⟨some ⟨b61, 0, none⟩, 4⟩ : SA) ([((⟨saNil, saNil⟩ : RA), (⟨false, ([] : List Nat), ([] : List Nat)⟩ : Raw)), ((⟨saNil, saNil⟩ : RA), (⟨false, ([] : List Nat), ([] : List Nat)⟩ : Raw)), ((⟨saNil, saNil⟩ : RA), (⟨false, ([] : List Nat), ([] : List Nat)⟩ : Raw)), (y39, (encQ ((5 : Int) : Rat)))] : List PR).length) k_ (sl_eq x_) ?_
            refine RD.call (i := 7) (m19_Scale_c (⟨some ⟨b61, 0, none⟩, 4⟩ : SA) ([((⟨saNil, saNil⟩ : RA), (⟨false, ([] : List Nat), ([] : List Nat)⟩ : Raw)), ((⟨saNil, saNil⟩ : RA), (⟨false, ([] : List Nat), ([] : List Nat)⟩ : Raw)), ((⟨saNil, saNil⟩ : RA), (⟨false, ([] : List Nat), ([] : List Nat)⟩ : Raw)), (y39, (encQ ((5 : Int) : Rat)))] : List PR) y1 ((1 : Int) : Rat) y52 (((1 : Int) : Rat) / ((4 : Int) : Rat)) 3 y_l19_awake y_l19_awake y_l19_awake y_l19_awake y_l19_awake) [0, 12, 4] k_ k_ k_ k_ k_ rfl (fun y62 h63 => ?_)
            refine RD.bat k_ [(8, none), (9, none), (10, none)] [2, 3, 4, 25, 26] [] (L' := [10, 9, 8, 7, 4, 11, 6, 3, 5, 2, 1, 0]) (l' := [(2, pt b7), (3, .int .i64 (meanE ([(y1, (encQ ((1 : Int) : Rat))), (y3, (encQ (((-1) : Int) : Rat)))] : List PR).length ((1 : Int) : Rat) ((2 : Int) : Rat))), (4, pt b60), (25, .agg (ivC y62.1 (encQ y62.2.2.1) y62.2.1 (encQ y62.2.2.2))), (26, .int .i64 (checkE ([((⟨saNil, saNil⟩ : RA), (⟨false, ([] : List Nat), ([] : List Nat)⟩ : Raw)), ((⟨saNil, saNil⟩ : RA), (⟨false, ([] : List Nat), ([] : List Nat)⟩ : Raw)), ((⟨saNil, saNil⟩ : RA), (⟨false, ([] : List Nat), ([] : List Nat)⟩ : Raw)), (y39, (encQ ((5 : Int) : Rat)))] : List PR).length ((1 : Int) : Rat) (((1 : Int) : Rat) / ((4 : Int) : Rat)) 3))]) k_ ?_
            refine RD.last (i := 12) (some 0) [2, 3, 4, 26] [b60, b60, b60, b60, b60, b60] k_ k_ k_ (l' := [(2, pt b7), (3, .int .i64 (meanE ([(y1, (encQ ((1 : Int) : Rat))), (y3, (encQ (((-1) : Int) : Rat)))] : List PR).length ((1 : Int) : Rat) ((2 : Int) : Rat))), (4, pt b60), (26, .int .i64 (checkE ([((⟨saNil, saNil⟩ : RA), (⟨false, ([] : List Nat), ([] : List Nat)⟩ : Raw)), ((⟨saNil, saNil⟩ : RA), (⟨false, ([] : List Nat), ([] : List Nat)⟩ : Raw)), ((⟨saNil, saNil⟩ : RA), (⟨false, ([] : List Nat), ([] : List Nat)⟩ : Raw)), (y39, (encQ ((5 : Int) : Rat)))] : List PR).length ((1 : Int) : Rat) (((1 : Int) : Rat) / ((4 : Int) : Rat)) 3))]) (M' := [(b60, .cells (ivC y62.1 (encQ y62.2.2.1) y62.2.1 (encQ y62.2.2.2)) 38 (0, 0)), (b7, .cells (ratC y6 (encQ (meanV ([(y1, (encQ ((1 : Int) : Rat))), (y3, (encQ (((-1) : Int) : Rat)))] : List PR) ((1 : Int) : Rat) ((2 : Int) : Rat)))) 27 (0, 0)), (b2, .cells (ratC y1 (encQ ((1 : Int) : Rat))) 27 (0, 0))]) k_ ?_
            refine RD.bat k_ [(13, none)] [2, 3, 4, 5] [] (L' := [13, 12, 10, 9, 8, 7, 4, 11, 6, 3, 5, 2, 1, 0]) (l' := [(2, pt b7), (3, .int .i64 (meanE ([(y1, (encQ ((1 : Int) : Rat))), (y3, (encQ (((-1) : Int) : Rat)))] : List PR).length ((1 : Int) : Rat) ((2 : Int) : Rat))), (4, pt b60), (5, .int .i64 (checkE ([((⟨saNil, saNil⟩ : RA), (⟨false, ([] : List Nat), ([] : List Nat)⟩ : Raw)), ((⟨saNil, saNil⟩ : RA), (⟨false, ([] : List Nat), ([] : List Nat)⟩ : Raw)), ((⟨saNil, saNil⟩ : RA), (⟨false, ([] : List Nat), ([] : List Nat)⟩ : Raw)), (y39, (encQ ((5 : Int) : Rat)))] : List PR).length ((1 : Int) : Rat) (((1 : Int) : Rat) / ((4 : Int) : Rat)) 3))]) k_ ?_
            refine RD.done k_ ?_
            refine KN.meet (y39, b61, y52, y62, b60) [2, 3, 4, 5] [0, 1, 2, 3, 4, 5, 6, 7, 8, 9, 10, 11, 12, 13, 14] (l2 := [(2, pt b7), (3, .int .i64 (meanE ([(y1, (encQ ((1 : Int) : Rat))), (y3, (encQ (((-1) : Int) : Rat)))] : List PR).length ((1 : Int) : Rat) ((2 : Int) : Rat))), (4, pt b60), (5, .int .i64 (checkE ([((⟨saNil, saNil⟩ : RA), (⟨false, ([] : List Nat), ([] : List Nat)⟩ : Raw)), ((⟨saNil, saNil⟩ : RA), (⟨false, ([] : List Nat), ([] : List Nat)⟩ : Raw)), ((⟨saNil, saNil⟩ : RA), (⟨false, ([] : List Nat), ([] : List Nat)⟩ : Raw)), (y39, (encQ ((5 : Int) : Rat)))] : List PR).length ((1 : Int) : Rat) (((1 : Int) : Rat) / ((4 : Int) : Rat)) 3))]) (by exact h63) k_ (by rfl) (by rfl) (by rfl)
        · skip
          refine RDi.new (i := 11) (fun b => pt b) (.cells (ivC (⟨saNil, saNil⟩ : RA) (⟨false, ([] : List Nat), ([] : List Nat)⟩ : Raw) (⟨saNil, saNil⟩ : RA) (⟨false, ([] : List Nat), ([] : List Nat)⟩ : Raw)) 38 (0, 0)) k_ k_ k_ (fun w => by kernel_rfl) (fun b64 => ?_)
          refine RD.forkL (is := [4, 6]) k_ rfl k_ ⟨?_, ?_, trivial⟩
          · skip
            refine RDi.new (i := 4) (fun b => .slice (some ⟨b, 0, none⟩) 4 4) (.cells (encR ([((⟨saNil, saNil⟩ : RA), (⟨false, ([] : List Nat), ([] : List Nat)⟩ : Raw)), ((⟨saNil, saNil⟩ : RA), (⟨false, ([] : List Nat), ([] : List Nat)⟩ : Raw)), ((⟨saNil, saNil⟩ : RA), (⟨false, ([] : List Nat), ([] : List Nat)⟩ : Raw)), (y39, (encQ ((5 : Int) : Rat)))] : List PR)) 27 (0, 0)) k_ k_ k_ (fun w => by kernel_rfl) (fun b65 => ?_)
            refine RD.call (i := 6) (r03_Fraction 1 4 y_l19_awake y_l19_awake y_l19_awake y_l19_awake y_l19_awake) [] k_ k_ k_ k_ k_ rfl (fun y66 _ => ?_)
            refine RD.share 0 rfl rfl k_ ?_
            refine RD.also (fRat (⟨saNil, saNil⟩ : RA) (⟨false, ([] : List Nat), ([] : List Nat)⟩ : Raw)) (fun w h => ⟨fU_nil w, fU_nil w⟩) k_ ?_
            refine RD.also (allRat ([((⟨saNil, saNil⟩ : RA), (⟨false, ([] : List Nat), ([] : List Nat)⟩ : Raw)), ((⟨saNil, saNil⟩ : RA), (⟨false, ([] : List Nat), ([] : List Nat)⟩ : Raw)), ((⟨saNil, saNil⟩ : RA), (⟨false, ([] : List Nat), ([] : List Nat)⟩ : Raw)), (y39, (encQ ((5 : Int) : Rat)))] : List PR)) (fun w h => allRat_cons (h _ (.head _)) (allRat_cons (h _ (.head _)) (allRat_cons (h _ (.head _)) (allRat_cons (h _ (.tail _ ((.tail _ ((.tail _ ((.head _)))))))) (allRat_nil _))))) k_ ?_
            refine RD.also (fRats (⟨some ⟨b65, 0, none⟩, 4⟩ : SA) ([((⟨saNil, saNil⟩ : RA), (⟨false, ([] : List Nat), ([] : List Nat)⟩ : Raw)), ((⟨saNil, saNil⟩ : RA), (⟨false, ([] : List Nat), ([] : List Nat)⟩ : Raw)), ((⟨saNil, saNil⟩ : RA), (⟨false, ([] : List Nat), ([] : List Nat)⟩ : Raw)), (y39, (encQ ((5 : Int) : Rat)))] : List PR)) (fun w h => fRats_own (h _ (.tail _ ((.tail _ ((.head _)))))) (h _ (.head _)) x_ x_) k_ ?_
            refine RD.turn 21 (v := .slice (some ⟨b65, 0, none⟩) 4 4) (v' := sl (⟨some ⟨b65, 0, none⟩, 4⟩ : SA) ([((⟨saNil, saNil⟩ : RA), (⟨false, ([] : List Nat), ([] : List Nat)⟩ : Raw)), ((⟨saNil, saNil⟩ : RA), (⟨false, ([] : List Nat), ([] : List Nat)⟩ : Raw)), ((⟨saNil, saNil⟩ : RA), (⟨false, ([] : List Nat), ([] : List Nat)⟩ : Raw)), (y39, (encQ ((5 : Int) : Rat)))] : List PR).length) k_ (sl_eq x_) ?_
            refine RD.call (i := 7) (m19_Scale_c (⟨some ⟨b65, 0, none⟩, 4⟩ : SA) ([((⟨saNil, saNil⟩ : RA), (⟨false, ([] : List Nat), ([] : List Nat)⟩ : Raw)), ((⟨saNil, saNil⟩ : RA), (⟨false, ([] : List Nat), ([] : List Nat)⟩ : Raw)), ((⟨saNil, saNil⟩ : RA), (⟨false, ([] : List Nat), ([] : List Nat)⟩ : Raw)), (y39, (encQ ((5 : Int) : Rat)))] : List PR) y1 ((1 : Int) : Rat) y66 (((1 : Int) : Rat) / ((4 : Int) : Rat)) 3 y_l19_awake y_l19_awake y_l19_awake y_l19_awake y_l19_awake) [0, 12, 4] k_ k_ k_ k_ k_ rfl (fun y67 h68 => ?_)
            refine RD.bat k_ [(8, none), (9, none), (10, none)] [2, 3, 4, 25, 26] [] (L' := [10, 9, 8, 7, 6, 4, 11, 3, 5, 2, 1, 0]) (l' := [(2, pt b7), (3, .int .i64 (meanE ([(y1, (encQ ((1 : Int) : Rat))), (y3, (encQ (((-1) : Int) : Rat)))] : List PR).length ((1 : Int) : Rat) ((2 : Int) : Rat))), (4, pt b64), (25, .agg (ivC y67.1 (encQ y67.2.2.1) y67.2.1 (encQ y67.2.2.2))), (26, .int .i64 (checkE ([((⟨saNil, saNil⟩ : RA), (⟨false, ([] : List Nat), ([] : List Nat)⟩ : Raw)), ((⟨saNil, saNil⟩ : RA), (⟨false, ([] : List Nat), ([] : List Nat)⟩ : Raw)), ((⟨saNil, saNil⟩ : RA), (⟨false, ([] : List Nat), ([] : List Nat)⟩ : Raw)), (y39, (encQ ((5 : Int) : Rat)))] : List PR).length ((1 : Int) : Rat) (((1 : Int) : Rat) / ((4 : Int) : Rat)) 3))]) k_ ?_
            refine RD.last (i := 12) (some 0) [2, 3, 4, 26] [b64, b64, b64, b64, b64, b64] k_ k_ k_ (l' := [(2, pt b7), (3, .int .i64 (meanE ([(y1, (encQ ((1 : Int) : Rat))), (y3, (encQ (((-1) : Int) : Rat)))] : List PR).length ((1 : Int) : Rat) ((2 : Int) : Rat))), (4, pt b64), (26, .int .i64 (checkE ([((⟨saNil, saNil⟩ : RA), (⟨false, ([] : List Nat), ([] : List Nat)⟩ : Raw)), ((⟨saNil, saNil⟩ : RA), (⟨false, ([] : List Nat), ([] : List Nat)⟩ : Raw)), ((⟨saNil, saNil⟩ : RA), (⟨false, ([] : List Nat), ([] : List Nat)⟩ : Raw)), (y39, (encQ ((5 : Int) : Rat)))] : List PR).length ((1 : Int) : Rat) (((1 : Int) : Rat) / ((4 : Int) : Rat)) 3))]) (M' := [(b64, .cells (ivC y67.1 (encQ y67.2.2.1) y67.2.1 (encQ y67.2.2.2)) 38 (0, 0)), (b7, .cells (ratC y6 (encQ (meanV ([(y1, (encQ ((1 : Int) : Rat))), (y3, (encQ (((-1) : Int) : Rat)))] : List PR) ((1 : Int) : Rat) ((2 : Int) : Rat)))) 27 (0, 0)), (b2, .cells (ratC y1 (encQ ((1 : Int) : Rat))) 27 (0, 0))]) k_ ?_
            refine RD.bat k_ [(13, none)] [2, 3, 4, 5] [] (L' := [13, 12, 10, 9, 8, 7, 6, 4, 11, 3, 5, 2, 1, 0]) (l' := [(2, pt b7), (3, .int .i64 (meanE ([(y1, (encQ ((1 : Int) : Rat))), (y3, (encQ (((-1) : Int) : Rat)))] : List PR).length ((1 : Int) : Rat) ((2 : Int) : Rat))), (4, pt b64), (5, .int .i64 (checkE ([((⟨saNil, saNil⟩ : RA), (⟨false, ([] : List Nat), ([] : List Nat)⟩ : Raw)), ((⟨saNil, saNil⟩ : RA), (⟨false, ([] : List Nat), ([] : List Nat)⟩ : Raw)), ((⟨saNil, saNil⟩ : RA), (⟨false, ([] : List Nat), ([] : List Nat)⟩ : Raw)), (y39, (encQ ((5 : Int) : Rat)))] : List PR).length ((1 : Int) : Rat) (((1 : Int) : Rat) / ((4 : Int) : Rat)) 3))]) k_ ?_
            refine RD.done k_ ?_
            refine KN.meet (y39, b65, y66, y67, b64) [2, 3, 4, 5] [0, 1, 2, 3, 4, 5, 6, 7, 8, 9, 10, 11, 12, 13, 14] (l2 := [(2, pt b7), (3, .int .i64 (meanE ([(y1, (encQ ((1 : Int) : Rat))), (y3, (encQ (((-1) : Int) : Rat)))] : List PR).length ((1 : Int) : Rat) ((2 : Int) : Rat))), (4, pt b64), (5, .int .i64 (checkE ([((⟨saNil, saNil⟩ : RA), (⟨false, ([] : List Nat), ([] : List Nat)⟩ : Raw)), ((⟨saNil, saNil⟩ : RA), (⟨false, ([] : List Nat), ([] : List Nat)⟩ : Raw)), ((⟨saNil, saNil⟩ : RA), (⟨false, ([] : List Nat), ([] : List Nat)⟩ : Raw)), (y39, (encQ ((5 : Int) : Rat)))] : List PR).length ((1 : Int) : Rat) (((1 : Int) : Rat) / ((4 : Int) : Rat)) 3))]) (by exact h68) k_ (by rfl) (by rfl) (by rfl)
          · skip
            refine RDi.call (i := 6) (r03_Fraction 1 4 y_l19_awake y_l19_awake y_l19_awake y_l19_awake y_l19_awake) [] k_ k_ k_ k_ rfl (fun y69 _ => ?_)
            refine RD.new (i := 4) (fun b => .slice (some ⟨b, 0, none⟩) 4 4) (.cells (encR ([((⟨saNil, saNil⟩ : RA), (⟨false, ([] : List Nat), ([] : List Nat)⟩ : Raw)), ((⟨saNil, saNil⟩ : RA), (⟨false, ([] : List Nat), ([] : List Nat)⟩ : Raw)), ((⟨saNil, saNil⟩ : RA), (⟨false, ([] : List Nat), ([] : List Nat)⟩ : Raw)), (y39, (encQ ((5 : Int) : Rat)))] : List PR)) 27 (0, 0)) k_ k_ k_ k_ (fun w => by kernel_rfl) (fun b70 => ?_)
            refine RD.share 0 rfl rfl k_ ?_
            refine RD.also (fRat (⟨saNil, saNil⟩ : RA) (⟨false, ([] : List Nat), ([] : List Nat)⟩ : Raw)) (fun w h => ⟨fU_nil w, fU_nil w⟩) k_ ?_
            refine RD.also (allRat ([((⟨saNil, saNil⟩ : RA), (⟨false, ([] : List Nat), ([] : List Nat)⟩ : Raw)), ((⟨saNil, saNil⟩ : RA), (⟨false, ([] : List Nat), ([] : List Nat)⟩ : Raw)), ((⟨saNil, saNil⟩ : RA), (⟨false, ([] : List Nat), ([] : List Nat)⟩ : Raw)), (y39, (encQ ((5 : Int) : Rat)))] : List PR)) (fun w h => allRat_cons (h _ (.head _)) (allRat_cons (h _ (.head _)) (allRat_cons (h _ (.head _)) (allRat_cons (h _ (.tail _ ((.tail _ ((.tail _ ((.head _)))))))) (allRat_nil _))))) k_ ?_
            refine RD.also (fRats (⟨some ⟨b70, 0, none⟩, 4⟩ : SA) ([((⟨saNil, saNil⟩ : RA), (⟨false, ([] : List Nat), ([] : List Nat)⟩ : Raw)), ((⟨saNil, saNil⟩ : RA), (⟨false, ([] : List Nat), ([] : List Nat)⟩ : Raw)), ((⟨saNil, saNil⟩ : RA), (⟨false, ([] : List Nat), ([] : List Nat)⟩ : Raw)), (y39, (encQ ((5 : Int) : Rat)))] : List PR)) (fun w h => fRats_own (h _ (.tail _ ((.tail _ ((.head _)))))) (h _ (.head _)) x_ x_) k_ ?_
            refine RD.turn 21 (v := .slice (some ⟨b70, 0, none⟩) 4 4) (v' := sl (⟨some ⟨b70, 0, none⟩, 4⟩ : SA) ([((⟨saNil, saNil⟩ : RA), (⟨false, ([] : List Nat), ([] : List Nat)⟩ : Raw)), ((⟨saNil, saNil⟩ : RA), (⟨false, ([] : List Nat), ([] : List Nat)⟩ : Raw)), ((⟨saNil, saNil⟩ : RA), (⟨false, ([] : List Nat), ([] : List Nat)⟩ : Raw)), (y39, (encQ ((5 : Int) : Rat)))] : List PR).length) k_ (sl_eq x_) ?_
            refine RD.call (i := 7) (m19_Scale_c (⟨some ⟨b70, 0, none⟩, 4⟩ : SA) ([((⟨saNil, saNil⟩ : RA), (⟨false, ([] : List Nat), ([] : List Nat)⟩ : Raw)), ((⟨saNil, saNil⟩ : RA), (⟨false, ([] : List Nat), ([] : List Nat)⟩ : Raw)), ((⟨saNil, saNil⟩ : RA), (⟨false, ([] : List Nat), ([] : List Nat)⟩ : Raw)), (y39, (encQ ((5 : Int) : Rat)))] : List PR) y1 ((1 : Int) : Rat) y69 (((1 : Int) : Rat) / ((4 : Int) : Rat)) 3 y_l19_awake y_l19_awake y_l19_awake y_l19_awake y_l19_awake) [0, 12, 4] k_ k_ k_ k_ k_ rfl (fun y71 h72 => ?_)
            refine RD.bat k_ [(8, none), (9, none), (10, none)] [2, 3, 4, 25, 26] [] (L' := [10, 9, 8, 7, 4, 6, 11, 3, 5, 2, 1, 0]) (l' := [(2, pt b7), (3, .int .i64 (meanE ([(y1, (encQ ((1 : Int) : Rat))), (y3, (encQ (((-1) : Int) : Rat)))] : List PR).length ((1 : Int) : Rat) ((2 : Int) : Rat))), (4, pt b64), (25, .agg (ivC y71.1 (encQ y71.2.2.1) y71.2.1 (encQ y71.2.2.2))), (26, .int .i64 (checkE ([((⟨saNil, saNil⟩ : RA), (⟨false, ([] : List Nat), ([] : List Nat)⟩ : Raw)), ((⟨saNil, saNil⟩ : RA), (⟨false, ([] : List Nat), ([] : List Nat)⟩ : Raw)), ((⟨saNil, saNil⟩ : RA), (⟨false, ([] : List Nat), ([] : List Nat)⟩ : Raw)), (y39, (encQ ((5 : Int) : Rat)))] : List PR).length ((1 : Int) : Rat) (((1 : Int) : Rat) / ((4 : Int) : Rat)) 3))]) k_ ?_
            refine RD.last (i := 12) (some 0) [2, 3, 4, 26] [b64, b64, b64, b64, b64, b64] k_ k_ k_ (l' := [(2, pt b7), (3, .int .i64 (meanE ([(y1, (encQ ((1 : Int) : Rat))), (y3, (encQ (((-1) : Int) : Rat)))] : List PR).length ((1 : Int) : Rat) ((2 : Int) : Rat))), (4, pt b64), (26, .int .i64 (checkE ([((⟨saNil, saNil⟩ : RA), (⟨false, ([] : List Nat), ([] : List Nat)⟩ : Raw)), ((⟨saNil, saNil⟩ : RA), (⟨false, ([] : List Nat), ([] : List Nat)⟩ : Raw)), ((⟨saNil, saNil⟩ : RA), (⟨false, ([] : List Nat), ([] : List Nat)⟩ : Raw)), (y39, (encQ ((5 : Int) : Rat)))] : List PR).length ((1 : Int) : Rat) (((1 : Int) : Rat) / ((4 : Int) : Rat)) 3))]) (M' := [(b64, .cells (ivC y71.1 (encQ y71.2.2.1) y71.2.1 (encQ y71.2.2.2)) 38 (0, 0)), (b7, .cells (ratC y6 (encQ (meanV ([(y1, (encQ ((1 : Int) : Rat))), (y3, (encQ (((-1) : Int) : Rat)))] : List PR) ((1 : Int) : Rat) ((2 : Int) : Rat)))) 27 (0, 0)), (b2, .cells (ratC y1 (encQ ((1 : Int) : Rat))) 27 (0, 0))]) k_ ?_
            refine RD.bat k_ [(13, none)] [2, 3, 4, 5] [] (L' := [13, 12, 10, 9, 8, 7, 4, 6, 11, 3, 5, 2, 1, 0]) (l' := [(2, pt b7), (3, .int .i64 (meanE ([(y1, (encQ ((1 : Int) : Rat))), (y3, (encQ (((-1) : Int) : Rat)))] : List PR).length ((1 : Int) : Rat) ((2 : Int) : Rat))), (4, pt b64), (5, .int .i64 (checkE ([((⟨saNil, saNil⟩ : RA), (⟨false, ([] : List Nat), ([] : List Nat)⟩ : Raw)), ((⟨saNil, saNil⟩ : RA), (⟨false, ([] : List Nat), ([] : List Nat)⟩ : Raw)), ((⟨saNil, saNil⟩ : RA), (⟨false, ([] : List Nat), ([] : List Nat)⟩ : Raw)), (y39, (encQ ((5 : Int) : Rat)))] : List PR).length ((1 : Int) : Rat) (((1 : Int) : Rat) / ((4 : Int) : Rat)) 3))]) k_ ?_
            refine RD.done k_ ?_
            refine KN.meet (y39, b70, y69, y71, b64) [2, 3, 4, 5] [0, 1, 2, 3, 4, 5, 6, 7, 8, 9, 10, 11, 12, 13, 14] (l2 := [(2, pt b7), (3, .int .i64 (meanE ([(y1, (encQ ((1 : Int) : Rat))), (y3, (encQ (((-1) : Int) : Rat)))] : List PR).length ((1 : Int) : Rat) ((2 : Int) : Rat))), (4, pt b64), (5, .int .i64 (checkE ([((⟨saNil, saNil⟩ : RA), (⟨false, ([] : List Nat), ([] : List Nat)⟩ : Raw)), ((⟨saNil, saNil⟩ : RA), (⟨false, ([] : List Nat), ([] : List Nat)⟩ : Raw)), ((⟨saNil, saNil⟩ : RA), (⟨false, ([] : List Nat), ([] : List Nat)⟩ : Raw)), (y39, (encQ ((5 : Int) : Rat)))] : List PR).length ((1 : Int) : Rat) (((1 : Int) : Rat) / ((4 : Int) : Rat)) 3))]) (by exact h72) k_ (by rfl) (by rfl) (by rfl)
      · skip
        refine RDi.new (i := 11) (fun b => pt b) (.cells (ivC (⟨saNil, saNil⟩ : RA) (⟨false, ([] : List Nat), ([] : List Nat)⟩ : Raw) (⟨saNil, saNil⟩ : RA) (⟨false, ([] : List Nat), ([] : List Nat)⟩ : Raw)) 38 (0, 0)) k_ k_ k_ (fun w => by kernel_rfl) (fun b73 => ?_)
        refine RD.call (i := 3) (r03_FromInt 5 y_l19_awake y_l19_awake) [] k_ k_ k_ k_ k_ rfl (fun y74 _ => ?_)
        refine RD.forkL (is := [4, 6]) k_ rfl k_ ⟨?_, ?_, trivial⟩
        · skip
          refine RDi.new (i := 4) (fun b => .slice (some ⟨b, 0, none⟩) 4 4) (.cells (encR ([((⟨saNil, saNil⟩ : RA), (⟨false, ([] : List Nat), ([] : List Nat)⟩ : Raw)), ((⟨saNil, saNil⟩ : RA), (⟨false, ([] : List Nat), ([] : List Nat)⟩ : Raw)), ((⟨saNil, saNil⟩ : RA), (⟨false, ([] : List Nat), ([] : List Nat)⟩ : Raw)), (y74, (encQ ((5 : Int) : Rat)))] : List PR)) 27 (0, 0)) k_ k_ k_ (fun w => by kernel_rfl) (fun b75 => ?_)
          refine RD.call (i := 6) (r03_Fraction 1 4 y_l19_awake y_l19_awake y_l19_awake y_l19_awake y_l19_awake) [] k_ k_ k_ k_ k_ rfl (fun y76 _ => ?_)
          refine RD.share 0 rfl rfl k_ ?_
          refine RD.also (fRat (⟨saNil, saNil⟩ : RA) (⟨false, ([] : List Nat), ([] : List Nat)⟩ : Raw)) (fun w h => ⟨fU_nil w, fU_nil w⟩) k_ ?_
          refine RD.also (allRat ([((⟨saNil, saNil⟩ : RA), (⟨false, ([] : List Nat), ([] : List Nat)⟩ : Raw)), ((⟨saNil, saNil⟩ : RA), (⟨false, ([] : List Nat), ([] : List Nat)⟩ : Raw)), ((⟨saNil, saNil⟩ : RA), (⟨false, ([] : List Nat), ([] : List Nat)⟩ : Raw)), (y74, (encQ ((5 : Int) : Rat)))] : List PR)) (fun w h => allRat_cons (h _ (.head _)) (allRat_cons (h _ (.head _)) (allRat_cons (h _ (.head _)) (allRat_cons (h _ (.tail _ ((.tail _ ((.tail _ ((.head _)))))))) (allRat_nil _))))) k_ ?_
          refine RD.also (fRats (⟨some ⟨b75, 0, none⟩, 4⟩ : SA) ([((⟨saNil, saNil⟩ : RA), (⟨false, ([] : List Nat), ([] : List Nat)⟩ : Raw)), ((⟨saNil, saNil⟩ : RA), (⟨false, ([] : List Nat), ([] : List Nat)⟩ : Raw)), ((⟨saNil, saNil⟩ : RA), (⟨false, ([] : List Nat), ([] : List Nat)⟩ : Raw)), (y74, (encQ ((5 : Int) : Rat)))] : List PR)) (fun w h => fRats_own (h _ (.tail _ ((.tail _ ((.head _)))))) (h _ (.head _)) x_ x_) k_ ?_
          refine RD.turn 21 (v := .slice (some ⟨b75, 0, none⟩) 4 4) (v' := sl (⟨some ⟨b75, 0, none⟩, 4⟩ : SA) ([((⟨saNil, saNil⟩ : RA), (⟨false, ([] : List Nat), ([] : List Nat)⟩ : Raw)), ((⟨saNil, saNil⟩ : RA), (⟨false, ([] : List Nat), ([] : List Nat)⟩ : Raw)), ((⟨saNil, saNil⟩ : RA), (⟨false, ([] : List Nat), ([] : List Nat)⟩ : Raw)), (y74, (encQ ((5 : Int) : Rat)))] : List PR).length) k_ (sl_eq x_) ?_
          refine RD.call (i := 7) (m19_Scale_c (⟨some ⟨b75, 0, none⟩, 4⟩ : SA) ([((⟨saNil, saNil⟩ : RA), (⟨false, ([] : List Nat), ([] : List Nat)⟩ : Raw)), ((⟨saNil, saNil⟩ : RA), (⟨false, ([] : List Nat), ([] : List Nat)⟩ : Raw)), ((⟨saNil, saNil⟩ : RA), (⟨false, ([] : List Nat), ([] : List Nat)⟩ : Raw)), (y74, (encQ ((5 : Int) : Rat)))] : List PR) y1 ((1 : Int) : Rat) y76 (((1 : Int) : Rat) / ((4 : Int) : Rat)) 3 y_l19_awake y_l19_awake y_l19_awake y_l19_awake y_l19_awake) [0, 12, 4] k_ k_ k_ k_ k_ rfl (fun y77 h78 => ?_)
          refine RD.bat k_ [(8, none), (9, none), (10, none)] [2, 3, 4, 25, 26] [] (L' := [10, 9, 8, 7, 6, 4, 3, 11, 5, 2, 1, 0]) (l' := [(2, pt b7), (3, .int .i64 (meanE ([(y1, (encQ ((1 : Int) : Rat))), (y3, (encQ (((-1) : Int) : Rat)))] : List PR).length ((1 : Int) : Rat) ((2 : Int) : Rat))), (4, pt b73), (25, .agg (ivC y77.1 (encQ y77.2.2.1) y77.2.1 (encQ y77.2.2.2))), (26, .int .i64 (checkE ([((⟨saNil, saNil⟩ : RA), (⟨false, ([] : List Nat), ([] : List Nat)⟩ : Raw)), ((⟨saNil, saNil⟩ : RA), (⟨false, ([] : List Nat), ([] : List Nat)⟩ : Raw)), ((⟨saNil, saNil⟩ : RA), (⟨false, ([] : List Nat), ([] : List Nat)⟩ : Raw)), (y74, (encQ ((5 : Int) : Rat)))] : List PR).length ((1 : Int) : Rat) (((1 : Int) : Rat) / ((4 : Int) : Rat)) 3))]) k_ ?_
          refine RD.last (i := 12) (some 0) [2, 3, 4, 26] [b73, b73, b73, b73, b73, b73] k_ k_ k_ (l' := [(2, pt b7), (3, .int .i64 (meanE ([(y1, (encQ ((1 : Int) : Rat))), (y3, (encQ (((-1) : Int) : Rat)))] : List PR).length ((1 : Int) : Rat) ((2 : Int) : Rat))), (4, pt b73), (26, .int .i64 (checkE ([((⟨saNil, saNil⟩ : RA), (⟨false, ([] : List Nat), ([] : List Nat)⟩ : Raw)), ((⟨saNil, saNil⟩ : RA), (⟨false, ([] : List Nat), ([] : List Nat)⟩ : Raw)), ((⟨saNil, saNil⟩ : RA), (⟨false, ([] : List Nat), ([] : List Nat)⟩ : Raw)), (y74, (encQ ((5 : Int) : Rat)))] : List PR).length ((1 : Int) : Rat) (((1 : Int) : Rat) / ((4 : Int) : Rat)) 3))]) (M' := [(b73, .cells (ivC y77.1 (encQ y77.2.2.1) y77.2.1 (encQ y77.2.2.2)) 38 (0, 0)), (b7, .cells (ratC y6 (encQ (meanV ([(y1, (encQ ((1 : Int) : Rat))), (y3, (encQ (((-1) : Int) : Rat)))] : List PR) ((1 : Int) : Rat) ((2 : Int) : Rat)))) 27 (0, 0)), (b2, .cells (ratC y1 (encQ ((1 : Int) : Rat))) 27 (0, 0))]) k_ ?_
          refine RD.bat k_ [(13, none)] [2, 3, 4, 5] [] (L' := [13, 12, 10, 9, 8, 7, 6, 4, 3, 11, 5, 2, 1, 0]) (l' := [(2, pt b7), (3, .int .i64 (meanE ([(y1, (encQ ((1 : Int) : Rat))), (y3, (encQ (((-1) : Int) : Rat)))] : List PR).length ((1 : Int) : Rat) ((2 : Int) : Rat))), (4, pt b73), (5, .int .i64 (checkE ([((⟨saNil, saNil⟩ : RA), (⟨false, ([] : List Nat), ([] : List Nat)⟩ : Raw)), ((⟨saNil, saNil⟩ : RA), (⟨false, ([] : List Nat), ([] : List Nat)⟩ : Raw)), ((⟨saNil, saNil⟩ : RA), (⟨false, ([] : List Nat), ([] : List Nat)⟩ : Raw)), (y74, (encQ ((5 : Int) : Rat)))] : List PR).length ((1 : Int) : Rat) (((1 : Int) : Rat) / ((4 : Int) : Rat)) 3))]) k_ ?_
          refine RD.done k_ ?_
          refine KN.meet (y74, b75, y76, y77, b73) [2, 3, 4, 5] [0, 1, 2, 3, 4, 5, 6, 7, 8, 9, 10, 11, 12, 13, 14] (l2 := [(2, pt b7), (3, .int .i64 (meanE ([(y1, (encQ ((1 : Int) : Rat))), (y3, (encQ (((-1) : Int) : Rat)))] : List PR).length ((1 : Int) : Rat) ((2 : Int) : Rat))), (4, pt b73), (5, .int .i64 (checkE ([((⟨saNil, saNil⟩ : RA), (⟨false, ([] : List Nat), ([] : List Nat)⟩ : Raw)), ((⟨saNil, saNil⟩ : RA), (⟨false, ([] : List Nat), ([] : List Nat)⟩ : Raw)), ((⟨saNil, saNil⟩ : RA), (⟨false, ([] : List Nat), ([] : List Nat)⟩ : Raw)), (y74, (encQ ((5 : Int) : Rat)))] : List PR).length ((1 : Int) : Rat) (((1 : Int) : Rat) / ((4 : Int) : Rat)) 3))]) (by exact h78) k_ (by rfl) (by rfl) (by rfl)
        · skip
          refine RDi.call (i := 6) (r03_Fraction 1 4 y_l19_awake y_l19_awake y_l19_awake y_l19_awake y_l19_awake) [] k_ k_ k_ k_ rfl (fun y79 _ => ?_)
          refine RD.new (i := 4) (fun b => .slice (some ⟨b, 0, none⟩) 4 4) (.cells (encR ([((⟨saNil, saNil⟩ : RA), (⟨false, ([] : List Nat), ([] : List Nat)⟩ : Raw)), ((⟨saNil, saNil⟩ : RA), (⟨false, ([] : List Nat), ([] : List Nat)⟩ : Raw)), ((⟨saNil, saNil⟩ : RA), (⟨false, ([] : List Nat), ([] : List Nat)⟩ : Raw)), (y74, (encQ ((5 : Int) : Rat)))] : List PR)) 27 (0, 0)) k_ k_ k_ k_ (fun w => by kernel_rfl) (fun b80 => ?_)
          refine RD.share 0 rfl rfl k_ ?_
          refine RD.also (fRat (⟨saNil, saNil⟩ : RA) (⟨false, ([] : List Nat), ([] : List Nat)⟩ : Raw)) (fun w h => ⟨fU_nil w, fU_nil w⟩) k_ ?_
          refine RD.also (allRat ([((⟨saNil, saNil⟩ : RA), (⟨false, ([] : List Nat), ([] : List Nat)⟩ : Raw)), ((⟨saNil, saNil⟩ : RA), (⟨false, ([] : List Nat), ([] : List Nat)⟩ : Raw)), ((⟨saNil, saNil⟩ : RA), (⟨false, ([] : List Nat), ([] : List Nat)⟩ : Raw)), (y74, (encQ ((5 : Int) : Rat)))] : List PR)) (fun w h => allRat_cons (h _ (.head _)) (allRat_cons (h _ (.head _)) (allRat_cons (h _ (.head _)) (allRat_cons (h _ (.tail _ ((.tail _ ((.tail _ ((.head _)))))))) (allRat_nil _))))) k_ ?_
          refine RD.also (fRats (⟨some ⟨b80, 0, none⟩, 4⟩ : SA) ([((⟨saNil, saNil⟩ : RA), (⟨false, ([] : List Nat), ([] : List Nat)⟩ : Raw)), ((⟨saNil, saNil⟩ : RA), (⟨false, ([] : List Nat), ([] : List Nat)⟩ : Raw)), ((⟨saNil, saNil⟩ : RA), (⟨false, ([] : List Nat), ([] : List Nat)⟩ : Raw)), (y74, (encQ ((5 : Int) : Rat)))] : List PR)) (fun w h => fRats_own (h _ (.tail _ ((.tail _ ((.head _)))))) (h _ (.head _)) x_ x_) k_ ?_
          refine RD.turn 21 (v := .slice (some ⟨b80, 0, none⟩) 4 4) (v' := sl (⟨some ⟨b80, 0, none⟩, 4⟩ : SA) ([((⟨saNil, saNil⟩ : RA), (⟨false, ([] : List Nat), ([] : List Nat)⟩ : Raw)), ((⟨saNil, saNil⟩ : RA), (⟨false, ([] : List Nat), ([] : List Nat)⟩ : Raw)), ((⟨saNil, saNil⟩ : RA), (⟨false, ([] : List Nat), ([] : List Nat)⟩ : Raw)), (y74, (encQ ((5 : Int) : Rat)))] : List PR).length) k_ (sl_eq x_) ?_
          refine RD.call (i := 7) (m19_Scale_c (⟨some ⟨b80, 0, none⟩, 4⟩ : SA) ([((⟨saNil, saNil⟩ : RA), (⟨false, ([] : List Nat), ([] : List Nat)⟩ : Raw)), ((⟨saNil, saNil⟩ : RA), (⟨false, ([] : List Nat), ([] : List Nat)⟩ : Raw)), ((⟨saNil, saNil⟩ : RA), (⟨false, ([] : List Nat), ([] : List Nat)⟩ : Raw)), (y74, (encQ ((5 : Int) : Rat)))] : List PR) y1 ((1 : Int) : Rat) y79 (((1 : Int) : Rat) / ((4 : Int) : Rat)) 3 y_l19_awake y_l19_awake y_l19_awake y_l19_awake y_l19_awake) [0, 12, 4] k_ k_ k_ k_ k_ rfl (fun y81 h82 => ?_)
          refine RD.bat k_ [(8, none), (9, none), (10, none)] [2, 3, 4, 25, 26] [] (L' := [10, 9, 8, 7, 4, 6, 3, 11, 5, 2, 1, 0]) (l' := [(2, pt b7), (3, .int .i64 (meanE ([(y1, (encQ ((1 : Int) : Rat))), (y3, (encQ (((-1) : Int) : Rat)))] : List PR).length ((1 : Int) : Rat) ((2 : Int) : Rat))), (4, pt b73), (25, .agg (ivC y81.1 (encQ y81.2.2.1) y81.2.1 (encQ y81.2.2.2))), (26, .int .i64 (checkE ([((⟨saNil, saNil⟩ : RA), (⟨false, ([] : List Nat), ([] : List Nat)⟩ : Raw)), ((⟨saNil, saNil⟩ : RA), (⟨false, ([] : List Nat), ([] : List Nat)⟩ : Raw)), ((⟨saNil, saNil⟩ : RA), (⟨false, ([] : List Nat), ([] : List Nat)⟩ : Raw)), (y74, (encQ ((5 : Int) : Rat)))] : List PR).length ((1 : Int) : Rat) (((1 : Int) : Rat) / ((4 : Int) : Rat)) 3))]) k_ ?_
          refine RD.last (i := 12) (some 0) [2, 3, 4, 26] [b73, b73, b73, b73, b73, b73] k_ k_ k_ (l' := [(2, pt b7), (3, .int .i64 (meanE ([(y1, (encQ ((1 : Int) : Rat))), (y3, (encQ (((-1) : Int) : Rat)))] : List PR).length ((1 : Int) : Rat) ((2 : Int) : Rat))), (4, pt b73), (26, .int .i64 (checkE ([((⟨saNil, saNil⟩ : RA), (⟨false, ([] : List Nat), ([] : List Nat)⟩ : Raw)), ((⟨saNil, saNil⟩ : RA), (⟨false, ([] : List Nat), ([] : List Nat)⟩ : Raw)), ((⟨saNil, saNil⟩ : RA), (⟨false, ([] : List Nat), ([] : List Nat)⟩ : Raw)), (y74, (encQ ((5 : Int) : Rat)))] : List PR).length ((1 : Int) : Rat) (((1 : Int) : Rat) / ((4 : Int) : Rat)) 3))]) (M' := [(b73, .cells (ivC y81.1 (encQ y81.2.2.1) y81.2.1 (encQ y81.2.2.2)) 38 (0, 0)), (b7, .cells (ratC y6 (encQ (meanV ([(y1, (encQ ((1 : Int) : Rat))), (y3, (encQ (((-1) : Int) : Rat)))] : List PR) ((1 : Int) : Rat) ((2 : Int) : Rat)))) 27 (0, 0)), (b2, .cells (ratC y1 (encQ ((1 : Int) : Rat))) 27 (0, 0))]) k_ ?_
          refine RD.bat k_ [(13, none)] [2, 3, 4, 5] [] (L' := [13, 12, 10, 9, 8, 7, 4, 6, 3, 11, 5, 2, 1, 0]) (l' := [(2, pt b7), (3, .int .i64 (meanE ([(y1, (encQ ((1 : Int) : Rat))), (y3, (encQ (((-1) : Int) : Rat)))] : List PR).length ((1 : Int) : Rat) ((2 : Int) : Rat))), (4, pt b73), (5, .int .i64 (checkE ([((⟨saNil, saNil⟩ : RA), (⟨false, ([] : List Nat), ([] : List Nat)⟩ : Raw)), ((⟨saNil, saNil⟩ : RA), (⟨false, ([] : List Nat), ([] : List Nat)⟩ : Raw)), ((⟨saNil, saNil⟩ : RA), (⟨false, ([] : List Nat), ([] : List Nat)⟩ : Raw)), (y74, (encQ ((5 : Int) : Rat)))] : List PR).length ((1 : Int) : Rat) (((1 : Int) : Rat) / ((4 : Int) : Rat)) 3))]) k_ ?_
          refine RD.done k_ ?_
          refine KN.meet (y74, b80, y79, y81, b73) [2, 3, 4, 5] [0, 1, 2, 3, 4, 5, 6, 7, 8, 9, 10, 11, 12, 13, 14] (l2 := [(2, pt b7), (3, .int .i64 (meanE ([(y1, (encQ ((1 : Int) : Rat))), (y3, (encQ (((-1) : Int) : Rat)))] : List PR).length ((1 : Int) : Rat) ((2 : Int) : Rat))), (4, pt b73), (5, .int .i64 (checkE ([((⟨saNil, saNil⟩ : RA), (⟨false, ([] : List Nat), ([] : List Nat)⟩ : Raw)), ((⟨saNil, saNil⟩ : RA), (⟨false, ([] : List Nat), ([] : List Nat)⟩ : Raw)), ((⟨saNil, saNil⟩ : RA), (⟨false, ([] : List Nat), ([] : List Nat)⟩ : Raw)), (y74, (encQ ((5 : Int) : Rat)))] : List PR).length ((1 : Int) : Rat) (((1 : Int) : Rat) / ((4 : Int) : Rat)) 3))]) (by exact h82) k_ (by rfl) (by rfl) (by rfl)
    · skip
      intro x83 hx84
      obtain ⟨y39, b40, y41, y42, b44⟩ := x83
      replace hx84 : (ScaleR (vals ([((⟨saNil, saNil⟩ : RA), (⟨false, ([] : List Nat), ([] : List Nat)⟩ : Raw)), ((⟨saNil, saNil⟩ : RA), (⟨false, ([] : List Nat), ([] : List Nat)⟩ : Raw)), ((⟨saNil, saNil⟩ : RA), (⟨false, ([] : List Nat), ([] : List Nat)⟩ : Raw)), (y39, (encQ ((5 : Int) : Rat)))] : List PR)) ([((⟨saNil, saNil⟩ : RA), (⟨false, ([] : List Nat), ([] : List Nat)⟩ : Raw)), ((⟨saNil, saNil⟩ : RA), (⟨false, ([] : List Nat), ([] : List Nat)⟩ : Raw)), ((⟨saNil, saNil⟩ : RA), (⟨false, ([] : List Nat), ([] : List Nat)⟩ : Raw)), (y39, (encQ ((5 : Int) : Rat)))] : List PR).length ((1 : Int) : Rat) (((1 : Int) : Rat) / ((4 : Int) : Rat)) 3 y42.2.2.1 y42.2.2.2) := hx84
      have h43 := hx84
      refine J.seq ?_
      refine J.regD k_ [] ?_
      refine RD.bat k_ [(0, none), (1, none), (2, none)] [2, 4, 5, 29] [] (L' := [2, 1, 0]) (l' := [(2, pt b7), (4, pt b44), (5, .int .i64 (checkE ([((⟨saNil, saNil⟩ : RA), (⟨false, ([] : List Nat), ([] : List Nat)⟩ : Raw)), ((⟨saNil, saNil⟩ : RA), (⟨false, ([] : List Nat), ([] : List Nat)⟩ : Raw)), ((⟨saNil, saNil⟩ : RA), (⟨false, ([] : List Nat), ([] : List Nat)⟩ : Raw)), (y39, (encQ ((5 : Int) : Rat)))] : List PR).length ((1 : Int) : Rat) (((1 : Int) : Rat) / ((4 : Int) : Rat)) 3)), (29, .bool (((meanE ([(y1, (encQ ((1 : Int) : Rat))), (y3, (encQ (((-1) : Int) : Rat)))] : List PR).length ((1 : Int) : Rat) ((2 : Int) : Rat)) : Int) == 0))]) k_ ?_
      refine RD.split (t := 29) (((meanE ([(y1, (encQ ((1 : Int) : Rat))), (y3, (encQ (((-1) : Int) : Rat)))] : List PR).length ((1 : Int) : Rat) ((2 : Int) : Rat)) : Int) == 0) k_ (fun c85 => ?_) (fun c85 => ?_)
      · skip
        replace c85 := eq_of_beq c85
        refine RD.bat k_ [(3, none), (4, none), (5, none), (6, none)] [2, 4, 33] [] (L' := [6, 5, 4, 3, 2, 1, 0]) (l' := [(2, pt b7), (4, pt b44), (33, .bool (((checkE ([((⟨saNil, saNil⟩ : RA), (⟨false, ([] : List Nat), ([] : List Nat)⟩ : Raw)), ((⟨saNil, saNil⟩ : RA), (⟨false, ([] : List Nat), ([] : List Nat)⟩ : Raw)), ((⟨saNil, saNil⟩ : RA), (⟨false, ([] : List Nat), ([] : List Nat)⟩ : Raw)), (y39, (encQ ((5 : Int) : Rat)))] : List PR).length ((1 : Int) : Rat) (((1 : Int) : Rat) / ((4 : Int) : Rat)) 3) : Int) == 0))]) k_ ?_
        refine RD.split (t := 33) (((checkE ([((⟨saNil, saNil⟩ : RA), (⟨false, ([] : List Nat), ([] : List Nat)⟩ : Raw)), ((⟨saNil, saNil⟩ : RA), (⟨false, ([] : List Nat), ([] : List Nat)⟩ : Raw)), ((⟨saNil, saNil⟩ : RA), (⟨false, ([] : List Nat), ([] : List Nat)⟩ : Raw)), (y39, (encQ ((5 : Int) : Rat)))] : List PR).length ((1 : Int) : Rat) (((1 : Int) : Rat) / ((4 : Int) : Rat)) 3) : Int) == 0) k_ (fun c86 => ?_) (fun c86 => ?_)
        · skip
          replace c86 := eq_of_beq c86
          refine RD.bat k_ [(7, some 1)] [4, 33, 34] [b7, b7, b7] (L' := [7, 6, 5, 4, 3, 2, 1, 0]) (l' := [(4, pt b44), (33, .bool true), (34, ratV y6 (encQ (meanV ([(y1, (encQ ((1 : Int) : Rat))), (y3, (encQ (((-1) : Int) : Rat)))] : List PR) ((1 : Int) : Rat) ((2 : Int) : Rat))))]) k_ ?_
          refine RD.call (i := 8) (r03_Fraction 7 8 y_l19_awake y_l19_awake y_l19_awake y_l19_awake y_l19_awake) [] k_ k_ k_ k_ k_ rfl (fun y87 _ => ?_)
          refine RD.call (i := 9) (r03_Same y6 (encQ (meanV ([(y1, (encQ ((1 : Int) : Rat))), (y3, (encQ (((-1) : Int) : Rat)))] : List PR) ((1 : Int) : Rat) ((2 : Int) : Rat))) y87 (encQ (((7 : Int) : Rat) / ((8 : Int) : Rat)))) [9, 0] k_ k_ k_ k_ k_ rfl (fun y88 _ => ?_)
          refine RD.bat k_ [(10, none), (11, none)] [4, 38] [] (L' := [11, 10, 9, 8, 7, 6, 5, 4, 3, 2, 1, 0]) (l' := [(4, pt b44), (38, .bool (decide ((encQ (meanV ([(y1, (encQ ((1 : Int) : Rat))), (y3, (encQ (((-1) : Int) : Rat)))] : List PR) ((1 : Int) : Rat) ((2 : Int) : Rat))) = (encQ (((7 : Int) : Rat) / ((8 : Int) : Rat))))))]) k_ ?_
          refine RD.split (t := 38) (decide ((encQ (meanV ([(y1, (encQ ((1 : Int) : Rat))), (y3, (encQ (((-1) : Int) : Rat)))] : List PR) ((1 : Int) : Rat) ((2 : Int) : Rat))) = (encQ (((7 : Int) : Rat) / ((8 : Int) : Rat))))) k_ (fun c89 => ?_) (fun c89 => ?_)
          · skip
            replace c89 := of_decide_eq_true c89
            refine RD.bat k_ [(12, some 0), (13, none)] [38, 39, 40] [b44, b44, b44, b44, b44, b44] (L' := [13, 12, 11, 10, 9, 8, 7, 6, 5, 4, 3, 2, 1, 0]) (l' := [(38, .bool true), (39, .agg (ivC y42.1 (encQ y42.2.2.1) y42.2.1 (encQ y42.2.2.2))), (40, .agg (ivC (⟨saNil, saNil⟩ : RA) (⟨false, ([] : List Nat), ([] : List Nat)⟩ : Raw) (⟨saNil, saNil⟩ : RA) (⟨false, ([] : List Nat), ([] : List Nat)⟩ : Raw)))]) k_ ?_
            refine RD.call (i := 14) (r04_Same y42.1 (encQ y42.2.2.1) y42.2.1 (encQ y42.2.2.2) ⟨saNil, saNil⟩ ⟨false, ([] : List Nat), ([] : List Nat)⟩ ⟨saNil, saNil⟩ ⟨false, ([] : List Nat), ([] : List Nat)⟩) [1, 2, 5, 5] k_ k_ k_ k_ k_ rfl (fun y90 _ => ?_)
            refine RD.bat k_ [(15, none), (16, none)] [43] [] (L' := [16, 15, 14, 13, 12, 11, 10, 9, 8, 7, 6, 5, 4, 3, 2, 1, 0]) (l' := [(43, .bool (decide ((encQ y42.2.2.1) = (⟨false, ([] : List Nat), ([] : List Nat)⟩ : Raw)) && decide ((encQ y42.2.2.2) = (⟨false, ([] : List Nat), ([] : List Nat)⟩ : Raw))))]) k_ ?_
            refine RD.split (t := 43) ((decide ((encQ y42.2.2.1) = (⟨false, ([] : List Nat), ([] : List Nat)⟩ : Raw)) && decide ((encQ y42.2.2.2) = (⟨false, ([] : List Nat), ([] : List Nat)⟩ : Raw)))) k_ (fun c91 => ?_) (fun c91 => ?_)
            · skip
              refine RD.call (i := 17) (r03_Fraction 1 2 y_l19_awake y_l19_awake y_l19_awake y_l19_awake y_l19_awake) [] k_ k_ k_ k_ k_ rfl (fun y92 _ => ?_)
              refine RD.call (i := 18) (m19_Rho_c y92 (((1 : Int) : Rat) / ((2 : Int) : Rat)) y_l19_awake y_l19_awake) [0] k_ k_ k_ k_ k_ rfl (fun y93 _ => ?_)
              refine RD.call (i := 19) (r03_Fraction 7 8 y_l19_awake y_l19_awake y_l19_awake y_l19_awake y_l19_awake) [] k_ k_ k_ k_ k_ rfl (fun y94 _ => ?_)
              refine RD.call (i := 20) (r03_Same y93 (encQ (rhoQ (((1 : Int) : Rat) / ((2 : Int) : Rat)))) y94 (encQ (((7 : Int) : Rat) / ((8 : Int) : Rat)))) [1, 0] k_ k_ k_ k_ k_ rfl (fun y95 _ => ?_)
              refine RD.bat k_ [(21, none), (22, none)] [0] [] (L' := [22, 21, 20, 19, 18, 17, 16, 15, 14, 13, 12, 11, 10, 9, 8, 7, 6, 5, 4, 3, 2, 1, 0]) (l' := [(0, .bool (decide ((encQ (rhoQ (((1 : Int) : Rat) / ((2 : Int) : Rat)))) = (encQ (((7 : Int) : Rat) / ((8 : Int) : Rat))))))]) k_ ?_
              refine RD.done k_ ?_
              refine KN.next ?_
              have e_1 : true = (decide ((encQ (rhoQ (((1 : Int) : Rat) / ((2 : Int) : Rat)))) = (encQ (((7 : Int) : Rat) / ((8 : Int) : Rat))))) := by exact (decide_eq_true (congrArg encQ aw_r)).symm
              refine J.ret (KR.ret (v := .bool (decide ((encQ (rhoQ (((1 : Int) : Rat) / ((2 : Int) : Rat)))) = (encQ (((7 : Int) : Rat) / ((8 : Int) : Rat)))))) (()) [none] [] [] k_ v1_ (trivial) v1_)
            · skip
              exact absurd c91 (by obtain ⟨e1, e2⟩ := aw_i ‹ScaleR _ _ _ _ _ _ _› (aw_s _ _ _ _ _ rfl); simp [e1, e2])
          · skip
            replace c89 := of_decide_eq_false c89
            exact absurd c89 (by exact fun h => h (congrArg encQ (aw_m _ _)))
        · skip
          replace c86 := ne_of_beq_false c86
          exact absurd c86 (by exact fun h => h aw_c)
      · skip
        replace c85 := ne_of_beq_false c85
        exact absurd c85 (by exact fun h => h aw_e)
end Go.Proofs.YtegnonhgildhoaaGreat.E
namespace Go.Proofs.YtegnonhgildhoaaGreat.E
open Go Go.RowKit
set_option linter.unusedVariables false
set_option linter.unusedSimpArgs false
end Go.Proofs.YtegnonhgildhoaaGreat.E
namespace Go.Proofs.YtegnonhgildhoaaGreat.E
open Go Go.RowKit
set_option linter.unusedVariables false
set_option linter.unusedSimpArgs false
theorem ScaleR.cases' {x : Nat → Rat} {n : Nat} {c b : Rat} {bits : Int} {lo hi : Rat} (h : ScaleR x n c b bits lo hi) (he : checkE n c b bits = 0) : (shareN x n ≤ b ∧ lo = 0 ∧ hi = 0) ∨ (b < shareN x n ∧ ScaleOk x n c b bits lo hi) := by
  unfold ScaleR at h
  by_cases hs : shareN x n ≤ b
  · rw [if_pos (.inr hs)] at h; exact .inl ⟨hs, h⟩
  · rw [if_neg (by simp [he, hs])] at h; exact .inr ⟨Rat.not_le.1 hs, h⟩
end Go.Proofs.YtegnonhgildhoaaGreat.E
namespace Go.Proofs.YtegnonhgildhoaaGreat.E
open Go Go.RowKit
set_option linter.unusedVariables false
set_option linter.unusedSimpArgs false
def cQ (c : Int) : Rat := ((1 + c % 9 : Int) : Rat) / ((2 : Int) : Rat)
theorem Q_num {v : Int} : Q 64 (numQ v) := by
  have h1 := emod_b (k := v) (n := 61) (by decide)
  have h2 := emod_b (k := Int.tdiv v 61) (n := 4) (by decide)
  exact ((Q_int (v := v % 61 - 30) (by omega)).div (Q_int (v := 1 + Int.tdiv v 61 % 4) (by omega))).le (by decide)
theorem Q_c {v : Int} : Q 64 (cQ v) := by
  have h1 := emod_b (k := v) (n := 9) (by decide)
  exact ((Q_int (v := 1 + v % 9) (by omega)).div (Q_int (v := 2) (by decide))).le (by decide)
theorem Q_lev {v : Int} : Q 64 (levQ v) := by
  have h1 := emod_b (k := v) (n := 11) (by decide)
  exact ((Q_int (v := 1 + v % 11) (by omega)).div (Q_int (v := 12) (by decide))).le (by decide)
theorem cast_pos {v : Int} (h : 0 < v) : (0 : Rat) < (v : Rat) := by
  have : ((0 : Int) : Rat) < (v : Rat) := Rat.intCast_lt_intCast.2 h
  simpa using this
theorem cQ_pos (v : Int) : 0 < cQ v := by
  have h1 := emod_b (k := v) (n := 9) (by decide)
  unfold cQ; rw [Rat.div_def]
  exact Rat.mul_pos (cast_pos (by omega)) (Rat.inv_pos.2 (cast_pos (by decide)))
theorem lev_in (v : Int) : 0 < levQ v ∧ levQ v < 1 := by
  have h1 := emod_b (k := v) (n := 11) (by decide)
  unfold levQ
  constructor
  · rw [Rat.div_def]
    exact Rat.mul_pos (cast_pos (by omega)) (Rat.inv_pos.2 (cast_pos (by decide)))
  · rw [Rat.div_lt_iff (cast_pos (by decide))]
    have : ((1 + v % 11 : Int) : Rat) < ((12 : Int) : Rat) := Rat.intCast_lt_intCast.2 (by omega)
    grind
theorem check_made {n : Nat} {c b bits : Int} (h0 : 0 < n) (h1 : n ≤ 1024) (t0 : 0 ≤ bits) (t1 : bits ≤ 128) : checkE n (cQ c) (levQ b) bits = 0 := by
  have hl := lev_in b
  have hs : sizeE n = 0 := by unfold sizeE; rw [if_neg (by omega), if_neg (by omega)]
  unfold checkE
  rw [if_neg (by simp [hs]), if_pos ⟨cQ_pos c, hl.1, hl.2, t0, t1⟩]
theorem RQ_made {ps : List PR} {f : Nat → Int} (h : ∀ j, j < ps.length → (ps.getD j pr0).2 = encQ (numQ (f j))) : ∀ i, i < ps.length → RQ 64 (ps.getD i pr0).2 := fun i hi => by
  rw [h i hi]; exact RQ_enc Q_num
theorem meanE_ok' {n : Nat} {c s : Rat} (h0 : 0 < n) (h1 : n ≤ 1024) (hc : 0 < c) (hs : 0 < s) : meanE n c s = 0 := meanE_ok (by unfold sizeE; rw [if_neg (by omega), if_neg (by omega)]) hc hs
theorem meanV_ok' {ps : List PR} {c s : Rat} (h0 : 0 < ps.length) (h1 : ps.length ≤ 1024) (hc : 0 < c) (hs : 0 < s) : meanV ps c s = meanN (vals ps) ps.length c s := meanV_ok (meanE_ok' h0 h1 hc hs)
theorem Q_meanV {ps : List PR} {c s : Rat} (hps : ∀ i, i < ps.length → RQ 64 (ps.getD i pr0).2) (hc : Q 64 c) (hs : Q 65536 s) (hn : ps.length ≤ 1024) : Q 210000000 (meanV ps c s) := by
  unfold meanV
  split
  · exact (Q_mean ps hps hc hs hn).le (by decide)
  · exact Q0.le (by decide)
/-- What the law says of an interval that is not [0, 0]. -/
theorem solves {ps : List PR} {c b : Rat} {bits : Int} {lo hi : Rat} (h : ScaleR (vals ps) ps.length c b bits lo hi) (he : checkE ps.length c b bits = 0) :
    (lo = 0 → nullB (vals ps) ps.length b = true ∧ hi = 0) ∧ (lo ≠ 0 → meanE ps.length c lo = 0 ∧ meanE ps.length c hi = 0 ∧ ¬ meanV ps c lo < b ∧ ¬ b < meanV ps c hi) := by
  obtain ⟨n0, n1, c0, b0, b1, t0, t1⟩ := checkE_0 he
  rcases h.cases' he with ⟨hs, rfl, rfl⟩ | ⟨hs, h⟩
  · exact ⟨fun _ => ⟨by unfold nullB; simp [hs], rfl⟩, fun h => absurd rfl h⟩
  · have hp := h.pos
    have hh := rlt_trans h.pos h.lt
    refine ⟨fun h0 => (by grind), fun _ => ⟨meanE_ok' n0 n1 c0 hp, meanE_ok' n0 n1 c0 hh, ?_, ?_⟩⟩
    · rw [meanV_ok' n0 n1 c0 hp]; have := h.above; grind
    · rw [meanV_ok' n0 n1 c0 hh]; have := h.below; grind
theorem l19_constants (c : Int) (b : Int) : Spec Tryz.prog 24 #[.int .i64 c, .int .i64 b] [] (ι := RA × RA) (fun y => .tuple #[ratV y.1 (encQ (cQ c)), ratV y.2 (encQ (levQ b))]) (fun y => True) (fun y => [fRat y.1 (encQ (cQ c)), fRat y.2 (encQ (levQ b))]) := by
  refine Spec.of_body _ (fn := Tryz.f24) k_ rfl k_ (fun X w0 => ?_)
  have h9 := emod_b (k := c) (n := 9) (by decide)
  refine J.sreg ?_
  refine RN.new (fun b => pt b) (.cells (ratC (⟨saNil, saNil⟩ : RA) (⟨false, ([] : List Nat), ([] : List Nat)⟩ : Raw)) 27 (0, 0)) k_ k_ (fun w => by kernel_rfl) (fun b1 => ?_)
  refine RN.new (fun b => pt b) (.cells (ratC (⟨saNil, saNil⟩ : RA) (⟨false, ([] : List Nat), ([] : List Nat)⟩ : Raw)) 27 (0, 0)) k_ k_ (fun w => by kernel_rfl) (fun b2 => ?_)
  refine RN.fin k_ ?_
  refine J.sreg ?_
  refine RN.bq (no 1) [1, 4, 5, 6] [] (k' := 1) (l' := [(1, .int .i64 b), (4, pt b1), (5, pt b2), (6, .int .i64 c)]) k_ ?_
  refine RN.call (made_Mod c 9 y_ y_) [] k_ k_ k_ rfl (fun y3 _ => ?_)
  refine RN.bq (no 1) [1, 4, 5, 8] [] (k' := 3) (l' := [(1, .int .i64 b), (4, pt b1), (5, pt b2), (8, .int .i64 (IntKind.i64.wrap (1 + (c % 9))))]) k_ ?_
  rw [show IntKind.i64.wrap (1 + (c % 9)) = (1 + (c % 9)) from by rw [IntKind.wrap_i64]; omega]
  refine RN.call (r03_Fraction (1 + (c % 9)) 2 y_ y_ y_ y_ y_) [] k_ k_ k_ rfl (fun y4 _ => ?_)
  refine RN.bq (no 1) [4, 5, 9, 10] [] (k' := 5) (l' := [(4, pt b1), (5, pt b2), (9, ratV y4 (encQ ((((1 + (c % 9)) : Int) : Rat) / ((2 : Int) : Rat)))), (10, .int .i64 b)]) k_ ?_
  refine RN.call (made_Level b) [] k_ k_ k_ rfl (fun y5 _ => ?_)
  refine RN.bat [some 1, some 0] [4, 5] [b2, b2, b2, b1, b1, b1] (k' := 8) (l' := [(4, pt b1), (5, pt b2)]) (M' := [(b2, .cells (ratC y5 (encQ (levQ b))) 27 (0, 0)), (b1, .cells (ratC y4 (encQ ((((1 + (c % 9)) : Int) : Rat) / ((2 : Int) : Rat)))) 27 (0, 0))]) k_ ?_
  refine RN.fin k_ ?_
  have e_1 : (encQ (cQ c)) = (encQ ((((1 + (c % 9)) : Int) : Rat) / ((2 : Int) : Rat))) := by rfl
  refine J.ret (KR.ret (v := .tuple #[ratV y4 (encQ ((((1 + (c % 9)) : Int) : Rat) / ((2 : Int) : Rat))), ratV y5 (encQ (levQ b))]) (⟨y4, y5⟩) [some 1, some 0] [1, 0] [b1, b1, b1, b2, b2, b2] k_ v1_ (trivial) v1_)
theorem y_l19_Solves {p : Prop} (h : p := by first | assumption | exact Lb_toL _ | omega | (simp; done) | first | exact hr | exact Q.le Q_c (by decide) | exact Q.le Q_lev (by decide) | exact RQ_enc (Q.le Q_c (by decide)) | exact RQ_enc (Q.le Q_lev (by decide)) | exact RQ_made hlen.2 | exact fun i hi => (RQ_made hlen.2 i hi).le (by decide) | exact Q.le hq.1 (by decide) | exact Q.le hq.2 (by decide) | exact Q.le hm1 (by decide) | exact Q.le hm2 (by decide) | exact Q.le (hm1.sub Q_lev) (by decide) | exact Q.le (Q_lev.sub hm2) (by decide) | omega) : p := h
set_option maxHeartbeats 2000000 in
theorem l19_Solves (s : SA) (raw : List Int) (c : Int) (b : Int) (bits : Int) (hr : ∀ z ∈ raw, -9223372036854775808 ≤ z ∧ z < 9223372036854775808) : Spec Tryz.prog 7 #[sl s raw.length, .int .i64 c, .int .i64 b, .int .i64 bits] [fI s raw] (ι := Unit) (fun y => .bool true) (fun y => True) (fun y => []) := by
  refine Spec.of_body _ (fn := Tryz.f7) k_ rfl k_ (fun X w0 => ?_)
  refine J.fact (φ := raw.length ≤ 140737488355328) (fun w h => by have := (h _ (.head _)).1; omega) (fun hl1 => ?_)
  refine J.sreg ?_
  refine RN.bq (no 1) [0, 1, 2, 3] [] (k' := 1) (l' := [(0, sl s raw.length), (1, .int .i64 c), (2, .int .i64 b), (3, .int .i64 bits)]) k_ ?_
  refine RN.fin k_ ?_
  refine J.sreg ?_
  refine RN.bq (no 1) [1, 2, 3, 18] [] (k' := 1) (l' := [(1, .int .i64 c), (2, .int .i64 b), (3, .int .i64 bits), (18, sl s raw.length)]) k_ ?_
  refine RN.call (made_Numbers s raw 6 y_l19_Solves y_l19_Solves) [0] k_ k_ k_ rfl (fun yl h2 => ?_)
  have hlen := h2
  have hps6 := RQ_made hlen.2
  refine RN.bq (no 1) [1, 2, 3, 9] [] (k' := 3) (l' := [(1, .int .i64 c), (2, .int .i64 b), (3, .int .i64 bits), (9, sl yl.1 yl.2.length)]) k_ ?_
  refine RN.fin k_ ?_
  refine J.seq ?_
  refine J.sreg ?_
  refine RN.bq (no 3) [1, 2, 3, 9, 22] [] (k' := 3) (l' := [(1, .int .i64 c), (2, .int .i64 b), (3, .int .i64 bits), (9, sl yl.1 yl.2.length), (22, .bool ((((yl.2.length : Nat) : Int) : Int) == 0))]) k_ ?_
  refine RN.fin k_ ?_
  refine J.cond ((((yl.2.length : Nat) : Int) : Int) == 0) k_ (fun c3 => ?_) (fun c3 => ?_)
  · skip
    replace c3 := eq_of_beq c3
    refine J.sreg ?_
    refine RN.call (l19_awake) [] k_ k_ k_ rfl (fun y4 _ => ?_)
    refine RN.bq (no 1) [8] [] (k' := 2) (l' := [(8, .bool true)]) k_ ?_
    refine RN.fin k_ ?_
    refine J.ret (KR.next (KR.ret (v := .bool true) (()) [none] [] [] k_ rfl (trivial) rfl))
  · skip
    replace c3 := ne_of_beq_false c3
    have hch := check_made (c := c) (b := b) (n := yl.2.length) (bits := bits % 21) (by omega) (by omega) (by omega) (by omega)
    refine J.skip ?_
    refine KN.next ?_
    refine J.sreg ?_
    refine RN.bq (no 2) [3, 9, 25, 26] [] (k' := 2) (l' := [(3, .int .i64 bits), (9, sl yl.1 yl.2.length), (25, .int .i64 c), (26, .int .i64 b)]) k_ ?_
    refine RN.call (l19_constants c b) [] k_ k_ k_ rfl (fun y5 _ => ?_)
    refine RN.bq (no 3) [3, 9, 28, 29] [] (k' := 6) (l' := [(3, .int .i64 bits), (9, sl yl.1 yl.2.length), (28, ratV y5.1 (encQ (cQ c))), (29, ratV y5.2 (encQ (levQ b)))]) k_ ?_
    refine RN.new (fun b => pt b) (.cells (ratC (⟨saNil, saNil⟩ : RA) (⟨false, ([] : List Nat), ([] : List Nat)⟩ : Raw)) 27 (0, 0)) k_ k_ (fun w => by kernel_rfl) (fun b6 => ?_)
    refine RN.new (fun b => pt b) (.cells (ratC (⟨saNil, saNil⟩ : RA) (⟨false, ([] : List Nat), ([] : List Nat)⟩ : Raw)) 27 (0, 0)) k_ k_ (fun w => by kernel_rfl) (fun b7 => ?_)
    refine RN.bat [some 1, some 0] [3, 9, 10, 11] [b7, b7, b7, b6, b6, b6] (k' := 10) (l' := [(3, .int .i64 bits), (9, sl yl.1 yl.2.length), (10, pt b6), (11, pt b7)]) (M' := [(b7, .cells (ratC y5.2 (encQ (levQ b))) 27 (0, 0)), (b6, .cells (ratC y5.1 (encQ (cQ c))) 27 (0, 0))]) k_ ?_
    refine RN.fin k_ ?_
    refine J.seqC (ι := (Unit) × (RA × RA × Rat × Rat) × (Nat)) (fun x => (ScaleR (vals yl.2) yl.2.length (cQ c) (levQ b) (bits % 21) x.2.1.2.2.1 x.2.1.2.2.2)) (fun x => [(9, sl yl.1 yl.2.length), (10, pt b6), (11, pt b7), (12, .pointer (some ⟨x.2.2, 0, none⟩)), (13, .int .i64 (checkE yl.2.length (cQ c) (levQ b) (bits % 21)))]) (fun x => [(x.2.2, .cells (ivC x.2.1.1 (encQ x.2.1.2.2.1) x.2.1.2.1 (encQ x.2.1.2.2.2)) 38 (0, 0)), (b7, .cells (ratC y5.2 (encQ (levQ b))) 27 (0, 0)), (b6, .cells (ratC y5.1 (encQ (cQ c))) 27 (0, 0))]) (fun x => [fRat x.2.1.1 (encQ x.2.1.2.2.1), fRat x.2.1.2.1 (encQ x.2.1.2.2.2), fRat y5.1 (encQ (cQ c)), fRat y5.2 (encQ (levQ b)), fRats yl.1 yl.2, fI s raw]) ?_ ?_
    · skip
      refine J.regD k_ [10] ?_
      refine RD.bat k_ [(0, none), (1, some 1), (2, some 0), (3, none)] [9, 10, 11, 31, 32, 33, 34] [b7, b7, b7, b6, b6, b6] (L' := [3, 2, 1, 0]) (l' := [(9, sl yl.1 yl.2.length), (10, pt b6), (11, pt b7), (31, sl yl.1 yl.2.length), (32, ratV y5.1 (encQ (cQ c))), (33, ratV y5.2 (encQ (levQ b))), (34, .int .i64 bits)]) k_ ?_
      refine RD.forkL (is := [4, 9]) k_ rfl k_ ⟨?_, ?_, trivial⟩
      · skip
        refine RDi.call (i := 4) (made_Mod bits 21 y_l19_Solves y_l19_Solves) [] k_ k_ k_ k_ rfl (fun y8 _ => ?_)
        have h21 := emod_b (k := bits) (n := 21) (by decide)
        refine RD.forkL (is := [5, 9]) k_ rfl k_ ⟨?_, ?_, trivial⟩
        · skip
          refine RDi.call (i := 5) (m19_Scale_c yl.1 yl.2 y5.1 (cQ c) y5.2 (levQ b) (bits % 21) y_l19_Solves y_l19_Solves y_l19_Solves y_l19_Solves y_l19_Solves) [2, 0, 1] k_ k_ k_ k_ rfl (fun ys h9 => ?_)
          have hsc := h9
          have hq := hsc.Q
          refine RD.bat k_ [(6, none), (7, none), (8, none)] [9, 10, 11, 37, 38] [] (L' := [8, 7, 6, 5, 4, 3, 2, 1, 0]) (l' := [(9, sl yl.1 yl.2.length), (10, pt b6), (11, pt b7), (37, .agg (ivC ys.1 (encQ ys.2.2.1) ys.2.1 (encQ ys.2.2.2))), (38, .int .i64 (checkE yl.2.length (cQ c) (levQ b) (bits % 21)))]) k_ ?_
          refine RD.new (i := 9) (fun b => pt b) (.cells (ivC (⟨saNil, saNil⟩ : RA) (⟨false, ([] : List Nat), ([] : List Nat)⟩ : Raw) (⟨saNil, saNil⟩ : RA) (⟨false, ([] : List Nat), ([] : List Nat)⟩ : Raw)) 38 (0, 0)) k_ k_ k_ k_ (fun w => by kernel_rfl) (fun b10 => ?_)
          refine RD.last (i := 10) (some 0) [9, 10, 11, 12, 38] [b10, b10, b10, b10, b10, b10] k_ k_ k_ (l' := [(9, sl yl.1 yl.2.length), (10, pt b6), (11, pt b7), (12, pt b10), (38, .int .i64 (checkE yl.2.length (cQ c) (levQ b) (bits % 21)))]) (M' := [(b10, .cells (ivC ys.1 (encQ ys.2.2.1) ys.2.1 (encQ ys.2.2.2)) 38 (0, 0)), (b7, .cells (ratC y5.2 (encQ (levQ b))) 27 (0, 0)), (b6, .cells (ratC y5.1 (encQ (cQ c))) 27 (0, 0))]) k_ ?_
          refine RD.bat k_ [(11, none)] [9, 10, 11, 12, 13] [] (L' := [11, 10, 9, 8, 7, 6, 5, 4, 3, 2, 1, 0]) (l' := [(9, sl yl.1 yl.2.length), (10, pt b6), (11, pt b7), (12, pt b10), (13, .int .i64 (checkE yl.2.length (cQ c) (levQ b) (bits % 21)))]) k_ ?_
          refine RD.done k_ ?_
          refine KN.meet (y8, ys, b10) [9, 10, 11, 12, 13] [0, 1, 2, 3, 4, 5] (l2 := [(9, sl yl.1 yl.2.length), (10, pt b6), (11, pt b7), (12, pt b10), (13, .int .i64 (checkE yl.2.length (cQ c) (levQ b) (bits % 21)))]) (by exact h9) k_ (by rfl) (by rfl) (by rfl)
        · skip
          refine RDi.new (i := 9) (fun b => pt b) (.cells (ivC (⟨saNil, saNil⟩ : RA) (⟨false, ([] : List Nat), ([] : List Nat)⟩ : Raw) (⟨saNil, saNil⟩ : RA) (⟨false, ([] : List Nat), ([] : List Nat)⟩ : Raw)) 38 (0, 0)) k_ k_ k_ (fun w => by kernel_rfl) (fun b11 => ?_)
          refine RD.call (i := 5) (m19_Scale_c yl.1 yl.2 y5.1 (cQ c) y5.2 (levQ b) (bits % 21) y_l19_Solves y_l19_Solves y_l19_Solves y_l19_Solves y_l19_Solves) [2, 0, 1] k_ k_ k_ k_ k_ rfl (fun ys h12 => ?_)
          have hsc := h12
          have hq := hsc.Q
          refine RD.bat k_ [(6, none), (7, none), (8, none)] [9, 10, 11, 12, 37, 38] [] (L' := [8, 7, 6, 5, 9, 4, 3, 2, 1, 0]) (l' := [(9, sl yl.1 yl.2.length), (10, pt b6), (11, pt b7), (12, pt b11), (37, .agg (ivC ys.1 (encQ ys.2.2.1) ys.2.1 (encQ ys.2.2.2))), (38, .int .i64 (checkE yl.2.length (cQ c) (levQ b) (bits % 21)))]) k_ ?_
          refine RD.last (i := 10) (some 0) [9, 10, 11, 12, 38] [b11, b11, b11, b11, b11, b11] k_ k_ k_ (l' := [(9, sl yl.1 yl.2.length), (10, pt b6), (11, pt b7), (12, pt b11), (38, .int .i64 (checkE yl.2.length (cQ c) (levQ b) (bits % 21)))]) (M' := [(b11, .cells (ivC ys.1 (encQ ys.2.2.1) ys.2.1 (encQ ys.2.2.2)) 38 (0, 0)), (b7, .cells (ratC y5.2 (encQ (levQ b))) 27 (0, 0)), (b6, .cells (ratC y5.1 (encQ (cQ c))) 27 (0, 0))]) k_ ?_
          refine RD.bat k_ [(11, none)] [9, 10, 11, 12, 13] [] (L' := [11, 10, 8, 7, 6, 5, 9, 4, 3, 2, 1, 0]) (l' := [(9, sl yl.1 yl.2.length), (10, pt b6), (11, pt b7), (12, pt b11), (13, .int .i64 (checkE yl.2.length (cQ c) (levQ b) (bits % 21)))]) k_ ?_
          refine RD.done k_ ?_
          refine KN.meet (y8, ys, b11) [9, 10, 11, 12, 13] [0, 1, 2, 3, 4, 5] (l2 := [(9, sl yl.1 yl.2.length), (10, pt b6), (11, pt b7), (12, pt b11), (13, .int .i64 (checkE yl.2.length (cQ c) (levQ b) (bits % 21)))]) (by exact h12) k_ (by rfl) (by rfl) (by rfl)
      · skip
        refine RDi.new (i := 9) (fun b => pt b) (.cells (ivC (⟨saNil, saNil⟩ : RA) (⟨false, ([] : List Nat), ([] : List Nat)⟩ : Raw) (⟨saNil, saNil⟩ : RA) (⟨false, ([] : List Nat), ([] : List Nat)⟩ : Raw)) 38 (0, 0)) k_ k_ k_ (fun w => by kernel_rfl) (fun b13 => ?_)
        refine RD.call (i := 4) (made_Mod bits 21 y_l19_Solves y_l19_Solves) [] k_ k_ k_ k_ k_ rfl (fun y14 _ => ?_)
        have h21 := emod_b (k := bits) (n := 21) (by decide)
        refine RD.call (i := 5) (m19_Scale_c yl.1 yl.2 y5.1 (cQ c) y5.2 (levQ b) (bits % 21) y_l19_Solves y_l19_Solves y_l19_Solves y_l19_Solves y_l19_Solves) [2, 0, 1] k_ k_ k_ k_ k_ rfl (fun ys h15 => ?_)
        have hsc := h15
        have hq := hsc.Q
        refine RD.bat k_ [(6, none), (7, none), (8, none)] [9, 10, 11, 12, 37, 38] [] (L' := [8, 7, 6, 5, 4, 9, 3, 2, 1, 0]) (l' := [(9, sl yl.1 yl.2.length), (10, pt b6), (11, pt b7), (12, pt b13), (37, .agg (ivC ys.1 (encQ ys.2.2.1) ys.2.1 (encQ ys.2.2.2))), (38, .int .i64 (checkE yl.2.length (cQ c) (levQ b) (bits % 21)))]) k_ ?_
        refine RD.last (i := 10) (some 0) [9, 10, 11, 12, 38] [b13, b13, b13, b13, b13, b13] k_ k_ k_ (l' := [(9, sl yl.1 yl.2.length), (10, pt b6), (11, pt b7), (12, pt b13), (38, .int .i64 (checkE yl.2.length (cQ c) (levQ b) (bits % 21)))]) (M' := [(b13, .cells (ivC ys.1 (encQ ys.2.2.1) ys.2.1 (encQ ys.2.2.2)) 38 (0, 0)), (b7, .cells (ratC y5.2 (encQ (levQ b))) 27 (0, 0)), (b6, .cells (ratC y5.1 (encQ (cQ c))) 27 (0, 0))]) k_ ?_
        refine RD.bat k_ [(11, none)] [9, 10, 11, 12, 13] [] (L' := [11, 10, 8, 7, 6, 5, 4, 9, 3, 2, 1, 0]) (l' := [(9, sl yl.1 yl.2.length), (10, pt b6), (11, pt b7), (12, pt b13), (13, .int .i64 (checkE yl.2.length (cQ c) (levQ b) (bits % 21)))]) k_ ?_
        refine RD.done k_ ?_
        refine KN.meet (y14, ys, b13) [9, 10, 11, 12, 13] [0, 1, 2, 3, 4, 5] (l2 := [(9, sl yl.1 yl.2.length), (10, pt b6), (11, pt b7), (12, pt b13), (13, .int .i64 (checkE yl.2.length (cQ c) (levQ b) (bits % 21)))]) (by exact h15) k_ (by rfl) (by rfl) (by rfl)
    · skip
      intro x16 hx17
      obtain ⟨y8, ys, b10⟩ := x16
      replace hx17 : (ScaleR (vals yl.2) yl.2.length (cQ c) (levQ b) (bits % 21) ys.2.2.1 ys.2.2.2) := hx17
      have h9 := hx17
      have h21 := emod_b (k := bits) (n := 21) (by decide)
      have hsc := h9
      have hq := hsc.Q
      refine J.seq ?_
      refine J.sreg ?_
      refine RN.bq (no 2) [9, 10, 11, 12, 40] [] (k' := 2) (l' := [(9, sl yl.1 yl.2.length), (10, pt b6), (11, pt b7), (12, pt b10), (40, .bool (((checkE yl.2.length (cQ c) (levQ b) (bits % 21)) : Int) != 0))]) k_ ?_
      refine RN.fin k_ ?_
      refine J.cond (((checkE yl.2.length (cQ c) (levQ b) (bits % 21)) : Int) != 0) k_ (fun c18 => ?_) (fun c18 => ?_)
      · skip
        replace c18 := bne_iff_ne.1 c18
        exact absurd c18 (by exact fun h => h hch)
      · skip
        replace c18 := bne_eq_false_iff_eq.1 c18
        obtain ⟨hS1, hS2⟩ := solves hsc hch
        refine J.skip ?_
        refine KN.next ?_
        refine J.seq ?_
        refine J.sreg ?_
        refine RN.bq [none, some 0] [9, 10, 11, 12, 42] [b10, b10, b10] (k' := 2) (l' := [(9, sl yl.1 yl.2.length), (10, pt b6), (11, pt b7), (12, pt b10), (42, ratV ys.1 (encQ ys.2.2.1))]) k_ ?_
        refine RN.call (r03_Sign_c ys.1 ys.2.2.1 y_l19_Solves) [0] k_ k_ k_ rfl (fun y19 _ => ?_)
        refine RN.bq (no 1) [9, 10, 11, 12, 44] [] (k' := 4) (l' := [(9, sl yl.1 yl.2.length), (10, pt b6), (11, pt b7), (12, pt b10), (44, .bool (((Int.sign (ys.2.2.1.num)) : Int) == 0))]) k_ ?_
        refine RN.fin k_ ?_
        refine J.cond (((Int.sign (ys.2.2.1.num)) : Int) == 0) k_ (fun c20 => ?_) (fun c20 => ?_)
        · skip
          replace c20 := eq_of_beq c20
          obtain ⟨hN, hH⟩ := hS1 (sign_eq0.1 c20)
          refine J.sreg ?_
          refine RN.call (l19_awake) [] k_ k_ k_ rfl (fun y21 _ => ?_)
          refine RN.bq [none, none, some 1] [12, 46, 47, 48] [b7, b7, b7] (k' := 4) (l' := [(12, pt b10), (46, .bool true), (47, sl yl.1 yl.2.length), (48, ratV y5.2 (encQ (levQ b)))]) k_ ?_
          refine RN.call (r19_Null_c yl.1 yl.2 y5.2 (levQ b) y_l19_Solves y_l19_Solves y_l19_Solves y_l19_Solves y_l19_Solves) [4, 3] k_ k_ k_ rfl (fun y22 _ => ?_)
          refine RN.bq (no 2) [12, 51] [] (k' := 7) (l' := [(12, pt b10), (51, .bool (nullB (vals yl.2) yl.2.length (levQ b)))]) k_ ?_
          refine RN.split 51 (nullB (vals yl.2) yl.2.length (levQ b)) k_ (fun c23 => ?_) (fun c23 => ?_)
          · skip
            refine RN.bq [none, some 0] [51, 53] [b10, b10, b10] (k' := 9) (l' := [(51, .bool true), (53, ratV ys.2.1 (encQ ys.2.2.2))]) k_ ?_
            refine RN.call (r03_Sign_c ys.2.1 ys.2.2.2 y_l19_Solves) [1] k_ k_ k_ rfl (fun y24 _ => ?_)
            refine RN.bq (no 3) [8] [] (k' := 13) (l' := [(8, .bool (((Int.sign (ys.2.2.2.num)) : Int) == 0))]) k_ ?_
            refine RN.fin k_ ?_
            have e_1 : true = (((Int.sign (ys.2.2.2.num)) : Int) == 0) := by first | rfl | simp_all
            refine J.ret (KR.next (KR.ret (v := .bool (((Int.sign (ys.2.2.2.num)) : Int) == 0)) (()) [none] [] [] k_ v1_ (trivial) v1_))
          · skip
            refine RN.bq (no 6) [8] [] (k' := 13) (l' := [(8, .bool false)]) k_ ?_
            refine RN.fin k_ ?_
            have e_1 : true = false := by first | rfl | simp_all
            refine J.ret (KR.next (KR.ret (v := .bool false) (()) [none] [] [] k_ v1_ (trivial) v1_))
        · skip
          replace c20 := ne_of_beq_false c20
          obtain ⟨hE1, hE2, hV1, hV2⟩ := hS2 (mt sign_eq0.2 c20)
          have hm1 := Q_meanV hps6 (Q_c (v := c)) (hq.1.le (by decide : 2000 ≤ 65536)) (by omega)
          have hm2 := Q_meanV hps6 (Q_c (v := c)) (hq.2.le (by decide : 2000 ≤ 65536)) (by omega)
          refine J.skip ?_
          refine KN.next ?_
          refine J.sreg ?_
          refine RN.bq [none, some 2, none, some 0] [9, 10, 11, 12, 58, 59, 61] [b10, b10, b10, b6, b6, b6] (k' := 4) (l' := [(9, sl yl.1 yl.2.length), (10, pt b6), (11, pt b7), (12, pt b10), (58, sl yl.1 yl.2.length), (59, ratV y5.1 (encQ (cQ c))), (61, ratV ys.1 (encQ ys.2.2.1))]) k_ ?_
          refine RN.call (m19_Mean_c yl.1 yl.2 y5.1 (cQ c) ys.1 ys.2.2.1 y_l19_Solves y_l19_Solves y_l19_Solves y_l19_Solves y_l19_Solves) [4, 2, 0] k_ k_ k_ rfl (fun y25 _ => ?_)
          refine RN.bq (no 3) [9, 10, 11, 12, 63, 64] [] (k' := 8) (l' := [(9, sl yl.1 yl.2.length), (10, pt b6), (11, pt b7), (12, pt b10), (63, ratV y25 (encQ (meanV yl.2 (cQ c) ys.2.2.1))), (64, .int .i64 (meanE yl.2.length (cQ c) ys.2.2.1))]) k_ ?_
          refine RN.new (fun b => pt b) (.cells (ratC (⟨saNil, saNil⟩ : RA) (⟨false, ([] : List Nat), ([] : List Nat)⟩ : Raw)) 27 (0, 0)) k_ k_ (fun w => by kernel_rfl) (fun b26 => ?_)
          refine RN.bat [some 0, none] [9, 10, 11, 12, 14, 15] [b26, b26, b26] (k' := 11) (l' := [(9, sl yl.1 yl.2.length), (10, pt b6), (11, pt b7), (12, pt b10), (14, pt b26), (15, .int .i64 (meanE yl.2.length (cQ c) ys.2.2.1))]) (M' := [(b26, .cells (ratC y25 (encQ (meanV yl.2 (cQ c) ys.2.2.1))) 27 (0, 0)), (b10, .cells (ivC ys.1 (encQ ys.2.2.1) ys.2.1 (encQ ys.2.2.2)) 38 (0, 0)), (b7, .cells (ratC y5.2 (encQ (levQ b))) 27 (0, 0)), (b6, .cells (ratC y5.1 (encQ (cQ c))) 27 (0, 0))]) k_ ?_
          refine RN.fin k_ ?_
          refine J.sreg ?_
          refine RN.bq [none, some 3, none, some 1] [11, 14, 15, 66, 67, 69] [b10, b10, b10, b6, b6, b6] (k' := 4) (l' := [(11, pt b7), (14, pt b26), (15, .int .i64 (meanE yl.2.length (cQ c) ys.2.2.1)), (66, sl yl.1 yl.2.length), (67, ratV y5.1 (encQ (cQ c))), (69, ratV ys.2.1 (encQ ys.2.2.2))]) k_ ?_
          refine RN.call (m19_Mean_c yl.1 yl.2 y5.1 (cQ c) ys.2.1 ys.2.2.2 y_l19_Solves y_l19_Solves y_l19_Solves y_l19_Solves y_l19_Solves) [5, 3, 2] k_ k_ k_ rfl (fun y27 _ => ?_)
          refine RN.bq (no 3) [11, 14, 15, 71, 72] [] (k' := 8) (l' := [(11, pt b7), (14, pt b26), (15, .int .i64 (meanE yl.2.length (cQ c) ys.2.2.1)), (71, ratV y27 (encQ (meanV yl.2 (cQ c) ys.2.2.2))), (72, .int .i64 (meanE yl.2.length (cQ c) ys.2.2.2))]) k_ ?_
          refine RN.new (fun b => pt b) (.cells (ratC (⟨saNil, saNil⟩ : RA) (⟨false, ([] : List Nat), ([] : List Nat)⟩ : Raw)) 27 (0, 0)) k_ k_ (fun w => by kernel_rfl) (fun b28 => ?_)
          refine RN.bat [some 0, none] [11, 14, 15, 16, 17] [b28, b28, b28] (k' := 11) (l' := [(11, pt b7), (14, pt b26), (15, .int .i64 (meanE yl.2.length (cQ c) ys.2.2.1)), (16, pt b28), (17, .int .i64 (meanE yl.2.length (cQ c) ys.2.2.2))]) (M' := [(b28, .cells (ratC y27 (encQ (meanV yl.2 (cQ c) ys.2.2.2))) 27 (0, 0)), (b26, .cells (ratC y25 (encQ (meanV yl.2 (cQ c) ys.2.2.1))) 27 (0, 0)), (b10, .cells (ivC ys.1 (encQ ys.2.2.1) ys.2.1 (encQ ys.2.2.2)) 38 (0, 0)), (b7, .cells (ratC y5.2 (encQ (levQ b))) 27 (0, 0)), (b6, .cells (ratC y5.1 (encQ (cQ c))) 27 (0, 0))]) k_ ?_
          refine RN.fin k_ ?_
          refine J.sreg ?_
          refine RN.call (l19_awake) [] k_ k_ k_ rfl (fun y29 _ => ?_)
          refine RN.bq (no 5) [11, 14, 16, 17, 78] [] (k' := 6) (l' := [(11, pt b7), (14, pt b26), (16, pt b28), (17, .int .i64 (meanE yl.2.length (cQ c) ys.2.2.2)), (78, .bool (((meanE yl.2.length (cQ c) ys.2.2.1) : Int) == 0))]) k_ ?_
          refine RN.split 78 (((meanE yl.2.length (cQ c) ys.2.2.1) : Int) == 0) k_ (fun c30 => ?_) (fun c30 => ?_)
          · skip
            replace c30 := eq_of_beq c30
            refine RN.bq (no 4) [11, 14, 16, 82] [] (k' := 10) (l' := [(11, pt b7), (14, pt b26), (16, pt b28), (82, .bool (((meanE yl.2.length (cQ c) ys.2.2.2) : Int) == 0))]) k_ ?_
            refine RN.split 82 (((meanE yl.2.length (cQ c) ys.2.2.2) : Int) == 0) k_ (fun c31 => ?_) (fun c31 => ?_)
            · skip
              replace c31 := eq_of_beq c31
              refine RN.bq [some 1, some 3] [11, 16, 82, 83, 84] [b7, b7, b7, b26, b26, b26] (k' := 12) (l' := [(11, pt b7), (16, pt b28), (82, .bool true), (83, ratV y25 (encQ (meanV yl.2 (cQ c) ys.2.2.1))), (84, ratV y5.2 (encQ (levQ b)))]) k_ ?_
              refine RN.call (r03_Less_c y25 (meanV yl.2 (cQ c) ys.2.2.1) y5.2 (levQ b) y_l19_Solves y_l19_Solves y_l19_Solves) [1, 5] k_ k_ k_ rfl (fun y32 _ => ?_)
              refine RN.bq (no 3) [11, 16, 88] [] (k' := 16) (l' := [(11, pt b7), (16, pt b28), (88, .bool (!(decide ((meanV yl.2 (cQ c) ys.2.2.1) < (levQ b)))))]) k_ ?_
              refine RN.split 88 (!(decide ((meanV yl.2 (cQ c) ys.2.2.1) < (levQ b)))) k_ (fun c33 => ?_) (fun c33 => ?_)
              · skip
                replace c33 := of_decide_eq_false ((Bool.not_eq_true' _).mp c33)
                refine RN.bq [some 3, some 0] [88, 89, 90] [b28, b28, b28, b7, b7, b7] (k' := 18) (l' := [(88, .bool true), (89, ratV y5.2 (encQ (levQ b))), (90, ratV y27 (encQ (meanV yl.2 (cQ c) ys.2.2.2)))]) k_ ?_
                refine RN.call (r03_Less_c y5.2 (levQ b) y27 (meanV yl.2 (cQ c) ys.2.2.2) y_l19_Solves y_l19_Solves y_l19_Solves) [5, 0] k_ k_ k_ rfl (fun y34 _ => ?_)
                refine RN.bq (no 3) [8] [] (k' := 22) (l' := [(8, .bool (!(decide ((levQ b) < (meanV yl.2 (cQ c) ys.2.2.2)))))]) k_ ?_
                refine RN.fin k_ ?_
                have e_1 : true = (!(decide ((levQ b) < (meanV yl.2 (cQ c) ys.2.2.2)))) := by first | rfl | simp_all
                refine J.ret (KR.ret (v := .bool (!(decide ((levQ b) < (meanV yl.2 (cQ c) ys.2.2.2))))) (()) [none] [] [] k_ v1_ (trivial) v1_)
              · skip
                replace c33 := of_decide_eq_true ((Bool.not_eq_false' _).mp c33)
                refine RN.bq (no 6) [8] [] (k' := 22) (l' := [(8, .bool false)]) k_ ?_
                refine RN.fin k_ ?_
                have e_1 : true = false := by first | rfl | simp_all
                refine J.ret (KR.ret (v := .bool false) (()) [none] [] [] k_ v1_ (trivial) v1_)
            · skip
              replace c31 := ne_of_beq_false c31
              refine RN.bq (no 12) [8] [] (k' := 22) (l' := [(8, .bool false)]) k_ ?_
              refine RN.fin k_ ?_
              have e_1 : true = false := by first | rfl | simp_all
              refine J.ret (KR.ret (v := .bool false) (()) [none] [] [] k_ v1_ (trivial) v1_)
          · skip
            replace c30 := ne_of_beq_false c30
            refine RN.bq (no 16) [8] [] (k' := 22) (l' := [(8, .bool false)]) k_ ?_
            refine RN.fin k_ ?_
            have e_1 : true = false := by first | rfl | simp_all
            refine J.ret (KR.ret (v := .bool false) (()) [none] [] [] k_ v1_ (trivial) v1_)
end Go.Proofs.YtegnonhgildhoaaGreat.E
/- A row's arguments, read as data, become facts about memory; a contract's frame becomes the row's. -/
namespace Go.Proofs.YtegnonhgildhoaaGreat.E
open Go Go.RowKit Go.ChangeShapes Go.WideShapes
set_option linter.unusedVariables false
set_option linter.unusedSimpArgs false
section
variable {H : Type} {enc : TypeId × Value → H} {P : Program} {w w' : World} {fuel t e : Nat} {cs : List Value} {x : DataW H × List MemPlace}
def Wt (P : Program) (t : TypeId) (d : DataW H) : Prop := ∀ n ∈ d.weights P t, n ≤ reachBytes
theorem Wt.of_each {ts : List TypeId} {ds : List (DataW H)} (h : (DataW.weightsEach P ts ds).all (· ≤ reachBytes) = true) {j : Nat} {t : TypeId} {d : DataW H} (ht : ts[j]? = some t) (hd : ds[j]? = some d) : Wt P t d := fun n hn => by
  have := List.all_eq_true.1 h n (DataW.weights_mem_each ht hd n hn)
  simpa using this
theorem Wt.of_mem {ts : List TypeId} {ds : List (DataW H)} (h : ∀ n ∈ DataW.weightsEach P ts ds, n ≤ reachBytes) {j : Nat} {t : TypeId} {d : DataW H} (ht : ts[j]? = some t) (hd : ds[j]? = some d) : Wt P t d := fun n hn =>
  h n (DataW.weights_mem_each ht hd n hn)
theorem weightsAll_mem {e : TypeId} : ∀ {ds : List (DataW H)} {d : DataW H}, d ∈ ds → ∀ n ∈ d.weights P e, n ∈ DataW.weightsAll P e ds
  | [], _, h, _, _ => by cases h
  | d0 :: r, d, h, n, hn => by
    rcases List.mem_cons.1 h with rfl | h
    · simp [DataW.weightsAll, hn]
    · simp [DataW.weightsAll, weightsAll_mem h n hn]
theorem Wt.slice {elems rest : List (DataW H)} (ht : P.underlying t = some (.slice e)) (h : Wt P t (.slice elems rest)) : (elems.length + rest.length) * P.bytesOf e ≤ reachBytes ∧ ∀ d ∈ elems, Wt P e d := by
  unfold Wt at h
  simp only [DataW.weights, ht] at h
  exact ⟨h _ List.mem_cons_self, fun d hd n hn => h n (List.mem_cons_of_mem _ (List.mem_append_left _ (weightsAll_mem hd n hn)))⟩
theorem Wt.agg {fs : Array Field} {parts : List (DataW H)} (ht : P.underlying t = some (.struct fs)) (h : Wt P t (.agg parts)) {j : Nat} {f : Field} {d : DataW H} (hf : fs[j]? = some f) (hd : parts[j]? = some d) : Wt P f.type d := by
  unfold Wt at h
  simp only [DataW.weights, ht] at h
  exact Wt.of_mem (j := j) h (by simp [List.getElem?_map, Array.getElem?_toList, hf]) hd
theorem cell_spot {a : Addr} {v : Value} (h : w.cell? a = some v) : a.spot = none := by
  unfold World.cell? at h
  split at h
  · split at h
    · cases h
    · rename_i h0; simpa using h0
  · cases h
theorem cell_off (ho : Off (fun _ => False) w w') {a : Addr} {v : Value} (h : w.cell? a = some v) : w'.cell? a = some v := by
  have hlt : a.block < w.heap.size := by
    unfold World.cell? at h
    cases hb : w.heap[a.block]? with
    | none => rw [hb] at h; cases h
    | some o => exact (Array.getElem?_eq_some_iff.1 hb).1
  unfold World.cell? at *
  rw [ho.2 a.block hlt (fun h => h)]; exact h
theorem fI_off (ho : Off (fun _ => False) w w') {s : SA} {xs : List Int} (h : fI s xs w) : fI s xs w' := ⟨h.1, fun i hi => ⟨(h.2 i hi).1, (h.2 i hi).2.1, cell_off ho (h.2 i hi).2.2⟩⟩
theorem wf_i64 {z : Int} (h : (Lit.int .i64 z).wf = true) : -9223372036854775808 ≤ z ∧ z < 9223372036854775808 := by
  have := bounds_i64 h
  omega
/-- A slice of ints. -/
theorem open_I (ht : P.underlying t = some (.slice e)) (he : P.underlying e = some (.int .i64)) (hc : P.cellsOf e = 1) (hb : 1 ≤ P.bytesOf e)
    (h : DataW.trod enc P w 0 (fun _ => true) true fuel t cs = some x) (hw : Wt P t x.1) : ∃ s xs, cs = [sl s xs.length] ∧ fI s xs w ∧ ∀ z ∈ xs, -9223372036854775808 ≤ z ∧ z < 9223372036854775808 := by
  rcases open_ints ht he hc h with ⟨rfl, rfl⟩ | ⟨a, len, cap, zs, rfl, _, hl, hm, hz, rfl, hcell, hwf⟩
  · exact ⟨saNil, [], rfl, fI_nil w, fun z hz => by cases hz⟩
  · simp only [if_true] at hz
    have hlen : len ≤ zs.length := by omega
    have hb2 := (hw.slice ht).1
    have h47 : len ≤ 140737488355328 := by
      have h1 : len ≤ (lits (H := H) .i64 (zs.take len)).length + (lits (H := H) .i64 (zs.drop len)).length := by simp [lits]; omega
      have h2 := Nat.le_trans (Nat.mul_le_mul h1 hb) hb2
      have : reachBytes ≤ 140737488355328 := by decide
      omega
    refine ⟨⟨some a, cap⟩, zs.take len, by simp [sl, Nat.min_eq_left hlen], ⟨⟨by simp; omega, by simp; omega⟩, fun i hi => ?_⟩, fun y hy => ?_⟩
    · have hi' : i < len := by simp at hi; omega
      have h0 := hcell 0 (by omega)
      have hs : a.spot = none := by have := cell_spot h0; simpa [Addr.add] using this
      refine ⟨rfl, hs, ?_⟩
      show w.cell? (a.add i) = _
      rw [hcell i (by omega)]
      simp [List.getD_eq_getElem?_getD, List.getElem?_take, hi']
    · have := hwf y (List.mem_of_mem_take hy)
      exact wf_i64 this
/-- The types of a number. -/
def structOf (P : Program) (t : TypeId) : Option (List (TypeId × Nat)) := match P.underlying t with
  | some (.struct fs) => some (fs.toList.map fun f => (f.type, f.offset))
  | _ => none
structure RTy (P : Program) (tR tI tU tB tE : TypeId) : Prop where
  r : structOf P tR = some [(tI, 0), (tU, 2)]
  i : structOf P tI = some [(tB, 0), (tU, 1)]
  u : P.underlying tU = some (.slice tE)
  b : P.underlying tB = some .bool
  e : P.underlying tE = some (.int .u32)
  cR : P.cellsOf tR = 3
  cI : P.cellsOf tI = 2
  cU : P.cellsOf tU = 1
  cB : P.cellsOf tB = 1
  cE : P.cellsOf tE = 1
  bE : 1 ≤ P.bytesOf tE
variable {tR tI tU tB tE : TypeId}
theorem sl_of {v : Value} {A : Option Addr} {len cap : Nat} {s : SA} {k : Nat} (hv : v = .slice A len cap) (h : v.cells.toList = [sl s k]) : v = sl s k := by
  subst hv
  simpa [Value.cells] using h
theorem arg_Ints {r : Reach} {b0 : Nat} {v : Value} {d : DataW H} {pl : List MemPlace} (ht : P.underlying t = some (.slice e)) (he : P.underlying e = some (.int .i64)) (hc : P.cellsOf e = 1) (hb : 1 ≤ P.bytesOf e) (hv : Value.okWide P w r b0 t v) (h : DataW.Trod enc P w 0 (fun _ => true) true t v d pl) (hw : Wt P t d) :
    ∃ s xs, v = sl s xs.length ∧ fI s xs w ∧ ∀ z ∈ xs, -9223372036854775808 ≤ z ∧ z < 9223372036854775808 := by
  obtain ⟨A, len, cap, hA⟩ := okWide_slice ht hv
  obtain ⟨n, hn⟩ := h
  obtain ⟨s, ps, h1, h2, h3⟩ := open_I ht he hc hb (x := (d, pl)) hn hw
  exact ⟨s, ps, sl_of hA h1, h2, h3⟩
theorem arg_int {r : Reach} {b0 : Nat} {v : Value} {d : DataW H} {pl : List MemPlace} (ht : P.underlying t = some (.int .i64)) (hv : Value.okWide P w r b0 t v) (h : DataW.Trod enc P w 0 (fun _ => true) true t v d pl) :
    ∃ z : Int, v = .int .i64 z ∧ -9223372036854775808 ≤ z ∧ z < 9223372036854775808 := by
  obtain ⟨z, h1, _, _, h2⟩ := open_int ht hv h
  exact ⟨z, h1, wf_i64 h2⟩
theorem Frm.below (h : Frm (fun _ => False) w w') : Below w.heap.size w w' := ⟨h.os, h.tape, h.output, h.off.1, fun k hk => h.off.2 k hk (fun h => h)⟩
/-- A contract that answers true, called at a row's start. -/
theorem row_call {f : FuncId} {args : Array Value} {Fin : List Fact} {ι : Type} {φ : ι → Prop} {Fout : ι → List Fact} (spec : Spec P f args Fin (ι := ι) (fun _ => .bool true) φ Fout) (hF : ∀ p ∈ Fin, Rob (fun _ => False) p w) :
    Calls P f args w fun e w' => e = .returned (.bool true) ∧ Below w.heap.size w w' :=
  (spec.calls (fun _ => False) w (fun k hk => hk.elim) hF).mono (by
    rintro e w' ⟨x, rfl, _, hf, _⟩
    exact ⟨rfl, hf.below⟩)
end
end Go.Proofs.YtegnonhgildhoaaGreat.E
