import Derived.Test.YtegnonhgildhoaaGreatM19b
import Derived.Test.YtegnonhgildhoaaGreatED
import Derived.Test.YtegnonhgildhoaaGreatP1
namespace Go.Proofs.YtegnonhgildhoaaGreat.E
open Go Go.RowKit
set_option linter.unusedVariables false
set_option linter.unusedSimpArgs false
theorem about_b {a b : Nat} {z : Int} (ha : a ≤ 6176) (hb : b ≤ 6176) (hz : z = if (b : Int) > 1 then (b : Int) else 1) : -6400 ≤ (a : Int) - z ∧ (a : Int) - z ≤ 6400 := by
  subst hz; split <;> omega
theorem Q.num_len {k : Nat} {q : Rat} (h : Q k q) : (toL q.num.natAbs).length ≤ k := h.1
theorem Q.den_len {k : Nat} {q : Rat} (h : Q k q) : (toD q.den).length ≤ k := Nat.le_trans (toD_le _) h.2
theorem y_m19_about {p : Prop} (h : p := by first | assumption | exact Lb_toL _ | omega | (simp; done) | first | exact Q.le hc (by decide) | exact Q.le hI3 (by decide) | exact Q.le hxx (by decide) | exact Lb_toD _ | omega) : p := h
theorem m19_about (s : SA) (ps : List PR) (p : RA) (c : Raw) (hps : ∀ i, i < ps.length → RQ 64 (ps.getD i pr0).2) (hcR : RQ 268435456 c) (hc : Q 64 (qv c)) : Spec Tryz.prog 58 #[sl s ps.length, ratV p c] [fRats s ps, fRat p c] (ι := Int) (fun y => .int .i64 y) (fun y => -6400 ≤ y ∧ y ≤ 6400) (fun y => []) := by
  refine Spec.of_body _ (fn := Tryz.f58) k_ rfl k_ (fun X w0 => ?_)
  refine J.fact (φ := ps.length ≤ 140737488355328) (fun w h => by have := (h _ (.head _)).1; omega) (fun hl1 => ?_)
  refine J.fact (φ := c.mag.length ≤ 140737488355328 ∧ c.den.length ≤ 140737488355328) (fun w h => by have h1 := (h _ (.tail _ ((.head _)))).1.1; have h2 := (h _ (.tail _ ((.head _)))).2.1; omega) (fun hl2 => ?_)
  refine J.sreg ?_
  refine RN.new (fun b => pt b) (.cells (ratC p c) 27 (0, 0)) k_ k_ (fun w => by kernel_rfl) (fun b3 => ?_)
  refine RN.bq (no 1) [0, 3] [] (k' := 2) (l' := [(0, sl s ps.length), (3, pt b3)]) k_ ?_
  refine RN.fin k_ ?_
  refine J.sreg ?_
  refine RN.new (fun b => pt b) (.cells (ratC (⟨saNil, saNil⟩ : RA) (⟨false, ([] : List Nat), ([] : List Nat)⟩ : Raw)) 27 (0, 0)) k_ k_ (fun w => by kernel_rfl) (fun b4 => ?_)
  refine RN.fin k_ ?_
  refine J.seq ?_
  refine J.sreg ?_
  refine RN.bq (no 3) [3, 5, 10, 11, 12] [] (k' := 3) (l' := [(3, pt b3), (5, pt b4), (10, sl s ps.length), (11, .int .i64 ((ps.length : Nat) : Int)), (12, .int .i64 0)]) k_ ?_
  refine RN.fin k_ ?_
  refine J.block ?_
  refine J.also (fRat (⟨saNil, saNil⟩ : RA) (encQ 0)) (fun w h => fRat_zero w) ?_
  refine J.loop (ι := (Nat) × (RA) × (Rat)) (fun x => x.1 ≤ ps.length ∧ Q 128 x.2.2) (fun x => ps.length - x.1) (fun x => [(3, pt b3), (5, pt b4), (10, sl s ps.length), (11, .int .i64 ((ps.length : Nat) : Int)), (12, .int .i64 ((x.1 : Nat) : Int))]) (fun x => [(b4, .cells (ratC x.2.1 (encQ x.2.2)) 27 (0, 0)), (b3, .cells (ratC p c) 27 (0, 0))]) (fun x => [fRat x.2.1 (encQ x.2.2), fRats s ps, fRat p c]) (0, (⟨saNil, saNil⟩ : RA), 0) [3, 5, 10, 11, 12] [0, 1, 2] (⟨Nat.zero_le _, Q0.le (by decide)⟩) k_ (by first | rfl | (simp only [encQ_zero]; done) | (simp only [encQ_zero]; rfl)) (by rfl) (fun x5 hI => ?_)
  obtain ⟨i, so, S⟩ := x5
  replace hI : i ≤ ps.length ∧ Q 128 S := hI
  obtain ⟨hI1, hI3⟩ := hI
  refine J.sreg ?_
  refine RN.bq (no 1) [3, 5, 10, 11, 12, 13] [] (k' := 1) (l' := [(3, pt b3), (5, pt b4), (10, sl s ps.length), (11, .int .i64 ((ps.length : Nat) : Int)), (12, .int .i64 ((i : Nat) : Int)), (13, .bool (decide (((i : Nat) : Int) < ((ps.length : Nat) : Int))))]) k_ ?_
  refine RN.fin k_ ?_
  refine J.seq ?_
  refine J.cond (decide (((i : Nat) : Int) < ((ps.length : Nat) : Int))) k_ (fun c6 => ?_) (fun c6 => ?_)
  · skip
    replace c6 := of_decide_eq_true c6
    have hxr := hps i (by omega)
    have hxq := hxr.2.2.2.2
    have hxb := hxr.le (by decide : 64 ≤ 268435456)
    have hxx : Q 128 _ := hxq.mul hxq
    refine J.skip ?_
    refine KN.next ?_
    refine J.seq ?_
    refine J.block ?_
    refine J.sreg ?_
    refine RN.val _ k_ k_ (q_ridx (t := 22) (x := (.tmp 10)) (ix := (.tmp 12)) (K := .i64) (i0 := ((i : Nat) : Int)) (m := i) (e := 27) 1 rfl k_ k_ k_ k_ k_ (by omega) x_) ?_
    refine RN.val _ k_ k_ (q_rload (T := 27) (x := (.tmp 14)) (m := i) (s := s) (ps := ps) 1 rfl k_ k_ k_ k_ x_) ?_
    refine RN.also (fRat ((ps.getD i pr0).1) ((ps.getD i pr0).2)) (fun w h => rat_of (h _ (.tail _ ((.head _)))) x_) ?_
    refine RN.new (fun b => pt b) (.cells (ratC (⟨saNil, saNil⟩ : RA) (⟨false, ([] : List Nat), ([] : List Nat)⟩ : Raw)) 27 (0, 0)) k_ k_ (fun w => by kernel_rfl) (fun b7 => ?_)
    refine RN.bat [some 0] [3, 5, 7, 10, 11, 12] [b7, b7, b7] (k' := 4) (l' := [(3, pt b3), (5, pt b4), (7, pt b7), (10, sl s ps.length), (11, .int .i64 ((ps.length : Nat) : Int)), (12, .int .i64 ((i : Nat) : Int))]) (M' := [(b7, .cells (ratC ((ps.getD i pr0).1) ((ps.getD i pr0).2)) 27 (0, 0)), (b4, .cells (ratC so (encQ S)) 27 (0, 0)), (b3, .cells (ratC p c) 27 (0, 0))]) k_ ?_
    refine RN.fin k_ ?_
    refine J.sreg ?_
    refine RN.bq [some 0, some 0] [3, 5, 10, 11, 12, 16, 17] [b7, b7, b7, b7, b7, b7] (k' := 2) (l' := [(3, pt b3), (5, pt b4), (10, sl s ps.length), (11, .int .i64 ((ps.length : Nat) : Int)), (12, .int .i64 ((i : Nat) : Int)), (16, ratV ((ps.getD i pr0).1) ((ps.getD i pr0).2)), (17, ratV ((ps.getD i pr0).1) ((ps.getD i pr0).2))]) k_ ?_
    refine RN.call (rational_Mul ((ps.getD i pr0).1) ((ps.getD i pr0).2) ((ps.getD i pr0).1) ((ps.getD i pr0).2) y_m19_about y_m19_about) [0, 0] k_ k_ k_ rfl (fun y8 _ => ?_)
    refine RN.new (fun b => pt b) (.cells (ratC (⟨saNil, saNil⟩ : RA) (⟨false, ([] : List Nat), ([] : List Nat)⟩ : Raw)) 27 (0, 0)) k_ k_ (fun w => by kernel_rfl) (fun b9 => ?_)
    refine RN.bat [some 0] [3, 5, 8, 10, 11, 12] [b9, b9, b9] (k' := 5) (l' := [(3, pt b3), (5, pt b4), (8, pt b9), (10, sl s ps.length), (11, .int .i64 ((ps.length : Nat) : Int)), (12, .int .i64 ((i : Nat) : Int))]) (M' := [(b9, .cells (ratC y8 (encQ ((qv ((ps.getD i pr0).2)) * (qv ((ps.getD i pr0).2))))) 27 (0, 0)), (b7, .cells (ratC ((ps.getD i pr0).1) ((ps.getD i pr0).2)) 27 (0, 0)), (b4, .cells (ratC so (encQ S)) 27 (0, 0)), (b3, .cells (ratC p c) 27 (0, 0))]) k_ ?_
    refine RN.fin k_ ?_
    refine J.sreg ?_
    refine RN.bq [some 0, some 2] [3, 5, 8, 10, 11, 12, 19, 20] [b4, b4, b4, b9, b9, b9] (k' := 2) (l' := [(3, pt b3), (5, pt b4), (8, pt b9), (10, sl s ps.length), (11, .int .i64 ((ps.length : Nat) : Int)), (12, .int .i64 ((i : Nat) : Int)), (19, ratV y8 (encQ ((qv ((ps.getD i pr0).2)) * (qv ((ps.getD i pr0).2))))), (20, ratV so (encQ S))]) k_ ?_
    refine RN.call (rational_Compare_c y8 ((qv ((ps.getD i pr0).2)) * (qv ((ps.getD i pr0).2))) so S y_m19_about y_m19_about) [0, 2] k_ k_ k_ rfl (fun y10 _ => ?_)
    refine RN.bq (no 1) [3, 5, 8, 10, 11, 12, 22] [] (k' := 4) (l' := [(3, pt b3), (5, pt b4), (8, pt b9), (10, sl s ps.length), (11, .int .i64 ((ps.length : Nat) : Int)), (12, .int .i64 ((i : Nat) : Int)), (22, .bool (decide ((cmpQ ((qv ((ps.getD i pr0).2)) * (qv ((ps.getD i pr0).2))) S) > 0)))]) k_ ?_
    refine RN.fin k_ ?_
    refine J.cond (decide ((cmpQ ((qv ((ps.getD i pr0).2)) * (qv ((ps.getD i pr0).2))) S) > 0)) k_ (fun c11 => ?_) (fun c11 => ?_)
    · skip
      replace c11 := of_decide_eq_true c11
      refine J.regN ?_
      refine RN.bat [some 0, some 2] [3, 5, 10, 11, 12] [b4, b4, b4, b9, b9, b9] (k' := 2) (l' := [(3, pt b3), (5, pt b4), (10, sl s ps.length), (11, .int .i64 ((ps.length : Nat) : Int)), (12, .int .i64 ((i : Nat) : Int))]) (M' := [(b9, .cells (ratC y8 (encQ ((qv ((ps.getD i pr0).2)) * (qv ((ps.getD i pr0).2))))) 27 (0, 0)), (b7, .cells (ratC ((ps.getD i pr0).1) ((ps.getD i pr0).2)) 27 (0, 0)), (b4, .cells (ratC y8 (encQ ((qv ((ps.getD i pr0).2)) * (qv ((ps.getD i pr0).2))))) 27 (0, 0)), (b3, .cells (ratC p c) 27 (0, 0))]) k_ ?_
      refine RN.done k_ ?_
      refine KN.blk ?_
      refine KN.next ?_
      refine J.regN ?_
      refine RN.bq (no 1) [3, 5, 10, 11, 24] [] (k' := 1) (l' := [(3, pt b3), (5, pt b4), (10, sl s ps.length), (11, .int .i64 ((ps.length : Nat) : Int)), (24, .int .i64 (IntKind.i64.wrap (((i : Nat) : Int) + 1)))]) k_ ?_
      rw [show IntKind.i64.wrap (((i : Nat) : Int) + 1) = ((i + 1 : Nat) : Int) from by rw [IntKind.wrap_i64]; omega]
      refine RN.bq (no 1) [3, 5, 10, 11, 12] [] (k' := 2) (l' := [(3, pt b3), (5, pt b4), (10, sl s ps.length), (11, .int .i64 ((ps.length : Nat) : Int)), (12, .int .i64 ((i + 1 : Nat) : Int))]) k_ ?_
      refine RN.done k_ ?_
      refine KN.dropF 2 ?_
      refine KN.roundE (i + 1, y8, (qv ((ps.getD i pr0).2)) * (qv ((ps.getD i pr0).2))) [3, 5, 10, 11, 12] [0, 3, 4] (l2 := [(3, pt b3), (5, pt b4), (10, sl s ps.length), (11, .int .i64 ((ps.length : Nat) : Int)), (12, .int .i64 ((i + 1 : Nat) : Int))]) (by (try dsimp only); omega) (by (try dsimp only); exact ⟨by omega, hxx⟩) k_ (by rfl) (by rfl) (by rfl)
    · skip
      replace c11 := of_decide_eq_false c11
      refine J.skip ?_
      refine KN.blk ?_
      refine KN.next ?_
      refine J.regN ?_
      refine RN.bq (no 1) [3, 5, 10, 11, 24] [] (k' := 1) (l' := [(3, pt b3), (5, pt b4), (10, sl s ps.length), (11, .int .i64 ((ps.length : Nat) : Int)), (24, .int .i64 (IntKind.i64.wrap (((i : Nat) : Int) + 1)))]) k_ ?_
      rw [show IntKind.i64.wrap (((i : Nat) : Int) + 1) = ((i + 1 : Nat) : Int) from by rw [IntKind.wrap_i64]; omega]
      refine RN.bq (no 1) [3, 5, 10, 11, 12] [] (k' := 2) (l' := [(3, pt b3), (5, pt b4), (10, sl s ps.length), (11, .int .i64 ((ps.length : Nat) : Int)), (12, .int .i64 ((i + 1 : Nat) : Int))]) k_ ?_
      refine RN.done k_ ?_
      refine KN.dropF 2 ?_
      refine KN.roundE (i + 1, so, S) [3, 5, 10, 11, 12] [2, 3, 4] (l2 := [(3, pt b3), (5, pt b4), (10, sl s ps.length), (11, .int .i64 ((ps.length : Nat) : Int)), (12, .int .i64 ((i + 1 : Nat) : Int))]) (by (try dsimp only); omega) (by (try dsimp only); exact ⟨by omega, hI3⟩) k_ (by rfl) (by rfl) (by rfl)
  · skip
    replace c6 := of_decide_eq_false c6
    have hq := hI3.div hc
    have hq1 := hq.num_len
    have hq2 := hq.den_len
    refine J.exit (KX.next (KX.next (KX.hit ?_)))
    refine KN.next ?_
    refine J.sreg ?_
    refine RN.bq [some 0, some 1] [25, 26] [b3, b3, b3, b4, b4, b4] (k' := 2) (l' := [(25, ratV so (encQ S)), (26, ratV p c)]) k_ ?_
    refine RN.call (m19_quotient_c1 so S p c y_m19_about y_m19_about) [0, 2] k_ k_ k_ rfl (fun y12 _ => ?_)
    refine RN.new (fun b => pt b) (.cells (ratC (⟨saNil, saNil⟩ : RA) (⟨false, ([] : List Nat), ([] : List Nat)⟩ : Raw)) 27 (0, 0)) k_ k_ (fun w => by kernel_rfl) (fun b13 => ?_)
    refine RN.bat [some 0] [9] [b13, b13, b13] (k' := 5) (l' := [(9, pt b13)]) (M' := [(b13, .cells (ratC y12 (encQ (S / (qv c)))) 27 (0, 0)), (b4, .cells (ratC so (encQ S)) 27 (0, 0)), (b3, .cells (ratC p c) 27 (0, 0))]) k_ ?_
    refine RN.fin k_ ?_
    refine J.seq ?_
    refine J.regD k_ [] ?_
    refine RD.bat k_ [(0, none), (1, none), (2, some 0), (4, none), (5, some 0)] [30, 33] [b13, b13] (L' := [5, 4, 2, 1, 0]) (l' := [(30, sl y12.mag (toL (((S / (qv c)).num).natAbs)).length), (33, sl (y12.den) (toD ((S / (qv c)).den)).length)]) k_ ?_
    refine RD.also (fU y12.mag (toL (((S / (qv c)).num).natAbs))) (fun w h => (h _ (.head _)).1) k_ ?_
    refine RD.call (i := 3) (m19_length_c y12.mag (((S / (qv c)).num).natAbs) y_m19_about) [0] k_ k_ k_ k_ k_ rfl (fun y14 _ => ?_)
    have hA := lenL_le (toL ((S / (qv c)).num.natAbs))
    refine RD.also (fU (y12.den) (toD ((S / (qv c)).den))) (fun w h => (h _ (.tail _ ((.head _)))).2) k_ ?_
    refine RD.call (i := 6) (m19_length (y12.den) (toD ((S / (qv c)).den)) y_m19_about y_m19_about) [0] k_ k_ k_ k_ k_ rfl (fun y15 _ => ?_)
    have hB := lenL_le (toD ((S / (qv c)).den))
    refine RD.bat k_ [(7, none), (8, none)] [36] [] (L' := [8, 7, 6, 3, 5, 4, 2, 1, 0]) (l' := [(36, .int .i64 (IntKind.i64.wrap (((lenL (toL (((S / (qv c)).num).natAbs)) : Nat) : Int) - (if ((lenL (toD ((S / (qv c)).den)) : Nat) : Int) > 1 then ((lenL (toD ((S / (qv c)).den)) : Nat) : Int) else 1))))]) k_ ?_
    rw [show IntKind.i64.wrap (((lenL (toL (((S / (qv c)).num).natAbs)) : Nat) : Int) - (if ((lenL (toD ((S / (qv c)).den)) : Nat) : Int) > 1 then ((lenL (toD ((S / (qv c)).den)) : Nat) : Int) else 1)) = (((lenL (toL (((S / (qv c)).num).natAbs)) : Nat) : Int) - (if ((lenL (toD ((S / (qv c)).den)) : Nat) : Int) > 1 then ((lenL (toD ((S / (qv c)).den)) : Nat) : Int) else 1)) from by rw [IntKind.wrap_i64]; split <;> omega]
    refine RD.bat k_ [(9, none)] [4] [] (L' := [9, 8, 7, 6, 3, 5, 4, 2, 1, 0]) (l' := [(4, .int .i64 (((lenL (toL (((S / (qv c)).num).natAbs)) : Nat) : Int) - (if ((lenL (toD ((S / (qv c)).den)) : Nat) : Int) > 1 then ((lenL (toD ((S / (qv c)).den)) : Nat) : Int) else 1)))]) k_ ?_
    refine RD.done k_ ?_
    refine KN.next ?_
    refine J.ret (KR.ret (v := .int .i64 (((lenL (toL (((S / (qv c)).num).natAbs)) : Nat) : Int) - (if ((lenL (toD ((S / (qv c)).den)) : Nat) : Int) > 1 then ((lenL (toD ((S / (qv c)).den)) : Nat) : Int) else 1))) (((lenL (toL (((S / (qv c)).num).natAbs)) : Nat) : Int) - (if ((lenL (toD ((S / (qv c)).den)) : Nat) : Int) > 1 then ((lenL (toD ((S / (qv c)).den)) : Nat) : Int) else 1)) [none] [] [] k_ rfl (about_b (by omega) (by omega) rfl) rfl)
theorem m19_double (p : RA) (r : Raw) (hr : RQ 268435456 r) : Spec Tryz.prog 59 #[ratV p r] [fRat p r] (ι := RA) (fun y => ratV y (encQ (qv r + qv r))) (fun y => True) (fun y => [fRat y (encQ (qv r + qv r))]) := by
  refine Spec.of_body _ (fn := Tryz.f59) k_ rfl k_ (fun X w0 => ?_)
  refine J.fact (φ := r.mag.length ≤ 140737488355328 ∧ r.den.length ≤ 140737488355328) (fun w h => by have h1 := (h _ (.head _)).1.1; have h2 := (h _ (.head _)).2.1; omega) (fun hl1 => ?_)
  refine J.sreg ?_
  refine RN.new (fun b => pt b) (.cells (ratC p r) 27 (0, 0)) k_ k_ (fun w => by kernel_rfl) (fun b2 => ?_)
  refine RN.new (fun b => pt b) (.cells (ratC (⟨saNil, saNil⟩ : RA) (⟨false, ([] : List Nat), ([] : List Nat)⟩ : Raw)) 27 (0, 0)) k_ k_ (fun w => by kernel_rfl) (fun b3 => ?_)
  refine RN.fin k_ ?_
  refine J.sreg ?_
  refine RN.bq [some 1, some 1] [2, 3, 4] [b2, b2, b2, b2, b2, b2] (k' := 2) (l' := [(2, pt b3), (3, ratV p r), (4, ratV p r)]) k_ ?_
  refine RN.call (rational_Add p r p r y_ y_) [0, 0] k_ k_ k_ rfl (fun y4 _ => ?_)
  refine RN.bat [some 0] [2] [b3, b3, b3] (k' := 4) (l' := [(2, pt b3)]) (M' := [(b3, .cells (ratC y4 (encQ ((qv r) + (qv r)))) 27 (0, 0)), (b2, .cells (ratC p r) 27 (0, 0))]) k_ ?_
  refine RN.fin k_ ?_
  have e_1 : (encQ (qv r + qv r)) = (encQ ((qv r) + (qv r))) := by first | rfl | simp [*]
  refine J.ret (KR.ret (v := ratV y4 (encQ ((qv r) + (qv r)))) (y4) [some 0] [0] [b3, b3, b3] k_ v1_ (trivial) v1_)
theorem m19_double_c (p : RA) (r' : Rat) (hr : Q 268435456 r') : Spec Tryz.prog 59 #[ratV p (encQ r')] [fRat p (encQ r')] (ι := RA) (fun y => ratV y (encQ (r' + r'))) (fun y => True) (fun y => [fRat y (encQ (r' + r'))]) := by
  have H := m19_double p (encQ r') (RQ_enc hr)
  first | exact H | (simp only [qv_encQ, validQ_encQ] at H; exact H)
theorem y_m19_halve {p : Prop} (h : p := by first | assumption | exact Lb_toL _ | omega | (simp; done) | exact Q.le (Q_int (by decide)) (by decide)) : p := h
theorem m19_halve (p : RA) (r : Raw) (hr : RQ 268435456 r) : Spec Tryz.prog 60 #[ratV p r] [fRat p r] (ι := RA) (fun y => ratV y (encQ (qv r / 2))) (fun y => True) (fun y => [fRat y (encQ (qv r / 2))]) := by
  refine Spec.of_body _ (fn := Tryz.f60) k_ rfl k_ (fun X w0 => ?_)
  refine J.fact (φ := r.mag.length ≤ 140737488355328 ∧ r.den.length ≤ 140737488355328) (fun w h => by have h1 := (h _ (.head _)).1.1; have h2 := (h _ (.head _)).2.1; omega) (fun hl1 => ?_)
  refine J.sreg ?_
  refine RN.new (fun b => pt b) (.cells (ratC p r) 27 (0, 0)) k_ k_ (fun w => by kernel_rfl) (fun b2 => ?_)
  refine RN.new (fun b => pt b) (.cells (ratC (⟨saNil, saNil⟩ : RA) (⟨false, ([] : List Nat), ([] : List Nat)⟩ : Raw)) 27 (0, 0)) k_ k_ (fun w => by kernel_rfl) (fun b3 => ?_)
  refine RN.fin k_ ?_
  refine J.seq ?_
  refine J.regD k_ [3] ?_
  refine RD.bat k_ [(0, some 1)] [2, 3] [b2, b2, b2] (L' := [0]) (l' := [(2, pt b3), (3, ratV p r)]) k_ ?_
  refine RD.call (i := 1) (rational_FromInt 2 y_m19_halve y_m19_halve) [] k_ k_ k_ k_ k_ rfl (fun y4 _ => ?_)
  refine RD.call (i := 2) (m19_quotient_c2 p r y4 ((2 : Int) : Rat) y_m19_halve y_m19_halve) [1, 0] k_ k_ k_ k_ k_ rfl (fun y5 _ => ?_)
  refine RD.last (i := 3) (some 0) [2] [b3, b3, b3] k_ k_ k_ (l' := [(2, pt b3)]) (M' := [(b3, .cells (ratC y5 (encQ ((qv r) / ((2 : Int) : Rat)))) 27 (0, 0)), (b2, .cells (ratC p r) 27 (0, 0))]) k_ ?_
  refine RD.done k_ ?_
  refine KN.next ?_
  have e_1 : (encQ (qv r / 2)) = (encQ ((qv r) / ((2 : Int) : Rat))) := by rfl
  refine J.ret (KR.ret (v := ratV y5 (encQ ((qv r) / ((2 : Int) : Rat)))) (y5) [some 0] [0] [b3, b3, b3] k_ v1_ (trivial) v1_)
theorem m19_halve_c (p : RA) (r' : Rat) (hr : Q 268435456 r') : Spec Tryz.prog 60 #[ratV p (encQ r')] [fRat p (encQ r')] (ι := RA) (fun y => ratV y (encQ (r' / 2))) (fun y => True) (fun y => [fRat y (encQ (r' / 2))]) := by
  have H := m19_halve p (encQ r') (RQ_enc hr)
  first | exact H | (simp only [qv_encQ, validQ_encQ] at H; exact H)
end Go.Proofs.YtegnonhgildhoaaGreat.E
