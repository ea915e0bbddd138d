import Derived.Test.YtegnonhgildhoaaGreatM19d
import Derived.Test.YtegnonhgildhoaaGreatED
import Derived.Test.YtegnonhgildhoaaGreatP2
namespace Go.Proofs.YtegnonhgildhoaaGreat.E
open Go Go.RowKit
set_option linter.unusedVariables false
set_option linter.unusedSimpArgs false
def ScaleR (x : Nat → Rat) (n : Nat) (c b : Rat) (bits : Int) (lo hi : Rat) : Prop := if checkE n c b bits ≠ 0 ∨ shareN x n ≤ b then lo = 0 ∧ hi = 0 else ScaleOk x n c b bits lo hi
theorem ScaleR_0 {x : Nat → Rat} {n : Nat} {c b : Rat} {bits : Int} (h : checkE n c b bits ≠ 0 ∨ shareN x n ≤ b) : ScaleR x n c b bits 0 0 := by unfold ScaleR; rw [if_pos h]; exact ⟨rfl, rfl⟩
theorem ScaleR_ok {x : Nat → Rat} {n : Nat} {c b : Rat} {bits : Int} {lo hi : Rat} (h1 : checkE n c b bits = 0) (h2 : ¬ shareN x n ≤ b) (h : ScaleOk x n c b bits lo hi) : ScaleR x n c b bits lo hi := by unfold ScaleR; rw [if_neg (by simp [h1, h2])]; exact h
theorem checkE_0 {n : Nat} {c b : Rat} {bits : Int} (h : checkE n c b bits = 0) : 0 < n ∧ n ≤ 1024 ∧ 0 < c ∧ 0 < b ∧ b < 1 ∧ 0 ≤ bits ∧ bits ≤ 128 := by
  unfold checkE at h
  split at h
  · contradiction
  · rename_i h0
    have h1 := sizeE_0 (Decidable.not_not.1 h0)
    split at h
    · rename_i h2; exact ⟨h1.1, h1.2, h2⟩
    · exact absurd h (by decide)
theorem Q_share (x : Nat → Rat) {n : Nat} (h : n ≤ 1024) : Q 5 (shareN x n) := by
  have := cntN_le (fun i => decide (x i ≠ 0)) n
  exact ((Q_int (v := ((cntN (fun i => decide (x i ≠ 0)) n : Nat) : Int)) (by omega)).div (Q_int (v := ((n : Nat) : Int)) (by omega)))
theorem y_m19_Scale {p : Prop} (h : p := by first | assumption | exact Lb_toL _ | omega | (simp; done) | first | exact Q.le hsq (by decide) | exact Q.le hc (by decide) | exact Q.le hb (by decide) | exact Q.le hHQ (by decide) | exact Q.le hUQ.1 (by decide) | exact Q.le hUQ.2 (by decide) | exact Q.le hQ1 (by decide) | exact Q.le hQ2 (by decide) | exact Q.le hQ3 (by decide) | exact Q.le hQ4 (by decide) | exact Q.le hQ5 (by decide) | exact Q.le hQ6 (by decide) | exact Q.le hQ7 (by decide) | omega) : p := h
theorem m19_Scale (s : SA) (ps : List PR) (p : RA) (c : Raw) (u : RA) (b : Raw) (bits : Int) (hps : ∀ i, i < ps.length → RQ 64 (ps.getD i pr0).2) (hcR : RQ 268435456 c) (hbR : RQ 268435456 b) (hc : Q 64 (qv c)) (hb : Q 64 (qv b)) : Spec Tryz.prog 18 #[sl s ps.length, ratV p c, ratV u b, .int .i64 bits] [fRats s ps, fRat p c, fRat u b] (ι := RA × RA × Rat × Rat) (fun y => .tuple #[.agg (ivC y.1 (encQ y.2.2.1) y.2.1 (encQ y.2.2.2)), .int .i64 (checkE ps.length (qv c) (qv b) bits)]) (fun y => ScaleR (vals ps) ps.length (qv c) (qv b) bits y.2.2.1 y.2.2.2) (fun y => [fRat y.1 (encQ y.2.2.1), fRat y.2.1 (encQ y.2.2.2)]) := by
  refine Spec.of_body _ (fn := Tryz.f18) k_ rfl k_ (fun X w0 => ?_)
  refine J.fact (φ := ps.length ≤ 140737488355328) (fun w h => by have := (h _ (.head _)).1; omega) (fun hl1 => ?_)
  refine J.fact (φ := c.mag.length ≤ 140737488355328 ∧ c.den.length ≤ 140737488355328) (fun w h => by have h1 := (h _ (.tail _ ((.head _)))).1.1; have h2 := (h _ (.tail _ ((.head _)))).2.1; omega) (fun hl2 => ?_)
  refine J.fact (φ := b.mag.length ≤ 140737488355328 ∧ b.den.length ≤ 140737488355328) (fun w h => by have h1 := (h _ (.tail _ ((.tail _ ((.head _)))))).1.1; have h2 := (h _ (.tail _ ((.tail _ ((.head _)))))).2.1; omega) (fun hl3 => ?_)
  refine J.sreg ?_
  refine RN.new (fun b => pt b) (.cells #[sl s ps.length] 22 (0, 0)) k_ k_ (fun w => by kernel_rfl) (fun b4 => ?_)
  refine RN.new (fun b => pt b) (.cells (ratC p c) 27 (0, 0)) k_ k_ (fun w => by kernel_rfl) (fun b5 => ?_)
  refine RN.new (fun b => pt b) (.cells (ratC u b) 27 (0, 0)) k_ k_ (fun w => by kernel_rfl) (fun b6 => ?_)
  refine RN.new (fun b => pt b) (.cells (ivC (⟨saNil, saNil⟩ : RA) (⟨false, ([] : List Nat), ([] : List Nat)⟩ : Raw) (⟨saNil, saNil⟩ : RA) (⟨false, ([] : List Nat), ([] : List Nat)⟩ : Raw)) 38 (0, 0)) k_ k_ (fun w => by kernel_rfl) (fun b7 => ?_)
  refine RN.bq (no 1) [3, 4, 5, 6, 8] [] (k' := 5) (l' := [(3, .int .i64 bits), (4, pt b4), (5, pt b5), (6, pt b6), (8, pt b7)]) k_ ?_
  refine RN.fin k_ ?_
  refine J.seq ?_
  refine J.sreg ?_
  refine RN.bq [some 3, some 2, some 1, none] [3, 4, 5, 6, 8, 16, 17, 18, 19] [b6, b6, b6, b5, b5, b5, b4] (k' := 4) (l' := [(3, .int .i64 bits), (4, pt b4), (5, pt b5), (6, pt b6), (8, pt b7), (16, sl s ps.length), (17, ratV p c), (18, ratV u b), (19, .int .i64 bits)]) k_ ?_
  refine RN.call (m19_Check s ps p c u b bits y_m19_Scale y_m19_Scale) [0, 1, 2] k_ k_ k_ rfl (fun y8 _ => ?_)
  refine RN.bq (no 1) [3, 4, 5, 6, 8, 10] [] (k' := 6) (l' := [(3, .int .i64 bits), (4, pt b4), (5, pt b5), (6, pt b6), (8, pt b7), (10, .int .i64 (checkE ps.length (qv c) (qv b) bits))]) k_ ?_
  refine RN.fin k_ ?_
  refine J.sreg ?_
  refine RN.bq (no 2) [3, 4, 5, 6, 8, 10, 22] [] (k' := 2) (l' := [(3, .int .i64 bits), (4, pt b4), (5, pt b5), (6, pt b6), (8, pt b7), (10, .int .i64 (checkE ps.length (qv c) (qv b) bits)), (22, .bool (((checkE ps.length (qv c) (qv b) bits) : Int) != 0))]) k_ ?_
  refine RN.fin k_ ?_
  refine J.cond (((checkE ps.length (qv c) (qv b) bits) : Int) != 0) k_ (fun c9 => ?_) (fun c9 => ?_)
  · skip
    replace c9 := bne_iff_ne.1 c9
    have he := c9
    refine J.sreg ?_
    refine RN.bat [none, none, some 0, none] [8, 9] [b7, b7, b7, b7, b7, b7] (k' := 4) (l' := [(8, pt b7), (9, .int .i64 (checkE ps.length (qv c) (qv b) bits))]) (M' := [(b7, .cells (ivC (⟨saNil, saNil⟩ : RA) (⟨false, ([] : List Nat), ([] : List Nat)⟩ : Raw) (⟨saNil, saNil⟩ : RA) (⟨false, ([] : List Nat), ([] : List Nat)⟩ : Raw)) 38 (0, 0)), (b6, .cells (ratC u b) 27 (0, 0)), (b5, .cells (ratC p c) 27 (0, 0)), (b4, .cells #[sl s ps.length] 22 (0, 0))]) k_ ?_
    refine RN.fin k_ ?_
    have e_1 : encQ (0 : Rat) = (⟨false, ([] : List Nat), ([] : List Nat)⟩ : Raw) := encQ_zero
    have e_2 : encQ (0 : Rat) = (⟨false, ([] : List Nat), ([] : List Nat)⟩ : Raw) := encQ_zero
    refine J.also (fRat (⟨saNil, saNil⟩ : RA) (⟨false, ([] : List Nat), ([] : List Nat)⟩ : Raw)) (fun w h => ⟨fU_nil w, fU_nil w⟩) ?_
    refine J.ret (KR.next (KR.ret (v := .tuple #[.agg (ivC (⟨saNil, saNil⟩ : RA) (⟨false, ([] : List Nat), ([] : List Nat)⟩ : Raw) (⟨saNil, saNil⟩ : RA) (⟨false, ([] : List Nat), ([] : List Nat)⟩ : Raw)), .int .i64 (checkE ps.length (qv c) (qv b) bits)]) (⟨⟨saNil, saNil⟩, ⟨⟨saNil, saNil⟩, ⟨(0 : Rat), (0 : Rat)⟩⟩⟩) [some 0, none] [0, 0] [b7, b7, b7, b7, b7, b7] k_ v2_ (ScaleR_0 (.inl he)) v2_))
  · skip
    replace c9 := bne_eq_false_iff_eq.1 c9
    have he : checkE ps.length (qv c) (qv b) bits = 0 := by simpa using c9
    obtain ⟨hn0, hn1, hc0, hb0, hb1, ht0, ht1⟩ := checkE_0 he
    have hsq := Q_share (vals ps) hn1
    refine J.skip ?_
    refine KN.next ?_
    refine J.seq ?_
    refine J.seq ?_
    refine J.regD k_ [] ?_
    refine RD.bat k_ [(0, some 3), (2, some 1)] [3, 4, 5, 6, 8, 25, 27] [b6, b6, b6, b4] (L' := [2, 0]) (l' := [(3, .int .i64 bits), (4, pt b4), (5, pt b5), (6, pt b6), (8, pt b7), (25, sl s ps.length), (27, ratV u b)]) k_ ?_
    refine RD.call (i := 1) (m19_share s ps y_m19_Scale y_m19_Scale) [0] k_ k_ k_ k_ k_ rfl (fun y10 _ => ?_)
    refine RD.call (i := 3) (rational_Compare_c1 y10 (shareN (vals ps) ps.length) u b y_m19_Scale y_m19_Scale) [0, 3] k_ k_ k_ k_ k_ rfl (fun y11 _ => ?_)
    refine RD.bat k_ [(4, none)] [3, 4, 5, 6, 8, 29] [] (L' := [4, 3, 1, 2, 0]) (l' := [(3, .int .i64 bits), (4, pt b4), (5, pt b5), (6, pt b6), (8, pt b7), (29, .bool (decide ((cmpQ (shareN (vals ps) ps.length) (qv b)) ≤ 0)))]) k_ ?_
    refine RD.done k_ ?_
    refine KN.next ?_
    refine J.cond (decide ((cmpQ (shareN (vals ps) ps.length) (qv b)) ≤ 0)) k_ (fun c12 => ?_) (fun c12 => ?_)
    · skip
      replace c12 := of_decide_eq_true c12
      have hle : shareN (vals ps) ps.length ≤ qv b := Rat.not_lt.1 (cmpQ_le.1 c12)
      refine J.sreg ?_
      refine RN.bat [none, some 0, none] [8, 9] [b7, b7, b7, b7, b7, b7] (k' := 3) (l' := [(8, pt b7), (9, .int .i64 0)]) (M' := [(b7, .cells (ivC (⟨saNil, saNil⟩ : RA) (⟨false, ([] : List Nat), ([] : List Nat)⟩ : Raw) (⟨saNil, saNil⟩ : RA) (⟨false, ([] : List Nat), ([] : List Nat)⟩ : Raw)) 38 (0, 0)), (b6, .cells (ratC u b) 27 (0, 0)), (b5, .cells (ratC p c) 27 (0, 0)), (b4, .cells #[sl s ps.length] 22 (0, 0))]) k_ ?_
      refine RN.fin k_ ?_
      have e_1 : encQ (0 : Rat) = (⟨false, ([] : List Nat), ([] : List Nat)⟩ : Raw) := encQ_zero
      have e_2 : encQ (0 : Rat) = (⟨false, ([] : List Nat), ([] : List Nat)⟩ : Raw) := encQ_zero
      have e_3 : (checkE ps.length (qv c) (qv b) bits : Int) = (0 : Int) := by exact he
      refine J.also (fRat (⟨saNil, saNil⟩ : RA) (⟨false, ([] : List Nat), ([] : List Nat)⟩ : Raw)) (fun w h => ⟨fU_nil w, fU_nil w⟩) ?_
      refine J.ret (KR.next (KR.ret (v := .tuple #[.agg (ivC (⟨saNil, saNil⟩ : RA) (⟨false, ([] : List Nat), ([] : List Nat)⟩ : Raw) (⟨saNil, saNil⟩ : RA) (⟨false, ([] : List Nat), ([] : List Nat)⟩ : Raw)), .int .i64 0]) (⟨⟨saNil, saNil⟩, ⟨⟨saNil, saNil⟩, ⟨(0 : Rat), (0 : Rat)⟩⟩⟩) [some 0, none] [0, 0] [b7, b7, b7, b7, b7, b7] k_ v3_ (ScaleR_0 (.inr hle)) v3_))
    · skip
      replace c12 := of_decide_eq_false c12
      have hnle : ¬ shareN (vals ps) ps.length ≤ qv b := fun h => c12 (cmpQ_le.2 (Rat.not_lt.2 h))
      have hin : SIn (vals ps) ps.length (qv c) (qv b) bits := ⟨hn0, hn1, fun i hi => (hps i hi).2.2.2.2, hc, hc0, hb, hb0, Rat.not_le.1 hnle, ht0, ht1⟩
      refine J.skip ?_
      refine KN.next ?_
      refine J.sreg ?_
      refine RN.bq (no 2) [3, 4, 5, 8, 11] [] (k' := 2) (l' := [(3, .int .i64 bits), (4, pt b4), (5, pt b5), (8, pt b7), (11, .func (.func 56) #[] #[pt b4, pt b5, pt b6])]) k_ ?_
      refine RN.fin k_ ?_
      refine J.sreg ?_
      refine RN.bq [some 3, some 2] [3, 8, 11, 32, 33] [b5, b5, b5, b4] (k' := 2) (l' := [(3, .int .i64 bits), (8, pt b7), (11, .func (.func 56) #[] #[pt b4, pt b5, pt b6]), (32, sl s ps.length), (33, ratV p c)]) k_ ?_
      refine RN.call (m19_about s ps p c y_m19_Scale y_m19_Scale y_m19_Scale) [1, 2] k_ k_ k_ rfl (fun ab h13 => ?_)
      have hab := h13
      have hpq := (L1.start hab).Q
      refine RN.call (m19_power ab y_m19_Scale y_m19_Scale) [] k_ k_ k_ rfl (fun y14 _ => ?_)
      refine RN.new (fun b => pt b) (.cells (ratC (⟨saNil, saNil⟩ : RA) (⟨false, ([] : List Nat), ([] : List Nat)⟩ : Raw)) 27 (0, 0)) k_ k_ (fun w => by kernel_rfl) (fun b15 => ?_)
      refine RN.bat [some 0] [3, 8, 11, 12] [b15, b15, b15] (k' := 6) (l' := [(3, .int .i64 bits), (8, pt b7), (11, .func (.func 56) #[] #[pt b4, pt b5, pt b6]), (12, pt b15)]) (M' := [(b15, .cells (ratC y14 (encQ (P2 ab))) 27 (0, 0)), (b7, .cells (ivC (⟨saNil, saNil⟩ : RA) (⟨false, ([] : List Nat), ([] : List Nat)⟩ : Raw) (⟨saNil, saNil⟩ : RA) (⟨false, ([] : List Nat), ([] : List Nat)⟩ : Raw)) 38 (0, 0)), (b6, .cells (ratC u b) 27 (0, 0)), (b5, .cells (ratC p c) 27 (0, 0)), (b4, .cells #[sl s ps.length] 22 (0, 0))]) k_ ?_
      refine RN.fin k_ ?_
      refine J.seq ?_
      refine J.block ?_
      refine J.loop (ι := (Nat) × (RA) × (Rat)) (fun x => L1 ab x.1 x.2.2) (fun x => 14624 - x.1) (fun x => [(3, .int .i64 bits), (8, pt b7), (11, .func (.func 56) #[] #[pt b4, pt b5, pt b6]), (12, pt b15)]) (fun x => [(b15, .cells (ratC x.2.1 (encQ x.2.2)) 27 (0, 0)), (b7, .cells (ivC (⟨saNil, saNil⟩ : RA) (⟨false, ([] : List Nat), ([] : List Nat)⟩ : Raw) (⟨saNil, saNil⟩ : RA) (⟨false, ([] : List Nat), ([] : List Nat)⟩ : Raw)) 38 (0, 0)), (b6, .cells (ratC u b) 27 (0, 0)), (b5, .cells (ratC p c) 27 (0, 0)), (b4, .cells #[sl s ps.length] 22 (0, 0))]) (fun x => [fRat x.2.1 (encQ x.2.2), fRat y14 (encQ (P2 ab)), fRat y10 (encQ (shareN (vals ps) ps.length)), fRats s ps, fRat p c, fRat u b]) (0, y14, P2 ab) [3, 8, 11, 12] [0, 0, 1, 2, 3, 4] (L1.start hab) k_ (by first | rfl | (simp only [encQ_zero]; done) | (simp only [encQ_zero]; rfl)) (by rfl) (fun x16 hI => ?_)
      obtain ⟨i, ho, H⟩ := x16
      replace hI : L1 ab i H := hI
      have hHQ := L1.Q hI
      refine J.seq ?_
      refine J.sreg ?_
      refine RN.bq [none, some 0] [3, 8, 11, 12, 36, 37] [b15, b15, b15] (k' := 2) (l' := [(3, .int .i64 bits), (8, pt b7), (11, .func (.func 56) #[] #[pt b4, pt b5, pt b6]), (12, pt b15), (36, .func (.func 56) #[] #[pt b4, pt b5, pt b6]), (37, ratV ho (encQ H))]) k_ ?_
      refine RN.callM (m19_above ho H b4 b5 b6 s ps p c u b y_m19_Scale y_m19_Scale y_m19_Scale y_m19_Scale y_m19_Scale y_m19_Scale y_m19_Scale) [(b15, .cells (ratC ho (encQ H)) 27 (0, 0)), (b7, .cells (ivC (⟨saNil, saNil⟩ : RA) (⟨false, ([] : List Nat), ([] : List Nat)⟩ : Raw) (⟨saNil, saNil⟩ : RA) (⟨false, ([] : List Nat), ([] : List Nat)⟩ : Raw)) 38 (0, 0))] ([]) [0, 3, 4, 5] k_ k_ k_ rfl rfl (fun y17 _ => ?_)
      refine RN.fin k_ ?_
      refine J.cond (decide ((qv b) < meanN (vals ps) ps.length (qv c) H)) k_ (fun c18 => ?_) (fun c18 => ?_)
      · skip
        replace c18 := of_decide_eq_true c18
        have hst := L1.step hin hI c18
        refine J.skip ?_
        refine KN.next ?_
        refine J.block ?_
        refine J.regN ?_
        refine RN.bq [some 0] [3, 8, 11, 12, 39] [b15, b15, b15] (k' := 1) (l' := [(3, .int .i64 bits), (8, pt b7), (11, .func (.func 56) #[] #[pt b4, pt b5, pt b6]), (12, pt b15), (39, ratV ho (encQ H))]) k_ ?_
        refine RN.call (m19_double_c ho H y_m19_Scale) [0] k_ k_ k_ rfl (fun y19 _ => ?_)
        refine RN.bat [some 0] [3, 8, 11, 12] [b15, b15, b15] (k' := 3) (l' := [(3, .int .i64 bits), (8, pt b7), (11, .func (.func 56) #[] #[pt b4, pt b5, pt b6]), (12, pt b15)]) (M' := [(b15, .cells (ratC y19 (encQ (H + H))) 27 (0, 0)), (b7, .cells (ivC (⟨saNil, saNil⟩ : RA) (⟨false, ([] : List Nat), ([] : List Nat)⟩ : Raw) (⟨saNil, saNil⟩ : RA) (⟨false, ([] : List Nat), ([] : List Nat)⟩ : Raw)) 38 (0, 0)), (b6, .cells (ratC u b) 27 (0, 0)), (b5, .cells (ratC p c) 27 (0, 0)), (b4, .cells #[sl s ps.length] 22 (0, 0))]) k_ ?_
        refine RN.done k_ ?_
        refine KN.blk ?_
        refine KN.roundE (i + 1, y19, H + H) [3, 8, 11, 12] [0, 2, 3, 4, 5, 6] (l2 := [(3, .int .i64 bits), (8, pt b7), (11, .func (.func 56) #[] #[pt b4, pt b5, pt b6]), (12, pt b15)]) (by (try dsimp only); omega) (by (try dsimp only); exact hst.2) k_ (by rfl) (by rfl) (by rfl)
      · skip
        replace c18 := of_decide_eq_false c18
        have hna := c18
        have hH := L1.done hI
        refine J.exit (KX.next (KX.next (KX.hit ?_)))
        refine KN.next ?_
        refine J.sreg ?_
        refine RN.bq [some 0] [3, 8, 11, 12, 41] [b15, b15, b15] (k' := 1) (l' := [(3, .int .i64 bits), (8, pt b7), (11, .func (.func 56) #[] #[pt b4, pt b5, pt b6]), (12, pt b15), (41, ratV ho (encQ H))]) k_ ?_
        refine RN.call (m19_halve_c ho H y_m19_Scale) [0] k_ k_ k_ rfl (fun y20 _ => ?_)
        refine RN.new (fun b => pt b) (.cells (ratC (⟨saNil, saNil⟩ : RA) (⟨false, ([] : List Nat), ([] : List Nat)⟩ : Raw)) 27 (0, 0)) k_ k_ (fun w => by kernel_rfl) (fun b21 => ?_)
        refine RN.bat [some 0] [3, 8, 11, 12, 13] [b21, b21, b21] (k' := 4) (l' := [(3, .int .i64 bits), (8, pt b7), (11, .func (.func 56) #[] #[pt b4, pt b5, pt b6]), (12, pt b15), (13, pt b21)]) (M' := [(b21, .cells (ratC y20 (encQ (H / 2))) 27 (0, 0)), (b15, .cells (ratC ho (encQ H)) 27 (0, 0)), (b7, .cells (ivC (⟨saNil, saNil⟩ : RA) (⟨false, ([] : List Nat), ([] : List Nat)⟩ : Raw) (⟨saNil, saNil⟩ : RA) (⟨false, ([] : List Nat), ([] : List Nat)⟩ : Raw)) 38 (0, 0)), (b6, .cells (ratC u b) 27 (0, 0)), (b5, .cells (ratC p c) 27 (0, 0)), (b4, .cells #[sl s ps.length] 22 (0, 0))]) k_ ?_
        refine RN.fin k_ ?_
        refine J.seq ?_
        refine J.block ?_
        refine J.loop (ι := (Nat) × (RA) × (Rat) × (RA) × (Rat)) (fun x => L2 (vals ps) ps.length (qv c) (qv b) H x.1 x.2.2.1 x.2.2.2.2) (fun x => 27168 - x.1) (fun x => [(3, .int .i64 bits), (8, pt b7), (11, .func (.func 56) #[] #[pt b4, pt b5, pt b6]), (12, pt b15), (13, pt b21)]) (fun x => [(b21, .cells (ratC x.2.2.2.1 (encQ x.2.2.2.2)) 27 (0, 0)), (b15, .cells (ratC x.2.1 (encQ x.2.2.1)) 27 (0, 0)), (b7, .cells (ivC (⟨saNil, saNil⟩ : RA) (⟨false, ([] : List Nat), ([] : List Nat)⟩ : Raw) (⟨saNil, saNil⟩ : RA) (⟨false, ([] : List Nat), ([] : List Nat)⟩ : Raw)) 38 (0, 0)), (b6, .cells (ratC u b) 27 (0, 0)), (b5, .cells (ratC p c) 27 (0, 0)), (b4, .cells #[sl s ps.length] 22 (0, 0))]) (fun x => [fRat x.2.1 (encQ x.2.2.1), fRat x.2.2.2.1 (encQ x.2.2.2.2), fRat y20 (encQ (H / 2)), fRat ho (encQ H), fRat y14 (encQ (P2 ab)), fRat y10 (encQ (shareN (vals ps) ps.length)), fRats s ps, fRat p c, fRat u b]) (0, ho, H, y20, H / 2) [3, 8, 11, 12, 13] [1, 0, 0, 1, 2, 3, 4, 5, 6] (L2.start hna) k_ (by first | rfl | (simp only [encQ_zero]; done) | (simp only [encQ_zero]; rfl)) (by rfl) (fun x22 hJ => ?_)
        obtain ⟨j, ho2, U, lo, Lo⟩ := x22
        replace hJ : L2 (vals ps) ps.length (qv c) (qv b) H j U Lo := hJ
        have hUQ := L2.Q hJ hHQ
        refine J.seq ?_
        refine J.sreg ?_
        refine RN.bq [none, some 0] [3, 8, 11, 12, 13, 43, 44] [b21, b21, b21] (k' := 2) (l' := [(3, .int .i64 bits), (8, pt b7), (11, .func (.func 56) #[] #[pt b4, pt b5, pt b6]), (12, pt b15), (13, pt b21), (43, .func (.func 56) #[] #[pt b4, pt b5, pt b6]), (44, ratV lo (encQ Lo))]) k_ ?_
        refine RN.callM (m19_above lo Lo b4 b5 b6 s ps p c u b y_m19_Scale y_m19_Scale y_m19_Scale y_m19_Scale y_m19_Scale y_m19_Scale y_m19_Scale) [(b21, .cells (ratC lo (encQ Lo)) 27 (0, 0)), (b15, .cells (ratC ho2 (encQ U)) 27 (0, 0)), (b7, .cells (ivC (⟨saNil, saNil⟩ : RA) (⟨false, ([] : List Nat), ([] : List Nat)⟩ : Raw) (⟨saNil, saNil⟩ : RA) (⟨false, ([] : List Nat), ([] : List Nat)⟩ : Raw)) 38 (0, 0))] ([]) [1, 6, 7, 8] k_ k_ k_ rfl rfl (fun y23 _ => ?_)
        refine RN.bq (no 1) [3, 8, 11, 12, 13, 46] [] (k' := 4) (l' := [(3, .int .i64 bits), (8, pt b7), (11, .func (.func 56) #[] #[pt b4, pt b5, pt b6]), (12, pt b15), (13, pt b21), (46, .bool (!(decide ((qv b) < meanN (vals ps) ps.length (qv c) Lo))))]) k_ ?_
        refine RN.fin k_ ?_
        refine J.cond (!(decide ((qv b) < meanN (vals ps) ps.length (qv c) Lo))) k_ (fun c24 => ?_) (fun c24 => ?_)
        · skip
          replace c24 := of_decide_eq_false ((Bool.not_eq_true' _).mp c24)
          have hst := L2.step hin hH hJ c24
          refine J.skip ?_
          refine KN.next ?_
          refine J.block ?_
          refine J.regD k_ [3, 4] ?_
          refine RD.bat k_ [(0, some 0), (1, some 0)] [3, 8, 11, 12, 13, 47, 48] [b21, b21, b21, b21, b21, b21] (L' := [1, 0]) (l' := [(3, .int .i64 bits), (8, pt b7), (11, .func (.func 56) #[] #[pt b4, pt b5, pt b6]), (12, pt b15), (13, pt b21), (47, ratV lo (encQ Lo)), (48, ratV lo (encQ Lo))]) k_ ?_
          refine RD.call (i := 2) (m19_halve_c lo Lo y_m19_Scale) [1] k_ k_ k_ k_ k_ rfl (fun y25 _ => ?_)
          refine RD.last (i := 3) (some 1) [3, 8, 11, 12, 13, 49] [b15, b15, b15] k_ k_ k_ (l' := [(3, .int .i64 bits), (8, pt b7), (11, .func (.func 56) #[] #[pt b4, pt b5, pt b6]), (12, pt b15), (13, pt b21), (49, ratV y25 (encQ (Lo / 2)))]) (M' := [(b21, .cells (ratC lo (encQ Lo)) 27 (0, 0)), (b15, .cells (ratC lo (encQ Lo)) 27 (0, 0)), (b7, .cells (ivC (⟨saNil, saNil⟩ : RA) (⟨false, ([] : List Nat), ([] : List Nat)⟩ : Raw) (⟨saNil, saNil⟩ : RA) (⟨false, ([] : List Nat), ([] : List Nat)⟩ : Raw)) 38 (0, 0)), (b6, .cells (ratC u b) 27 (0, 0)), (b5, .cells (ratC p c) 27 (0, 0)), (b4, .cells #[sl s ps.length] 22 (0, 0))]) k_ ?_
          refine RD.last (i := 4) (some 0) [3, 8, 11, 12, 13] [b21, b21, b21] k_ k_ k_ (l' := [(3, .int .i64 bits), (8, pt b7), (11, .func (.func 56) #[] #[pt b4, pt b5, pt b6]), (12, pt b15), (13, pt b21)]) (M' := [(b21, .cells (ratC y25 (encQ (Lo / 2))) 27 (0, 0)), (b15, .cells (ratC lo (encQ Lo)) 27 (0, 0)), (b7, .cells (ivC (⟨saNil, saNil⟩ : RA) (⟨false, ([] : List Nat), ([] : List Nat)⟩ : Raw) (⟨saNil, saNil⟩ : RA) (⟨false, ([] : List Nat), ([] : List Nat)⟩ : Raw)) 38 (0, 0)), (b6, .cells (ratC u b) 27 (0, 0)), (b5, .cells (ratC p c) 27 (0, 0)), (b4, .cells #[sl s ps.length] 22 (0, 0))]) k_ ?_
          refine RD.done k_ ?_
          refine KN.blk ?_
          refine KN.roundE (j + 1, lo, Lo, y25, Lo / 2) [3, 8, 11, 12, 13] [2, 0, 3, 4, 5, 6, 7, 8, 9] (l2 := [(3, .int .i64 bits), (8, pt b7), (11, .func (.func 56) #[] #[pt b4, pt b5, pt b6]), (12, pt b15), (13, pt b21)]) (by (try dsimp only); omega) (by (try dsimp only); exact hst.2) k_ (by rfl) (by rfl) (by rfl)
        · skip
          replace c24 := of_decide_eq_true ((Bool.not_eq_false' _).mp c24)
          have hyes := c24
          refine J.exit (KX.next (KX.next (KX.hit ?_)))
          refine KN.next ?_
          refine J.sreg ?_
          refine RN.bq (no 2) [8, 11, 12, 13, 51] [] (k' := 2) (l' := [(8, pt b7), (11, .func (.func 56) #[] #[pt b4, pt b5, pt b6]), (12, pt b15), (13, pt b21), (51, .int .i64 (IntKind.i64.wrap (0 - bits)))]) k_ ?_
          rw [show IntKind.i64.wrap (0 - bits) = (-bits) from by rw [IntKind.wrap_i64]; omega]
          refine RN.call (m19_power (-bits) y_m19_Scale y_m19_Scale) [] k_ k_ k_ rfl (fun y26 _ => ?_)
          refine RN.new (fun b => pt b) (.cells (ratC (⟨saNil, saNil⟩ : RA) (⟨false, ([] : List Nat), ([] : List Nat)⟩ : Raw)) 27 (0, 0)) k_ k_ (fun w => by kernel_rfl) (fun b27 => ?_)
          refine RN.bat [some 0] [8, 11, 12, 13, 14] [b27, b27, b27] (k' := 5) (l' := [(8, pt b7), (11, .func (.func 56) #[] #[pt b4, pt b5, pt b6]), (12, pt b15), (13, pt b21), (14, pt b27)]) (M' := [(b27, .cells (ratC y26 (encQ (P2 (-bits)))) 27 (0, 0)), (b21, .cells (ratC lo (encQ Lo)) 27 (0, 0)), (b15, .cells (ratC ho2 (encQ U)) 27 (0, 0)), (b7, .cells (ivC (⟨saNil, saNil⟩ : RA) (⟨false, ([] : List Nat), ([] : List Nat)⟩ : Raw) (⟨saNil, saNil⟩ : RA) (⟨false, ([] : List Nat), ([] : List Nat)⟩ : Raw)) 38 (0, 0)), (b6, .cells (ratC u b) 27 (0, 0)), (b5, .cells (ratC p c) 27 (0, 0)), (b4, .cells #[sl s ps.length] 22 (0, 0))]) k_ ?_
          refine RN.fin k_ ?_
          refine J.seq ?_
          refine J.block ?_
          refine J.loop (ι := (Nat) × (Nat) × (RA) × (Rat) × (RA) × (Rat)) (fun x => L3 (vals ps) ps.length (qv c) (qv b) Lo bits x.1 x.2.1 x.2.2.2.1 x.2.2.2.2.2) (fun x => bits.toNat - x.2.1) (fun x => [(8, pt b7), (11, .func (.func 56) #[] #[pt b4, pt b5, pt b6]), (12, pt b15), (13, pt b21), (14, pt b27)]) (fun x => [(b27, .cells (ratC y26 (encQ (P2 (-bits)))) 27 (0, 0)), (b21, .cells (ratC x.2.2.2.2.1 (encQ x.2.2.2.2.2)) 27 (0, 0)), (b15, .cells (ratC x.2.2.1 (encQ x.2.2.2.1)) 27 (0, 0)), (b7, .cells (ivC (⟨saNil, saNil⟩ : RA) (⟨false, ([] : List Nat), ([] : List Nat)⟩ : Raw) (⟨saNil, saNil⟩ : RA) (⟨false, ([] : List Nat), ([] : List Nat)⟩ : Raw)) 38 (0, 0)), (b6, .cells (ratC u b) 27 (0, 0)), (b5, .cells (ratC p c) 27 (0, 0)), (b4, .cells #[sl s ps.length] 22 (0, 0))]) (fun x => [fRat x.2.2.1 (encQ x.2.2.2.1), fRat x.2.2.2.2.1 (encQ x.2.2.2.2.2), fRat y26 (encQ (P2 (-bits))), fRat ho2 (encQ U), fRat lo (encQ Lo), fRat y20 (encQ (H / 2)), fRat ho (encQ H), fRat y14 (encQ (P2 ab)), fRat y10 (encQ (shareN (vals ps) ps.length)), fRats s ps, fRat p c, fRat u b]) (1, 0, ho2, U, lo, Lo) [8, 11, 12, 13, 14] [1, 2, 0, 1, 2, 3, 4, 5, 6, 7, 8, 9] (L3.start hH.1 hHQ hJ hyes) k_ (by first | rfl | (simp only [encQ_zero]; done) | (simp only [encQ_zero]; rfl)) (by rfl) (fun x28 hK => ?_)
          obtain ⟨a, k, ho3, U3, lo3, L3v⟩ := x28
          replace hK : L3 (vals ps) ps.length (qv c) (qv b) Lo bits a k U3 L3v := hK
          obtain ⟨hQ1, hQ2, hQ3, hQ4⟩ := L3.Q hK hin.t0 hin.t1
          have hQ5 := hQ1.sub hQ2
          have hQ6 := hQ4.mul hQ1
          have hQ7 := hQ2.add hQ1
          refine J.seq ?_
          refine J.seq ?_
          refine J.regD k_ [] ?_
          refine RD.bat k_ [(0, some 2), (1, some 1), (3, some 0), (4, some 2)] [8, 11, 12, 13, 14, 53, 54, 56, 57] [b15, b15, b15, b27, b27, b27, b21, b21, b21, b15, b15, b15] (L' := [4, 3, 1, 0]) (l' := [(8, pt b7), (11, .func (.func 56) #[] #[pt b4, pt b5, pt b6]), (12, pt b15), (13, pt b21), (14, pt b27), (53, ratV ho3 (encQ U3)), (54, ratV lo3 (encQ L3v)), (56, ratV y26 (encQ (P2 (-bits)))), (57, ratV ho3 (encQ U3))]) k_ ?_
          refine RD.call (i := 2) (rational_Sub_c ho3 U3 lo3 L3v y_m19_Scale y_m19_Scale) [0, 1] k_ k_ k_ k_ k_ rfl (fun y29 _ => ?_)
          refine RD.call (i := 5) (rational_Mul_c y26 (P2 (-bits)) ho3 U3 y_m19_Scale y_m19_Scale) [3, 1] k_ k_ k_ k_ k_ rfl (fun y30 _ => ?_)
          refine RD.call (i := 6) (rational_Compare_c y29 (U3 - L3v) y30 ((P2 (-bits)) * U3) y_m19_Scale y_m19_Scale) [1, 0] k_ k_ k_ k_ k_ rfl (fun y31 _ => ?_)
          refine RD.bat k_ [(7, none)] [8, 11, 12, 13, 14, 60] [] (L' := [7, 6, 5, 2, 4, 3, 1, 0]) (l' := [(8, pt b7), (11, .func (.func 56) #[] #[pt b4, pt b5, pt b6]), (12, pt b15), (13, pt b21), (14, pt b27), (60, .bool (decide ((cmpQ (U3 - L3v) ((P2 (-bits)) * U3)) > 0)))]) k_ ?_
          refine RD.done k_ ?_
          refine KN.next ?_
          refine J.cond (decide ((cmpQ (U3 - L3v) ((P2 (-bits)) * U3)) > 0)) k_ (fun c32 => ?_) (fun c32 => ?_)
          · skip
            replace c32 := of_decide_eq_true c32
            have hkb := L3.less hK hin.t0 (cmpQ_gt.1 c32)
            refine J.skip ?_
            refine KN.next ?_
            refine J.block ?_
            refine J.sreg ?_
            refine RN.bq [some 1, some 2] [8, 11, 12, 13, 14, 61, 62] [b15, b15, b15, b21, b21, b21] (k' := 2) (l' := [(8, pt b7), (11, .func (.func 56) #[] #[pt b4, pt b5, pt b6]), (12, pt b15), (13, pt b21), (14, pt b27), (61, ratV lo3 (encQ L3v)), (62, ratV ho3 (encQ U3))]) k_ ?_
            refine RN.call (rational_Add_c lo3 L3v ho3 U3 y_m19_Scale y_m19_Scale) [3, 2] k_ k_ k_ rfl (fun y33 _ => ?_)
            refine RN.call (m19_halve_c y33 (L3v + U3) y_m19_Scale) [0] k_ k_ k_ rfl (fun y34 _ => ?_)
            refine RN.new (fun b => pt b) (.cells (ratC (⟨saNil, saNil⟩ : RA) (⟨false, ([] : List Nat), ([] : List Nat)⟩ : Raw)) 27 (0, 0)) k_ k_ (fun w => by kernel_rfl) (fun b35 => ?_)
            refine RN.bat [some 0] [8, 11, 12, 13, 14, 15] [b35, b35, b35] (k' := 6) (l' := [(8, pt b7), (11, .func (.func 56) #[] #[pt b4, pt b5, pt b6]), (12, pt b15), (13, pt b21), (14, pt b27), (15, pt b35)]) (M' := [(b35, .cells (ratC y34 (encQ ((L3v + U3) / 2))) 27 (0, 0)), (b27, .cells (ratC y26 (encQ (P2 (-bits)))) 27 (0, 0)), (b21, .cells (ratC lo3 (encQ L3v)) 27 (0, 0)), (b15, .cells (ratC ho3 (encQ U3)) 27 (0, 0)), (b7, .cells (ivC (⟨saNil, saNil⟩ : RA) (⟨false, ([] : List Nat), ([] : List Nat)⟩ : Raw) (⟨saNil, saNil⟩ : RA) (⟨false, ([] : List Nat), ([] : List Nat)⟩ : Raw)) 38 (0, 0)), (b6, .cells (ratC u b) 27 (0, 0)), (b5, .cells (ratC p c) 27 (0, 0)), (b4, .cells #[sl s ps.length] 22 (0, 0))]) k_ ?_
            refine RN.fin k_ ?_
            refine J.sreg ?_
            refine RN.bq [none, some 0] [8, 11, 12, 13, 14, 15, 65, 66] [b35, b35, b35] (k' := 2) (l' := [(8, pt b7), (11, .func (.func 56) #[] #[pt b4, pt b5, pt b6]), (12, pt b15), (13, pt b21), (14, pt b27), (15, pt b35), (65, .func (.func 56) #[] #[pt b4, pt b5, pt b6]), (66, ratV y34 (encQ ((L3v + U3) / 2)))]) k_ ?_
            refine RN.callM (m19_above y34 ((L3v + U3) / 2) b4 b5 b6 s ps p c u b y_m19_Scale y_m19_Scale y_m19_Scale y_m19_Scale y_m19_Scale y_m19_Scale y_m19_Scale) [(b35, .cells (ratC y34 (encQ ((L3v + U3) / 2))) 27 (0, 0)), (b27, .cells (ratC y26 (encQ (P2 (-bits)))) 27 (0, 0)), (b21, .cells (ratC lo3 (encQ L3v)) 27 (0, 0)), (b15, .cells (ratC ho3 (encQ U3)) 27 (0, 0)), (b7, .cells (ivC (⟨saNil, saNil⟩ : RA) (⟨false, ([] : List Nat), ([] : List Nat)⟩ : Raw) (⟨saNil, saNil⟩ : RA) (⟨false, ([] : List Nat), ([] : List Nat)⟩ : Raw)) 38 (0, 0))] ([]) [0, 13, 14, 15] k_ k_ k_ rfl rfl (fun y36 _ => ?_)
            refine RN.fin k_ ?_
            refine J.cond (decide ((qv b) < meanN (vals ps) ps.length (qv c) ((L3v + U3) / 2))) k_ (fun c37 => ?_) (fun c37 => ?_)
            · skip
              replace c37 := of_decide_eq_true c37
              have hup := L3.up hK hkb c37
              refine J.regN ?_
              refine RN.bat [some 0, some 2] [8, 11, 12, 13, 14] [b21, b21, b21, b35, b35, b35] (k' := 2) (l' := [(8, pt b7), (11, .func (.func 56) #[] #[pt b4, pt b5, pt b6]), (12, pt b15), (13, pt b21), (14, pt b27)]) (M' := [(b35, .cells (ratC y34 (encQ ((L3v + U3) / 2))) 27 (0, 0)), (b27, .cells (ratC y26 (encQ (P2 (-bits)))) 27 (0, 0)), (b21, .cells (ratC y34 (encQ ((L3v + U3) / 2))) 27 (0, 0)), (b15, .cells (ratC ho3 (encQ U3)) 27 (0, 0)), (b7, .cells (ivC (⟨saNil, saNil⟩ : RA) (⟨false, ([] : List Nat), ([] : List Nat)⟩ : Raw) (⟨saNil, saNil⟩ : RA) (⟨false, ([] : List Nat), ([] : List Nat)⟩ : Raw)) 38 (0, 0)), (b6, .cells (ratC u b) 27 (0, 0)), (b5, .cells (ratC p c) 27 (0, 0)), (b4, .cells #[sl s ps.length] 22 (0, 0))]) k_ ?_
              refine RN.done k_ ?_
              refine KN.blk ?_
              refine KN.dropF 1 ?_
              refine KN.roundE (2 * a + 1, k + 1, ho3, U3, y34, (L3v + U3) / 2) [8, 11, 12, 13, 14] [4, 0, 6, 7, 8, 9, 10, 11, 12, 13, 14, 15] (l2 := [(8, pt b7), (11, .func (.func 56) #[] #[pt b4, pt b5, pt b6]), (12, pt b15), (13, pt b21), (14, pt b27)]) (by (try dsimp only); omega) (by (try dsimp only); exact hup) k_ (by rfl) (by rfl) (by rfl)
            · skip
              replace c37 := of_decide_eq_false c37
              have hdn := L3.down hK hkb c37
              refine J.regN ?_
              refine RN.bat [some 0, some 3] [8, 11, 12, 13, 14] [b15, b15, b15, b35, b35, b35] (k' := 2) (l' := [(8, pt b7), (11, .func (.func 56) #[] #[pt b4, pt b5, pt b6]), (12, pt b15), (13, pt b21), (14, pt b27)]) (M' := [(b35, .cells (ratC y34 (encQ ((L3v + U3) / 2))) 27 (0, 0)), (b27, .cells (ratC y26 (encQ (P2 (-bits)))) 27 (0, 0)), (b21, .cells (ratC lo3 (encQ L3v)) 27 (0, 0)), (b15, .cells (ratC y34 (encQ ((L3v + U3) / 2))) 27 (0, 0)), (b7, .cells (ivC (⟨saNil, saNil⟩ : RA) (⟨false, ([] : List Nat), ([] : List Nat)⟩ : Raw) (⟨saNil, saNil⟩ : RA) (⟨false, ([] : List Nat), ([] : List Nat)⟩ : Raw)) 38 (0, 0)), (b6, .cells (ratC u b) 27 (0, 0)), (b5, .cells (ratC p c) 27 (0, 0)), (b4, .cells #[sl s ps.length] 22 (0, 0))]) k_ ?_
              refine RN.done k_ ?_
              refine KN.blk ?_
              refine KN.dropF 1 ?_
              refine KN.roundE (2 * a, k + 1, y34, (L3v + U3) / 2, lo3, L3v) [8, 11, 12, 13, 14] [0, 5, 6, 7, 8, 9, 10, 11, 12, 13, 14, 15] (l2 := [(8, pt b7), (11, .func (.func 56) #[] #[pt b4, pt b5, pt b6]), (12, pt b15), (13, pt b21), (14, pt b27)]) (by (try dsimp only); omega) (by (try dsimp only); exact hdn) k_ (by rfl) (by rfl) (by rfl)
          · skip
            replace c32 := of_decide_eq_false c32
            have hdone := L3.done hK hin.t0 hin.t1 (mt cmpQ_gt.2 c32)
            refine J.exit (KX.next (KX.next (KX.hit ?_)))
            refine KN.next ?_
            refine J.sreg ?_
            refine RN.bat [some 1, some 2, none, some 3, none] [8, 9] [b7, b7, b7, b7, b7, b7, b15, b15, b15, b21, b21, b21] (k' := 5) (l' := [(8, pt b7), (9, .int .i64 0)]) (M' := [(b27, .cells (ratC y26 (encQ (P2 (-bits)))) 27 (0, 0)), (b21, .cells (ratC lo3 (encQ L3v)) 27 (0, 0)), (b15, .cells (ratC ho3 (encQ U3)) 27 (0, 0)), (b7, .cells (ivC lo3 (encQ L3v) ho3 (encQ U3)) 38 (0, 0)), (b6, .cells (ratC u b) 27 (0, 0)), (b5, .cells (ratC p c) 27 (0, 0)), (b4, .cells #[sl s ps.length] 22 (0, 0))]) k_ ?_
            refine RN.fin k_ ?_
            have e_1 : (checkE ps.length (qv c) (qv b) bits : Int) = (0 : Int) := by exact he
            refine J.ret (KR.ret (v := .tuple #[.agg (ivC lo3 (encQ L3v) ho3 (encQ U3)), .int .i64 0]) (⟨lo3, ⟨ho3, ⟨(L3v : Rat), (U3 : Rat)⟩⟩⟩) [some 3, none] [3, 2] [b7, b7, b7, b7, b7, b7] k_ v1_ (ScaleR_ok he hnle hdone) v1_)
theorem m19_Scale_c (s : SA) (ps : List PR) (p : RA) (c' : Rat) (u : RA) (b' : Rat) (bits : Int) (hps : ∀ i, i < ps.length → RQ 64 (ps.getD i pr0).2) (hcR : Q 268435456 c') (hbR : Q 268435456 b') (hc : Q 64 c') (hb : Q 64 b') : Spec Tryz.prog 18 #[sl s ps.length, ratV p (encQ c'), ratV u (encQ b'), .int .i64 bits] [fRats s ps, fRat p (encQ c'), fRat u (encQ b')] (ι := RA × RA × Rat × Rat) (fun y => .tuple #[.agg (ivC y.1 (encQ y.2.2.1) y.2.1 (encQ y.2.2.2)), .int .i64 (checkE ps.length c' b' bits)]) (fun y => ScaleR (vals ps) ps.length c' b' bits y.2.2.1 y.2.2.2) (fun y => [fRat y.1 (encQ y.2.2.1), fRat y.2.1 (encQ y.2.2.2)]) := by
  have H := m19_Scale s ps p (encQ c') u (encQ b') bits (by first | exact hps | simpa only [qv_encQ, qv_encQ] using hps) (RQ_enc hcR) (RQ_enc hbR) (by first | exact hc | simpa only [qv_encQ, qv_encQ] using hc) (by first | exact hb | simpa only [qv_encQ, qv_encQ] using hb)
  first | exact H | (simp only [qv_encQ, validQ_encQ] at H; exact H)
end Go.Proofs.YtegnonhgildhoaaGreat.E
