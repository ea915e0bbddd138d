/- Lemmas and contracts of functions on the way to the law, part 5. -/
import Derived.Test.YtegnonhgildhoaaGreatA4
namespace Go.Proofs.YtegnonhgildhoaaGreat.E
open Go Go.RowKit
set_option linter.unusedVariables false
set_option linter.unusedSimpArgs false
def checkE (n : Nat) (c b : Rat) (bits : Int) : Int := if sizeE n ≠ 0 then sizeE n else if 0 < c ∧ 0 < b ∧ b < 1 ∧ 0 ≤ bits ∧ bits ≤ 128 then 0 else 1
theorem checkE_size {n : Nat} {c b : Rat} {bits : Int} (h : sizeE n ≠ 0) : checkE n c b bits = sizeE n := if_pos h
theorem cmpQ_ge {x y : Rat} : cmpQ x y ≥ 0 ↔ ¬ x < y := by rw [← cmpQ_lt]; omega
theorem cmpQ_le {x y : Rat} : cmpQ x y ≤ 0 ↔ ¬ y < x := by rw [← cmpQ_gt]; omega
theorem y_m19_Check {p : Prop} (h : p := by first | assumption | exact Lb_toL _ | omega | (simp; done) | first | exact RQ_enc Q1 | exact Q.le Q1 (by decide)) : p := h
theorem m19_Check (s : SA) (ps : List PR) (p : RA) (c : Raw) (u : RA) (b : Raw) (bits : Int) (hc : RQ 268435456 c) (hb : RQ 268435456 b) : Spec Tryz.prog 54 #[sl s ps.length, ratV p c, ratV u b, .int .i64 bits] [fRats s ps, fRat p c, fRat u b] (ι := Unit) (fun y => .int .i64 (checkE ps.length (qv c) (qv b) bits)) (fun y => True) (fun y => []) := by
  refine Spec.of_body _ (fn := Tryz.f54) k_ rfl k_ (fun X w0 => ?_)
  refine J.fact (φ := ps.length ≤ 140737488355328) (fun w h => by have := (h _ (.head _)).1; omega) (fun hl1 => ?_)
  refine J.fact (φ := c.mag.length ≤ 140737488355328 ∧ c.den.length ≤ 140737488355328) (fun w h => by have h1 := (h _ (.tail _ ((.head _)))).1.1; have h2 := (h _ (.tail _ ((.head _)))).2.1; omega) (fun hl2 => ?_)
  refine J.fact (φ := b.mag.length ≤ 140737488355328 ∧ b.den.length ≤ 140737488355328) (fun w h => by have h1 := (h _ (.tail _ ((.tail _ ((.head _)))))).1.1; have h2 := (h _ (.tail _ ((.tail _ ((.head _)))))).2.1; omega) (fun hl3 => ?_)
  refine J.sreg ?_
  refine RN.new (fun b => pt b) (.cells (ratC p c) 27 (0, 0)) k_ k_ (fun w => by kernel_rfl) (fun b4 => ?_)
  refine RN.new (fun b => pt b) (.cells (ratC u b) 27 (0, 0)) k_ k_ (fun w => by kernel_rfl) (fun b5 => ?_)
  refine RN.bq (no 1) [0, 3, 5, 6] [] (k' := 3) (l' := [(0, sl s ps.length), (3, .int .i64 bits), (5, pt b4), (6, pt b5)]) k_ ?_
  refine RN.fin k_ ?_
  refine J.seq ?_
  refine J.sreg ?_
  refine RN.bq (no 1) [3, 5, 6, 10] [] (k' := 1) (l' := [(3, .int .i64 bits), (5, pt b4), (6, pt b5), (10, sl s ps.length)]) k_ ?_
  refine RN.call (m19_size s ps) [0] k_ k_ k_ rfl (fun y6 _ => ?_)
  refine RN.bq (no 1) [3, 5, 6, 9] [] (k' := 3) (l' := [(3, .int .i64 bits), (5, pt b4), (6, pt b5), (9, .int .i64 (sizeE ps.length))]) k_ ?_
  refine RN.fin k_ ?_
  refine J.sreg ?_
  refine RN.bq (no 2) [3, 5, 6, 9, 13] [] (k' := 2) (l' := [(3, .int .i64 bits), (5, pt b4), (6, pt b5), (9, .int .i64 (sizeE ps.length)), (13, .bool (((sizeE ps.length) : Int) != 0))]) k_ ?_
  refine RN.fin k_ ?_
  refine J.cond (((sizeE ps.length) : Int) != 0) k_ (fun c7 => ?_) (fun c7 => ?_)
  · skip
    replace c7 := bne_iff_ne.1 c7
    have h0 : sizeE ps.length ≠ 0 := by simpa using c7
    refine J.sreg ?_
    refine RN.bq (no 2) [8] [] (k' := 2) (l' := [(8, .int .i64 (sizeE ps.length))]) k_ ?_
    refine RN.fin k_ ?_
    have e_1 : (checkE ps.length (qv c) (qv b) bits : Int) = (sizeE ps.length : Int) := by first | exact checkE_size h0 | (unfold checkE; rw [if_neg (by omega)]; simp_all [cmpQ_ge, Rat.not_lt, Rat.not_le]; done) | (unfold checkE; rw [if_neg (by omega)]; simp_all [cmpQ_ge, Rat.not_lt, Rat.not_le]; grind)
    refine J.ret (KR.next (KR.ret (v := .int .i64 (sizeE ps.length)) (()) [none] [] [] k_ v1_ (trivial) v1_))
  · skip
    replace c7 := bne_eq_false_iff_eq.1 c7
    have h0 : sizeE ps.length = 0 := by simpa using c7
    refine J.skip ?_
    refine KN.next ?_
    refine J.seq ?_
    refine J.seq ?_
    refine J.regD k_ [] ?_
    refine RD.bat k_ [(0, some 1)] [3, 6, 15] [b4, b4, b4] (L' := [0]) (l' := [(3, .int .i64 bits), (6, pt b5), (15, ratV p c)]) k_ ?_
    refine RD.call (i := 1) (m19_positive p c y_m19_Check) [1] k_ k_ k_ k_ k_ rfl (fun y8 _ => ?_)
    refine RD.bat k_ [(2, none), (3, none)] [3, 6, 18] [] (L' := [3, 2, 1, 0]) (l' := [(3, .int .i64 bits), (6, pt b5), (18, .bool (!(decide (0 < (qv c)))))]) k_ ?_
    refine RD.split (t := 18) (!(decide (0 < (qv c)))) k_ (fun c9 => ?_) (fun c9 => ?_)
    · skip
      replace c9 := of_decide_eq_false ((Bool.not_eq_true' _).mp c9)
      refine RD.bat k_ [(4, none), (5, none), (6, none), (7, none), (8, none), (9, none), (10, none), (11, none), (12, none), (13, none), (14, none), (15, none), (16, none), (17, none), (18, none), (19, none), (20, none), (21, none)] [36] [] (L' := [21, 20, 19, 18, 17, 16, 15, 14, 13, 12, 11, 10, 9, 8, 7, 6, 5, 4, 3, 2, 1, 0]) (l' := [(36, .bool true)]) k_ ?_
      refine RD.done k_ ?_
      refine KN.next ?_
      refine J.condT k_ ?_
      refine J.sreg ?_
      refine RN.bq (no 1) [8] [] (k' := 1) (l' := [(8, .int .i64 1)]) k_ ?_
      refine RN.fin k_ ?_
      have e_1 : (checkE ps.length (qv c) (qv b) bits : Int) = (1 : Int) := by first | exact checkE_size h0 | (unfold checkE; rw [if_neg (by omega)]; simp_all [cmpQ_ge, Rat.not_lt, Rat.not_le]; done) | (unfold checkE; rw [if_neg (by omega)]; simp_all [cmpQ_ge, Rat.not_lt, Rat.not_le]; grind)
      refine J.ret (KR.next (KR.ret (v := .int .i64 1) (()) [none] [] [] k_ v1_ (trivial) v1_))
    · skip
      replace c9 := of_decide_eq_true ((Bool.not_eq_false' _).mp c9)
      refine RD.bat k_ [(4, some 0)] [3, 6, 18, 19] [b5, b5, b5] (L' := [4, 3, 2, 1, 0]) (l' := [(3, .int .i64 bits), (6, pt b5), (18, .bool false), (19, ratV u b)]) k_ ?_
      refine RD.call (i := 5) (m19_positive u b y_m19_Check) [2] k_ k_ k_ k_ k_ rfl (fun y10 _ => ?_)
      refine RD.bat k_ [(6, none), (7, none), (8, none)] [3, 6, 23] [] (L' := [8, 7, 6, 5, 4, 3, 2, 1, 0]) (l' := [(3, .int .i64 bits), (6, pt b5), (23, .bool (!(decide (0 < (qv b)))))]) k_ ?_
      refine RD.split (t := 23) (!(decide (0 < (qv b)))) k_ (fun c11 => ?_) (fun c11 => ?_)
      · skip
        replace c11 := of_decide_eq_false ((Bool.not_eq_true' _).mp c11)
        refine RD.bat k_ [(9, none), (10, none), (11, none), (12, none), (13, none), (14, none), (15, none), (16, none), (17, none), (18, none), (19, none), (20, none), (21, none)] [36] [] (L' := [21, 20, 19, 18, 17, 16, 15, 14, 13, 12, 11, 10, 9, 8, 7, 6, 5, 4, 3, 2, 1, 0]) (l' := [(36, .bool true)]) k_ ?_
        refine RD.done k_ ?_
        refine KN.next ?_
        refine J.condT k_ ?_
        refine J.sreg ?_
        refine RN.bq (no 1) [8] [] (k' := 1) (l' := [(8, .int .i64 1)]) k_ ?_
        refine RN.fin k_ ?_
        have e_1 : (checkE ps.length (qv c) (qv b) bits : Int) = (1 : Int) := by first | exact checkE_size h0 | (unfold checkE; rw [if_neg (by omega)]; simp_all [cmpQ_ge, Rat.not_lt, Rat.not_le]; done) | (unfold checkE; rw [if_neg (by omega)]; simp_all [cmpQ_ge, Rat.not_lt, Rat.not_le]; grind)
        refine J.ret (KR.next (KR.ret (v := .int .i64 1) (()) [none] [] [] k_ v1_ (trivial) v1_))
      · skip
        replace c11 := of_decide_eq_true ((Bool.not_eq_false' _).mp c11)
        refine RD.bat k_ [(9, some 0)] [3, 23, 24] [b5, b5, b5] (L' := [9, 8, 7, 6, 5, 4, 3, 2, 1, 0]) (l' := [(3, .int .i64 bits), (23, .bool false), (24, ratV u b)]) k_ ?_
        refine RD.call (i := 10) (m19_one) [] k_ k_ k_ k_ k_ rfl (fun y12 _ => ?_)
        refine RD.call (i := 11) (rational_Compare_c2 u b y12 (1 : Rat) y_m19_Check y_m19_Check) [3, 0] k_ k_ k_ k_ k_ rfl (fun y13 _ => ?_)
        refine RD.bat k_ [(12, none), (13, none), (14, none)] [3, 29] [] (L' := [14, 13, 12, 11, 10, 9, 8, 7, 6, 5, 4, 3, 2, 1, 0]) (l' := [(3, .int .i64 bits), (29, .bool (decide ((cmpQ (qv b) (1 : Rat)) ≥ 0)))]) k_ ?_
        refine RD.split (t := 29) (decide ((cmpQ (qv b) (1 : Rat)) ≥ 0)) k_ (fun c14 => ?_) (fun c14 => ?_)
        · skip
          replace c14 := of_decide_eq_true c14
          refine RD.bat k_ [(15, none), (16, none), (17, none), (18, none), (19, none), (20, none), (21, none)] [36] [] (L' := [21, 20, 19, 18, 17, 16, 15, 14, 13, 12, 11, 10, 9, 8, 7, 6, 5, 4, 3, 2, 1, 0]) (l' := [(36, .bool true)]) k_ ?_
          refine RD.done k_ ?_
          refine KN.next ?_
          refine J.condT k_ ?_
          refine J.sreg ?_
          refine RN.bq (no 1) [8] [] (k' := 1) (l' := [(8, .int .i64 1)]) k_ ?_
          refine RN.fin k_ ?_
          have e_1 : (checkE ps.length (qv c) (qv b) bits : Int) = (1 : Int) := by first | exact checkE_size h0 | (unfold checkE; rw [if_neg (by omega)]; simp_all [cmpQ_ge, Rat.not_lt, Rat.not_le]; done) | (unfold checkE; rw [if_neg (by omega)]; simp_all [cmpQ_ge, Rat.not_lt, Rat.not_le]; grind)
          refine J.ret (KR.next (KR.ret (v := .int .i64 1) (()) [none] [] [] k_ v1_ (trivial) v1_))
        · skip
          replace c14 := of_decide_eq_false c14
          refine RD.bat k_ [(15, none), (16, none), (17, none), (18, none)] [3, 33] [] (L' := [18, 17, 16, 15, 14, 13, 12, 11, 10, 9, 8, 7, 6, 5, 4, 3, 2, 1, 0]) (l' := [(3, .int .i64 bits), (33, .bool (decide (bits < 0)))]) k_ ?_
          refine RD.split (t := 33) (decide (bits < 0)) k_ (fun c15 => ?_) (fun c15 => ?_)
          · skip
            replace c15 := of_decide_eq_true c15
            refine RD.bat k_ [(19, none), (20, none), (21, none)] [36] [] (L' := [21, 20, 19, 18, 17, 16, 15, 14, 13, 12, 11, 10, 9, 8, 7, 6, 5, 4, 3, 2, 1, 0]) (l' := [(36, .bool true)]) k_ ?_
            refine RD.done k_ ?_
            refine KN.next ?_
            refine J.condT k_ ?_
            refine J.sreg ?_
            refine RN.bq (no 1) [8] [] (k' := 1) (l' := [(8, .int .i64 1)]) k_ ?_
            refine RN.fin k_ ?_
            have e_1 : (checkE ps.length (qv c) (qv b) bits : Int) = (1 : Int) := by first | exact checkE_size h0 | (unfold checkE; rw [if_neg (by omega)]; simp_all [cmpQ_ge, Rat.not_lt, Rat.not_le]; done) | (unfold checkE; rw [if_neg (by omega)]; simp_all [cmpQ_ge, Rat.not_lt, Rat.not_le]; grind)
            refine J.ret (KR.next (KR.ret (v := .int .i64 1) (()) [none] [] [] k_ v1_ (trivial) v1_))
          · skip
            replace c15 := of_decide_eq_false c15
            refine RD.bat k_ [(19, none), (20, none), (21, none)] [36] [] (L' := [21, 20, 19, 18, 17, 16, 15, 14, 13, 12, 11, 10, 9, 8, 7, 6, 5, 4, 3, 2, 1, 0]) (l' := [(36, .bool (decide (bits > 128)))]) k_ ?_
            refine RD.done k_ ?_
            refine KN.next ?_
            refine J.cond (decide (bits > 128)) k_ (fun c16 => ?_) (fun c16 => ?_)
            · skip
              replace c16 := of_decide_eq_true c16
              refine J.sreg ?_
              refine RN.bq (no 1) [8] [] (k' := 1) (l' := [(8, .int .i64 1)]) k_ ?_
              refine RN.fin k_ ?_
              have e_1 : (checkE ps.length (qv c) (qv b) bits : Int) = (1 : Int) := by first | exact checkE_size h0 | (unfold checkE; rw [if_neg (by omega)]; simp_all [cmpQ_ge, Rat.not_lt, Rat.not_le]; done) | (unfold checkE; rw [if_neg (by omega)]; simp_all [cmpQ_ge, Rat.not_lt, Rat.not_le]; grind)
              refine J.ret (KR.next (KR.ret (v := .int .i64 1) (()) [none] [] [] k_ v1_ (trivial) v1_))
            · skip
              replace c16 := of_decide_eq_false c16
              refine J.skip ?_
              refine KN.next ?_
              refine J.sreg ?_
              refine RN.bq (no 1) [8] [] (k' := 1) (l' := [(8, .int .i64 0)]) k_ ?_
              refine RN.fin k_ ?_
              have e_1 : (checkE ps.length (qv c) (qv b) bits : Int) = (0 : Int) := by first | exact checkE_size h0 | (unfold checkE; rw [if_neg (by omega)]; simp_all [cmpQ_ge, Rat.not_lt, Rat.not_le]; done) | (unfold checkE; rw [if_neg (by omega)]; simp_all [cmpQ_ge, Rat.not_lt, Rat.not_le]; grind)
              refine J.ret (KR.ret (v := .int .i64 0) (()) [none] [] [] k_ v1_ (trivial) v1_)
theorem cnt_b (p : Nat → Bool) (n : Nat) (h : n ≤ 1024) : -9223372036854775808 ≤ ((cntN p n : Nat) : Int) ∧ ((cntN p n : Nat) : Int) < 9223372036854775808 := by have := cntN_le p n; omega
def nzP (ps : List PR) (i : Nat) : Bool := decide (vals ps i ≠ 0)
theorem share_eq (ps : List PR) (n : Nat) : shareN (vals ps) n = ((cntN (nzP ps) n : Int) : Rat) / ((n : Int) : Rat) := rfl
theorem cnt_y {ps : List PR} {i : Nat} (h : Int.sign (qv (ps.getD i pr0).2).num ≠ 0) : cntN (nzP ps) i + 1 = cntN (nzP ps) (i + 1) := by
  rw [cntN, if_pos]
  rw [nzP, decide_eq_true_eq]
  intro h0
  exact h (by unfold vals at h0; rw [h0]; rfl)
theorem cnt_n {ps : List PR} {i : Nat} (h : Int.sign (qv (ps.getD i pr0).2).num = 0) : cntN (nzP ps) i = cntN (nzP ps) (i + 1) := by
  have hn : ¬ nzP ps i = true := by
    rw [nzP, decide_eq_true_eq]
    intro h0
    exact h0 (Rat.num_eq_zero.1 (Int.sign_eq_zero_iff_zero.1 h))
  rw [cntN, if_neg hn]; rfl
theorem y_m19_share {p : Prop} (h : p := by first | assumption | exact Lb_toL _ | omega | (simp; done) | first | exact Q.le hQ1 (by decide) | exact Q.le hQ2 (by decide) | (simp; omega)) : p := h
theorem m19_share (s : SA) (ps : List PR) (hps : ∀ i, i < ps.length → RQ 64 (ps.getD i pr0).2) (hn : ps.length ≤ 1024) : Spec Tryz.prog 55 #[sl s ps.length] [fRats s ps] (ι := RA) (fun y => ratV y (encQ (shareN (vals ps) ps.length))) (fun y => True) (fun y => [fRat y (encQ (shareN (vals ps) ps.length))]) := by
  refine Spec.of_body _ (fn := Tryz.f55) k_ rfl k_ (fun X w0 => ?_)
  refine J.fact (φ := ps.length ≤ 140737488355328) (fun w h => by have := (h _ (.head _)).1; omega) (fun hl1 => ?_)
  refine J.sreg ?_
  refine RN.new (fun b => pt b) (.cells (ratC (⟨saNil, saNil⟩ : RA) (⟨false, ([] : List Nat), ([] : List Nat)⟩ : Raw)) 27 (0, 0)) k_ k_ (fun w => by kernel_rfl) (fun b2 => ?_)
  refine RN.fin k_ ?_
  refine J.sreg ?_
  refine RN.bq (no 1) [0, 2, 3] [] (k' := 1) (l' := [(0, sl s ps.length), (2, pt b2), (3, .int .i64 0)]) k_ ?_
  refine RN.fin k_ ?_
  refine J.seq ?_
  refine J.sreg ?_
  refine RN.bq (no 3) [0, 2, 3, 6, 7, 8] [] (k' := 3) (l' := [(0, sl s ps.length), (2, pt b2), (3, .int .i64 0), (6, sl s ps.length), (7, .int .i64 ((ps.length : Nat) : Int)), (8, .int .i64 0)]) k_ ?_
  refine RN.fin k_ ?_
  refine J.block ?_
  refine J.loop (ι := (Nat) × (Nat)) (fun x => x.1 ≤ ps.length ∧ x.2 = cntN (nzP ps) x.1) (fun x => ps.length - x.1) (fun x => [(0, sl s ps.length), (2, pt b2), (3, .int .i64 ((x.2 : Nat) : Int)), (6, sl s ps.length), (7, .int .i64 ((ps.length : Nat) : Int)), (8, .int .i64 ((x.1 : Nat) : Int))]) (fun x => [(b2, .cells (ratC (⟨saNil, saNil⟩ : RA) (⟨false, ([] : List Nat), ([] : List Nat)⟩ : Raw)) 27 (0, 0))]) (fun x => [fRats s ps]) (0, 0) [0, 2, 3, 6, 7, 8] [0] (⟨Nat.zero_le _, rfl⟩) k_ (by first | rfl | (simp only [encQ_zero]; done) | (simp only [encQ_zero]; rfl)) (by rfl) (fun x3 hI => ?_)
  obtain ⟨i, k⟩ := x3
  replace hI : i ≤ ps.length ∧ k = cntN (nzP ps) i := hI
  obtain ⟨hI1, hI2⟩ := hI
  have hkb := cnt_b (nzP ps) i (by omega)
  have hkle := cntN_le (nzP ps) i
  refine J.sreg ?_
  refine RN.bq (no 1) [0, 2, 3, 6, 7, 8, 9] [] (k' := 1) (l' := [(0, sl s ps.length), (2, pt b2), (3, .int .i64 ((k : Nat) : Int)), (6, sl s ps.length), (7, .int .i64 ((ps.length : Nat) : Int)), (8, .int .i64 ((i : Nat) : Int)), (9, .bool (decide (((i : Nat) : Int) < ((ps.length : Nat) : Int))))]) k_ ?_
  refine RN.fin k_ ?_
  refine J.seq ?_
  refine J.cond (decide (((i : Nat) : Int) < ((ps.length : Nat) : Int))) k_ (fun c4 => ?_) (fun c4 => ?_)
  · skip
    replace c4 := of_decide_eq_true c4
    have hxr := hps i (by omega)
    have hxb := hxr.le (by decide : 64 ≤ 268435456)
    refine J.skip ?_
    refine KN.next ?_
    refine J.seq ?_
    refine J.block ?_
    refine J.sreg ?_
    refine RN.val _ k_ k_ (q_ridx (t := 22) (x := (.tmp 6)) (ix := (.tmp 8)) (K := .i64) (i0 := ((i : Nat) : Int)) (m := i) (e := 27) 0 rfl k_ k_ k_ k_ k_ (by omega) x_) ?_
    refine RN.val _ k_ k_ (q_rload (T := 27) (x := (.tmp 10)) (m := i) (s := s) (ps := ps) 0 rfl k_ k_ k_ k_ x_) ?_
    refine RN.also (fRat ((ps.getD i pr0).1) ((ps.getD i pr0).2)) (fun w h => rat_of (h _ (.head _)) x_) ?_
    refine RN.new (fun b => pt b) (.cells (ratC (⟨saNil, saNil⟩ : RA) (⟨false, ([] : List Nat), ([] : List Nat)⟩ : Raw)) 27 (0, 0)) k_ k_ (fun w => by kernel_rfl) (fun b5 => ?_)
    refine RN.bat [some 0] [0, 2, 3, 5, 6, 7, 8] [b5, b5, b5] (k' := 4) (l' := [(0, sl s ps.length), (2, pt b2), (3, .int .i64 ((k : Nat) : Int)), (5, pt b5), (6, sl s ps.length), (7, .int .i64 ((ps.length : Nat) : Int)), (8, .int .i64 ((i : Nat) : Int))]) (M' := [(b5, .cells (ratC ((ps.getD i pr0).1) ((ps.getD i pr0).2)) 27 (0, 0)), (b2, .cells (ratC (⟨saNil, saNil⟩ : RA) (⟨false, ([] : List Nat), ([] : List Nat)⟩ : Raw)) 27 (0, 0))]) k_ ?_
    refine RN.fin k_ ?_
    refine J.sreg ?_
    refine RN.bq [some 0] [0, 2, 3, 6, 7, 8, 12] [b5, b5, b5] (k' := 1) (l' := [(0, sl s ps.length), (2, pt b2), (3, .int .i64 ((k : Nat) : Int)), (6, sl s ps.length), (7, .int .i64 ((ps.length : Nat) : Int)), (8, .int .i64 ((i : Nat) : Int)), (12, ratV ((ps.getD i pr0).1) ((ps.getD i pr0).2))]) k_ ?_
    refine RN.call (rational_Sign ((ps.getD i pr0).1) ((ps.getD i pr0).2) y_m19_share) [0] k_ k_ k_ rfl (fun y6 _ => ?_)
    refine RN.bq (no 1) [0, 2, 3, 6, 7, 8, 14] [] (k' := 3) (l' := [(0, sl s ps.length), (2, pt b2), (3, .int .i64 ((k : Nat) : Int)), (6, sl s ps.length), (7, .int .i64 ((ps.length : Nat) : Int)), (8, .int .i64 ((i : Nat) : Int)), (14, .bool (((Int.sign ((qv ((ps.getD i pr0).2)).num)) : Int) != 0))]) k_ ?_
    refine RN.fin k_ ?_
    refine J.cond (((Int.sign ((qv ((ps.getD i pr0).2)).num)) : Int) != 0) k_ (fun c7 => ?_) (fun c7 => ?_)
    · skip
      replace c7 := bne_iff_ne.1 c7
      refine J.regN ?_
      refine RN.bq (no 2) [0, 2, 6, 7, 8, 16] [] (k' := 2) (l' := [(0, sl s ps.length), (2, pt b2), (6, sl s ps.length), (7, .int .i64 ((ps.length : Nat) : Int)), (8, .int .i64 ((i : Nat) : Int)), (16, .int .i64 (IntKind.i64.wrap (((k : Nat) : Int) + 1)))]) k_ ?_
      rw [show IntKind.i64.wrap (((k : Nat) : Int) + 1) = ((k + 1 : Nat) : Int) from by rw [IntKind.wrap_i64]; omega]
      refine RN.bq (no 1) [0, 2, 3, 6, 7, 8] [] (k' := 3) (l' := [(0, sl s ps.length), (2, pt b2), (3, .int .i64 ((k + 1 : Nat) : Int)), (6, sl s ps.length), (7, .int .i64 ((ps.length : Nat) : Int)), (8, .int .i64 ((i : Nat) : Int))]) k_ ?_
      refine RN.done k_ ?_
      refine KN.blk ?_
      refine KN.next ?_
      refine J.regN ?_
      refine RN.bq (no 1) [0, 2, 3, 6, 7, 17] [] (k' := 1) (l' := [(0, sl s ps.length), (2, pt b2), (3, .int .i64 ((k + 1 : Nat) : Int)), (6, sl s ps.length), (7, .int .i64 ((ps.length : Nat) : Int)), (17, .int .i64 (IntKind.i64.wrap (((i : Nat) : Int) + 1)))]) k_ ?_
      rw [show IntKind.i64.wrap (((i : Nat) : Int) + 1) = ((i + 1 : Nat) : Int) from by rw [IntKind.wrap_i64]; omega]
      refine RN.bq (no 1) [0, 2, 3, 6, 7, 8] [] (k' := 2) (l' := [(0, sl s ps.length), (2, pt b2), (3, .int .i64 ((k + 1 : Nat) : Int)), (6, sl s ps.length), (7, .int .i64 ((ps.length : Nat) : Int)), (8, .int .i64 ((i + 1 : Nat) : Int))]) k_ ?_
      refine RN.done k_ ?_
      refine KN.dropF 1 ?_
      refine KN.roundE (i + 1, k + 1) [0, 2, 3, 6, 7, 8] [1] (l2 := [(0, sl s ps.length), (2, pt b2), (3, .int .i64 ((k + 1 : Nat) : Int)), (6, sl s ps.length), (7, .int .i64 ((ps.length : Nat) : Int)), (8, .int .i64 ((i + 1 : Nat) : Int))]) (by (try dsimp only); omega) (by (try dsimp only); exact ⟨by omega, by rw [hI2]; exact cnt_y ‹_›⟩) k_ (by rfl) (by rfl) (by rfl)
    · skip
      replace c7 := bne_eq_false_iff_eq.1 c7
      refine J.skip ?_
      refine KN.blk ?_
      refine KN.next ?_
      refine J.regN ?_
      refine RN.bq (no 1) [0, 2, 3, 6, 7, 17] [] (k' := 1) (l' := [(0, sl s ps.length), (2, pt b2), (3, .int .i64 ((k : Nat) : Int)), (6, sl s ps.length), (7, .int .i64 ((ps.length : Nat) : Int)), (17, .int .i64 (IntKind.i64.wrap (((i : Nat) : Int) + 1)))]) k_ ?_
      rw [show IntKind.i64.wrap (((i : Nat) : Int) + 1) = ((i + 1 : Nat) : Int) from by rw [IntKind.wrap_i64]; omega]
      refine RN.bq (no 1) [0, 2, 3, 6, 7, 8] [] (k' := 2) (l' := [(0, sl s ps.length), (2, pt b2), (3, .int .i64 ((k : Nat) : Int)), (6, sl s ps.length), (7, .int .i64 ((ps.length : Nat) : Int)), (8, .int .i64 ((i + 1 : Nat) : Int))]) k_ ?_
      refine RN.done k_ ?_
      refine KN.dropF 1 ?_
      refine KN.roundE (i + 1, k) [0, 2, 3, 6, 7, 8] [1] (l2 := [(0, sl s ps.length), (2, pt b2), (3, .int .i64 ((k : Nat) : Int)), (6, sl s ps.length), (7, .int .i64 ((ps.length : Nat) : Int)), (8, .int .i64 ((i + 1 : Nat) : Int))]) (by (try dsimp only); omega) (by (try dsimp only); exact ⟨by omega, by rw [hI2]; exact cnt_n ‹_›⟩) k_ (by rfl) (by rfl) (by rfl)
  · skip
    replace c4 := of_decide_eq_false c4
    have hi : i = ps.length := by omega
    subst hi
    have hQ1 := Q_int (v := ((k : Nat) : Int)) (by omega)
    have hQ2 := Q_int (v := ((ps.length : Nat) : Int)) (by omega)
    refine J.exit (KX.next (KX.next (KX.hit ?_)))
    refine KN.next ?_
    refine J.sreg ?_
    refine RN.bq (no 1) [0, 2, 18] [] (k' := 1) (l' := [(0, sl s ps.length), (2, pt b2), (18, .int .i64 ((k : Nat) : Int))]) k_ ?_
    refine RN.call (rational_FromInt ((k : Nat) : Int) y_m19_share y_m19_share) [] k_ k_ k_ rfl (fun y8 _ => ?_)
    refine RN.bq (no 2) [2, 19, 21] [] (k' := 4) (l' := [(2, pt b2), (19, ratV y8 (encQ ((((k : Nat) : Int) : Int) : Rat))), (21, .int .i64 ((ps.length : Nat) : Int))]) k_ ?_
    refine RN.call (rational_FromInt ((ps.length : Nat) : Int) y_m19_share y_m19_share) [] k_ k_ k_ rfl (fun y9 _ => ?_)
    refine RN.call (m19_quotient_c y8 ((((k : Nat) : Int) : Int) : Rat) y9 ((((ps.length : Nat) : Int) : Int) : Rat) y_m19_share y_m19_share) [1, 0] k_ k_ k_ rfl (fun y10 _ => ?_)
    refine RN.bat [some 0] [2] [b2, b2, b2] (k' := 7) (l' := [(2, pt b2)]) (M' := [(b2, .cells (ratC y10 (encQ (((((k : Nat) : Int) : Int) : Rat) / ((((ps.length : Nat) : Int) : Int) : Rat)))) 27 (0, 0))]) k_ ?_
    refine RN.fin k_ ?_
    have e_1 : (encQ (shareN (vals ps) ps.length)) = (encQ (((((k : Nat) : Int) : Int) : Rat) / ((((ps.length : Nat) : Int) : Int) : Rat))) := by rw [share_eq, ← hI2]
    refine J.ret (KR.ret (v := ratV y10 (encQ (((((k : Nat) : Int) : Int) : Rat) / ((((ps.length : Nat) : Int) : Int) : Rat)))) (y10) [some 0] [0] [b2, b2, b2] k_ v1_ (trivial) v1_)
def lenL (xs : List Nat) : Nat := if xs.length = 0 then 0 else 32 * xs.length - (32 - bl (xs.getD (xs.length - 1) 0))
theorem lenL_le (xs : List Nat) : lenL xs ≤ 32 * xs.length := by unfold lenL; split <;> omega
theorem y_m19_length {p : Prop} (h : p := by first | assumption | exact Lb_toL _ | omega | (simp; done) | exact hx.getD _) : p := h
theorem m19_length (s : SA) (xs : List Nat) (hx : Lb xs) (hl : xs.length ≤ 1073741824) : Spec Tryz.prog 90 #[sl s xs.length] [fU s xs] (ι := Unit) (fun y => .int .i64 ((lenL xs : Nat) : Int)) (fun y => True) (fun y => []) := by
  refine Spec.of_body _ (fn := Tryz.f90) k_ rfl k_ (fun X w0 => ?_)
  refine J.fact (φ := xs.length ≤ 140737488355328) (fun w h => by have := (h _ (.head _)).1; omega) (fun hl1 => ?_)
  refine J.sreg ?_
  refine RN.bq (no 1) [0] [] (k' := 1) (l' := [(0, sl s xs.length)]) k_ ?_
  refine RN.fin k_ ?_
  refine J.seq ?_
  refine J.sreg ?_
  refine RN.bq (no 3) [0, 5] [] (k' := 3) (l' := [(0, sl s xs.length), (5, .bool ((((xs.length : Nat) : Int) : Int) == 0))]) k_ ?_
  refine RN.fin k_ ?_
  refine J.cond ((((xs.length : Nat) : Int) : Int) == 0) k_ (fun c2 => ?_) (fun c2 => ?_)
  · skip
    replace c2 := eq_of_beq c2
    refine J.sreg ?_
    refine RN.bq (no 1) [2] [] (k' := 1) (l' := [(2, .int .i64 0)]) k_ ?_
    refine RN.fin k_ ?_
    have e_1 : (((lenL xs : Nat) : Int) : Int) = (0 : Int) := by unfold lenL; first | (rw [if_pos (show xs.length = 0 by omega)]; done) | (rw [if_pos (show xs.length = 0 by omega)]; rfl) | (rw [if_neg (show ¬ xs.length = 0 by omega)]; done) | (rw [if_neg (show ¬ xs.length = 0 by omega)]; rfl)
    refine J.ret (KR.next (KR.ret (v := .int .i64 0) (()) [none] [] [] k_ v1_ (trivial) v1_))
  · skip
    replace c2 := ne_of_beq_false c2
    have hbl := bl_le32 (hx.getD (xs.length - 1))
    refine J.skip ?_
    refine KN.next ?_
    refine J.sreg ?_
    refine RN.bq (no 3) [0, 8] [] (k' := 3) (l' := [(0, sl s xs.length), (8, .int .i64 (IntKind.i64.wrap (32 * ((xs.length : Nat) : Int))))]) k_ ?_
    rw [show IntKind.i64.wrap (32 * ((xs.length : Nat) : Int)) = ((32 * xs.length : Nat) : Int) from by rw [IntKind.wrap_i64]; omega]
    refine RN.bq (no 4) [8, 9, 12] [] (k' := 7) (l' := [(8, .int .i64 ((32 * xs.length : Nat) : Int)), (9, sl s xs.length), (12, .int .i64 (IntKind.i64.wrap (((xs.length : Nat) : Int) - 1)))]) k_ ?_
    rw [show IntKind.i64.wrap (((xs.length : Nat) : Int) - 1) = ((xs.length - 1 : Nat) : Int) from by rw [IntKind.wrap_i64]; omega]
    refine RN.val _ k_ k_ (q_uidx (t := 23) (x := (.tmp 9)) (ix := (.tmp 12)) (K := .i64) (i0 := ((xs.length - 1 : Nat) : Int)) (m := xs.length - 1) (e := 82) 0 rfl k_ k_ k_ k_ k_ (by omega) x_) ?_
    refine RN.val _ k_ k_ (q_uload (T := 82) (x := (.tmp 13)) (m := xs.length - 1) (s := s) (xs := xs) 0 rfl k_ k_ k_ x_) ?_
    refine RN.call (bits_LeadingZeros32 (xs.getD (xs.length - 1) 0) y_m19_length) [] k_ k_ k_ rfl (fun y3 _ => ?_)
    refine RN.bq (no 1) [16] [] (k' := 11) (l' := [(16, .int .i64 (IntKind.i64.wrap (((32 * xs.length : Nat) : Int) - ((32 - bl (xs.getD (xs.length - 1) 0) : Nat) : Int))))]) k_ ?_
    rw [show IntKind.i64.wrap (((32 * xs.length : Nat) : Int) - ((32 - bl (xs.getD (xs.length - 1) 0) : Nat) : Int)) = (((32 * xs.length) - (32 - bl (xs.getD (xs.length - 1) 0)) : Nat) : Int) from by rw [IntKind.wrap_i64]; omega]
    refine RN.bq (no 1) [2] [] (k' := 12) (l' := [(2, .int .i64 (((32 * xs.length) - (32 - bl (xs.getD (xs.length - 1) 0)) : Nat) : Int))]) k_ ?_
    refine RN.fin k_ ?_
    have e_1 : (((lenL xs : Nat) : Int) : Int) = ((((32 * xs.length) - (32 - bl (xs.getD (xs.length - 1) 0)) : Nat) : Int) : Int) := by unfold lenL; first | (rw [if_pos (show xs.length = 0 by omega)]; done) | (rw [if_pos (show xs.length = 0 by omega)]; rfl) | (rw [if_neg (show ¬ xs.length = 0 by omega)]; done) | (rw [if_neg (show ¬ xs.length = 0 by omega)]; rfl)
    refine J.ret (KR.ret (v := .int .i64 (((32 * xs.length) - (32 - bl (xs.getD (xs.length - 1) 0)) : Nat) : Int)) (()) [none] [] [] k_ v1_ (trivial) v1_)
theorem m19_length_c (s : SA) (xs' : Nat) (hl : (toL xs').length ≤ 1073741824) : Spec Tryz.prog 90 #[sl s (toL xs').length] [fU s (toL xs')] (ι := Unit) (fun y => .int .i64 ((lenL (toL xs') : Nat) : Int)) (fun y => True) (fun y => []) := by
  have H := m19_length s (toL xs') (Lb_toL _) (by first | exact hl | simpa only [nv_toL] using hl)
  first | exact H | (simp only [nv_toL, lv_toL, validU_toL] at H; exact H)
def powL (n : Nat) : List Nat := (List.replicate (n / 32 + 1) 0).set (n / 32) (2 ^ (n % 32))
theorem shl1 {m : Nat} (h : m < 32) : 2 ^ m < 4294967296 := Nat.lt_of_lt_of_eq (Nat.pow_lt_pow_right (by decide) h) (by decide)
theorem rep_succ_set (k v : Nat) : (List.replicate (k + 1) 0).set k v = List.replicate k 0 ++ [v] := by
  induction k with
  | zero => rfl
  | succ k ih => rw [List.replicate_succ, List.set_cons_succ, ih]; rfl
theorem toL_shift (k v : Nat) (hv : 0 < v) (hb : v < 4294967296) : toL (W ^ k * v) = List.replicate k 0 ++ [v] := by
  induction k with
  | zero =>
    rw [Nat.pow_zero, Nat.one_mul, toL_pos (Nat.pos_iff_ne_zero.1 hv), show v / W = 0 from Nat.div_eq_of_lt hb, toL_zero, show v % W = v from Nat.mod_eq_of_lt hb]; rfl
  | succ k ih =>
    have e : W ^ (k + 1) * v = W * (W ^ k * v) := by rw [Nat.pow_succ, Nat.mul_comm (W ^ k) W, Nat.mul_assoc]
    have hp : 0 < W ^ k * v := Nat.mul_pos (Wpos k) hv
    rw [e, toL_pos (Nat.pos_iff_ne_zero.1 (Nat.mul_pos (by decide) hp)), Nat.mul_mod_right, Nat.mul_div_cancel_left _ (by decide), ih, List.replicate_succ]; rfl
theorem powL_eq (n : Nat) : powL n = toL (2 ^ n) := by
  have e : 2 ^ n = W ^ (n / 32) * 2 ^ (n % 32) := by
    rw [show W = 2 ^ 32 from by rw [W_eq], ← Nat.pow_mul, ← Nat.pow_add, Nat.div_add_mod]
  rw [powL, rep_succ_set, e, toL_shift _ _ (Nat.pow_pos (by decide)) (shl1 (Nat.mod_lt _ (by decide)))]
theorem powL_enc (n : Nat) : (⟨false, powL n, []⟩ : Raw) = encQ (two n) := by
  rw [powL_eq, two, encQ_int]
  congr 1
theorem P2_neg {k : Int} (h : k < 0) : P2 k = 1 / two k.natAbs := by unfold P2; rw [if_pos h, show (-k).toNat = k.natAbs from by omega]
theorem P2_nn {k : Int} (h : ¬ k < 0) : P2 k = two k.natAbs := by unfold P2; rw [if_neg h, show k.toNat = k.natAbs from by omega]
theorem powQ {k : Int} (h1 : -1000000 ≤ k) (h2 : k ≤ 1000000) : Q 31251 (two k.natAbs) := Q_two (by omega)
theorem y_m19_power {p : Prop} (h : p := by first | assumption | exact Lb_toL _ | omega | (simp; done) | first | exact RQ_enc Q1 | exact Q.le Q1 (by decide) | (show RQ 268435456 ⟨false, powL k.natAbs, []⟩; rw [hpe]; exact RQ_enc (hpq.le (by decide)))) : p := h
theorem m19_power (k : Int) (h1 : -1000000 ≤ k) (h2 : k ≤ 1000000) : Spec Tryz.prog 57 #[.int .i64 k] [] (ι := RA) (fun y => ratV y (encQ (P2 k))) (fun y => True) (fun y => [fRat y (encQ (P2 k))]) := by
  refine Spec.of_body _ (fn := Tryz.f57) k_ rfl k_ (fun X w0 => ?_)
  have hn : k.natAbs ≤ 1000000 := by omega
  have hm := Nat.mod_lt k.natAbs (by decide : 0 < 32)
  have hpw := shl1 hm
  have hpq := powQ h1 h2
  have hpe := powL_enc k.natAbs
  refine J.sreg ?_
  refine RN.new (fun b => pt b) (.cells (ratC (⟨saNil, saNil⟩ : RA) (⟨false, ([] : List Nat), ([] : List Nat)⟩ : Raw)) 27 (0, 0)) k_ k_ (fun w => by kernel_rfl) (fun b1 => ?_)
  refine RN.fin k_ ?_
  refine J.sreg ?_
  refine RN.bq (no 3) [0, 2, 6, 8] [] (k' := 3) (l' := [(0, .int .i64 k), (2, pt b1), (6, .int .i64 k), (8, .int .i64 (IntKind.i64.wrap (0 - k)))]) k_ ?_
  rw [show IntKind.i64.wrap (0 - k) = (-k) from by rw [IntKind.wrap_i64]; omega]
  refine RN.bq (no 1) [0, 2, 9] [] (k' := 4) (l' := [(0, .int .i64 k), (2, pt b1), (9, .int .i64 (if (-k) > k then (-k) else k))]) k_ ?_
  rw [show (if (-k) > k then (-k) else k) = ((k.natAbs : Nat) : Int) from by split <;> omega]
  refine RN.bq (no 1) [0, 2, 3] [] (k' := 5) (l' := [(0, .int .i64 k), (2, pt b1), (3, .int .i64 ((k.natAbs : Nat) : Int))]) k_ ?_
  refine RN.fin k_ ?_
  refine J.sreg ?_
  refine RN.bq (no 2) [0, 2, 3, 11] [] (k' := 2) (l' := [(0, .int .i64 k), (2, pt b1), (3, .int .i64 ((k.natAbs : Nat) : Int)), (11, .int .i64 (IntKind.i64.wrap (Int.tdiv ((k.natAbs : Nat) : Int) 32)))]) k_ ?_
  rw [show IntKind.i64.wrap (Int.tdiv ((k.natAbs : Nat) : Int) 32) = (((k.natAbs) / 32 : Nat) : Int) from by rw [show (32 : Int) = ((32 : Nat) : Int) from rfl, tdivn, IntKind.wrap_i64]; omega]
  refine RN.bq (no 1) [0, 2, 3, 12] [] (k' := 3) (l' := [(0, .int .i64 k), (2, pt b1), (3, .int .i64 ((k.natAbs : Nat) : Int)), (12, .int .i64 (IntKind.i64.wrap ((((k.natAbs) / 32 : Nat) : Int) + 1)))]) k_ ?_
  rw [show IntKind.i64.wrap ((((k.natAbs) / 32 : Nat) : Int) + 1) = ((((k.natAbs) / 32) + 1 : Nat) : Int) from by rw [IntKind.wrap_i64]; omega]
  refine RN.make (e := 0) (m := (((k.natAbs) / 32) + 1)) (.cells (encU (List.replicate (((k.natAbs) / 32) + 1) 0)) 82 (0, 0)) k_ k_ (fun w => (q_make1 (t := 23) (m := (((k.natAbs) / 32) + 1)) (by_ := 4) (K := .i64) (K' := .i64) (n1 := ((((k.natAbs) / 32) + 1 : Nat) : Int)) (n2 := ((((k.natAbs) / 32) + 1 : Nat) : Int)) (x := (.tmp 12)) (y := (.tmp 12)) (e := 82) k_ k_ k_ (by omega) (by omega) k_ k_ rfl (by omega) (by omega) w).trans (by rw [encU_rep])) (fun b2 => ?_)
  refine RN.bq (no 1) [0, 2, 3, 4] [] (k' := 5) (l' := [(0, .int .i64 k), (2, pt b1), (3, .int .i64 ((k.natAbs : Nat) : Int)), (4, .slice (some ⟨b2, 0, none⟩) (((k.natAbs) / 32) + 1) (((k.natAbs) / 32) + 1))]) k_ ?_
  refine RN.fin k_ ?_
  refine J.sreg ?_
  refine RN.bq (no 3) [0, 2, 3, 4, 14, 16] [] (k' := 3) (l' := [(0, .int .i64 k), (2, pt b1), (3, .int .i64 ((k.natAbs : Nat) : Int)), (4, .slice (some ⟨b2, 0, none⟩) (((k.natAbs) / 32) + 1) (((k.natAbs) / 32) + 1)), (14, .slice (some ⟨b2, 0, none⟩) (((k.natAbs) / 32) + 1) (((k.natAbs) / 32) + 1)), (16, .int .i64 (IntKind.i64.wrap (Int.tdiv ((k.natAbs : Nat) : Int) 32)))]) k_ ?_
  rw [show IntKind.i64.wrap (Int.tdiv ((k.natAbs : Nat) : Int) 32) = (((k.natAbs) / 32 : Nat) : Int) from by rw [show (32 : Int) = ((32 : Nat) : Int) from rfl, tdivn, IntKind.wrap_i64]; omega]
  refine RN.bq (no 2) [0, 2, 4, 14, 16, 18] [] (k' := 5) (l' := [(0, .int .i64 k), (2, pt b1), (4, .slice (some ⟨b2, 0, none⟩) (((k.natAbs) / 32) + 1) (((k.natAbs) / 32) + 1)), (14, .slice (some ⟨b2, 0, none⟩) (((k.natAbs) / 32) + 1) (((k.natAbs) / 32) + 1)), (16, .int .i64 (((k.natAbs) / 32 : Nat) : Int)), (18, .int .i64 (Int.tmod ((k.natAbs : Nat) : Int) 32))]) k_ ?_
  rw [show Int.tmod ((k.natAbs : Nat) : Int) 32 = (((k.natAbs) % 32 : Nat) : Int) from by rw [show (32 : Int) = ((32 : Nat) : Int) from rfl, tmodn]]
  refine RN.val _ k_ k_ (q_shl (T := 82) (T' := 3) (x := (.const (.int .u32 1))) (y := (.tmp 18)) (k := .u32) (k' := .i64) (a := 1) (b := (((k.natAbs) % 32 : Nat) : Int)) (m := ((k.natAbs) % 32)) k_ k_ k_ (by omega) (by simp only [IntKind.bits]; omega)) ?_
  rw [show (IntKind.u32.wrap (1 * 2 ^ ((k.natAbs) % 32))) = ((2 ^ (k.natAbs % 32) : Nat) : Int) from by exact uw32b _ (by simp) hpw]
  refine RN.val _ k_ k_ (q_oidx (t := 23) (x := (.tmp 14)) (ix := (.tmp 16)) (b := b2) (n := (((k.natAbs) / 32) + 1)) (c := (((k.natAbs) / 32) + 1)) (K := .i64) (i0 := (((k.natAbs) / 32 : Nat) : Int)) (m := (k.natAbs) / 32) (e := 82) (sz := 1) k_ k_ k_ k_ k_ (by omega) (by omega)) ?_
  refine RN.ot k_ k_ (ot_ustore (mi := 0) (T := 82) (x := (.tmp 20)) (y := (.tmp 19)) (b := b2) (m := (k.natAbs) / 32) (xs := List.replicate (((k.natAbs) / 32) + 1) 0) (v := ((2 ^ (k.natAbs % 32) : Nat) : Int)) (v0 := 2 ^ (k.natAbs % 32)) rfl k_ k_ k_ k_ k_ (by omega) (by (simp; try omega))) (fun _ _ => ?_)
  refine RN.fin k_ ?_
  refine J.sreg ?_
  refine RN.bq (no 1) [0, 2, 21] [] (k' := 1) (l' := [(0, .int .i64 k), (2, pt b1), (21, .slice (some ⟨b2, 0, none⟩) (((k.natAbs) / 32) + 1) (((k.natAbs) / 32) + 1))]) k_ ?_
  refine RN.share 0 rfl rfl ?_
  refine RN.also (fU (⟨some ⟨b2, 0, none⟩, ((k.natAbs) / 32) + 1⟩ : SA) ((List.replicate (((k.natAbs) / 32) + 1) 0).set ((k.natAbs) / 32) (2 ^ (k.natAbs % 32)))) (fun w h => fU_own (h _ (.head _)) (by (simp; try omega)) (by (simp; try omega))) ?_
  refine RN.turn 21 (v := .slice (some ⟨b2, 0, none⟩) (((k.natAbs) / 32) + 1) (((k.natAbs) / 32) + 1)) (v' := sl (⟨some ⟨b2, 0, none⟩, ((k.natAbs) / 32) + 1⟩ : SA) ((List.replicate (((k.natAbs) / 32) + 1) 0).set ((k.natAbs) / 32) (2 ^ (k.natAbs % 32))).length) k_ (sl_eq (by (simp; try omega))) ?_
  refine RN.bq (no 2) [0, 2, 23] [] (k' := 3) (l' := [(0, .int .i64 k), (2, pt b1), (23, ratV (⟨(⟨some ⟨b2, 0, none⟩, ((k.natAbs) / 32) + 1⟩ : SA), saNil⟩ : RA) (⟨false, (List.replicate (((k.natAbs) / 32) + 1) 0).set ((k.natAbs) / 32) (2 ^ (k.natAbs % 32)), ([] : List Nat)⟩ : Raw))]) k_ ?_
  refine RN.new (fun b => pt b) (.cells (ratC (⟨saNil, saNil⟩ : RA) (⟨false, ([] : List Nat), ([] : List Nat)⟩ : Raw)) 27 (0, 0)) k_ k_ (fun w => by kernel_rfl) (fun b3 => ?_)
  refine RN.bat [some 0] [0, 2, 5] [b3, b3, b3] (k' := 5) (l' := [(0, .int .i64 k), (2, pt b1), (5, pt b3)]) (M' := [(b3, .cells (ratC (⟨(⟨some ⟨b2, 0, none⟩, ((k.natAbs) / 32) + 1⟩ : SA), saNil⟩ : RA) (⟨false, (List.replicate (((k.natAbs) / 32) + 1) 0).set ((k.natAbs) / 32) (2 ^ (k.natAbs % 32)), ([] : List Nat)⟩ : Raw)) 27 (0, 0)), (b1, .cells (ratC (⟨saNil, saNil⟩ : RA) (⟨false, ([] : List Nat), ([] : List Nat)⟩ : Raw)) 27 (0, 0))]) k_ ?_
  refine RN.fin k_ ?_
  refine J.seq ?_
  refine J.sreg ?_
  refine RN.bq (no 2) [2, 5, 25] [] (k' := 2) (l' := [(2, pt b1), (5, pt b3), (25, .bool (decide (k < 0)))]) k_ ?_
  refine RN.fin k_ ?_
  refine J.cond (decide (k < 0)) k_ (fun c4 => ?_) (fun c4 => ?_)
  · skip
    replace c4 := of_decide_eq_true c4
    refine J.seq ?_
    refine J.regD k_ [3] ?_
    refine RD.bat k_ [(1, some 0)] [2, 27] [b3, b3, b3] (L' := [1]) (l' := [(2, pt b1), (27, ratV (⟨(⟨some ⟨b2, 0, none⟩, ((k.natAbs) / 32) + 1⟩ : SA), saNil⟩ : RA) (⟨false, (List.replicate (((k.natAbs) / 32) + 1) 0).set ((k.natAbs) / 32) (2 ^ (k.natAbs % 32)), ([] : List Nat)⟩ : Raw))]) k_ ?_
    refine RD.call (i := 0) (m19_one) [] k_ k_ k_ k_ k_ rfl (fun y5 _ => ?_)
    refine RD.also (fRat (⟨(⟨some ⟨b2, 0, none⟩, ((k.natAbs) / 32) + 1⟩ : SA), saNil⟩ : RA) (⟨false, (List.replicate (((k.natAbs) / 32) + 1) 0).set ((k.natAbs) / 32) (2 ^ (k.natAbs % 32)), ([] : List Nat)⟩ : Raw)) (fun w h => ⟨(h _ (.tail _ ((.head _)))), fU_nil w⟩) k_ ?_
    refine RD.call (i := 2) (m19_quotient_c1 y5 (1 : Rat) ⟨(⟨some ⟨b2, 0, none⟩, ((k.natAbs) / 32) + 1⟩ : SA), saNil⟩ ⟨false, (List.replicate (((k.natAbs) / 32) + 1) 0).set ((k.natAbs) / 32) (2 ^ (k.natAbs % 32)), ([] : List Nat)⟩ y_m19_power y_m19_power) [1, 0] k_ k_ k_ k_ k_ rfl (fun y6 _ => ?_)
    refine RD.last (i := 3) (some 1) [2] [b1, b1, b1] k_ k_ k_ (l' := [(2, pt b1)]) (M' := [(b3, .cells (ratC (⟨(⟨some ⟨b2, 0, none⟩, ((k.natAbs) / 32) + 1⟩ : SA), saNil⟩ : RA) (⟨false, (List.replicate (((k.natAbs) / 32) + 1) 0).set ((k.natAbs) / 32) (2 ^ (k.natAbs % 32)), ([] : List Nat)⟩ : Raw)) 27 (0, 0)), (b1, .cells (ratC y6 (encQ ((1 : Rat) / (qv (⟨false, (List.replicate (((k.natAbs) / 32) + 1) 0).set ((k.natAbs) / 32) (2 ^ (k.natAbs % 32)), ([] : List Nat)⟩ : Raw))))) 27 (0, 0))]) k_ ?_
    refine RD.done k_ ?_
    refine KN.next ?_
    have e_1 : (encQ (P2 k)) = (encQ ((1 : Rat) / (qv (⟨false, (List.replicate (((k.natAbs) / 32) + 1) 0).set ((k.natAbs) / 32) (2 ^ (k.natAbs % 32)), ([] : List Nat)⟩ : Raw)))) := by show encQ (P2 k) = encQ (1 / qv ⟨false, powL k.natAbs, []⟩); rw [hpe, qv_encQ, P2_neg ‹_›]
    refine J.ret (KR.next (KR.ret (v := ratV y6 (encQ ((1 : Rat) / (qv (⟨false, (List.replicate (((k.natAbs) / 32) + 1) 0).set ((k.natAbs) / 32) (2 ^ (k.natAbs % 32)), ([] : List Nat)⟩ : Raw))))) (y6) [some 1] [0] [b1, b1, b1] k_ v1_ (trivial) v1_))
  · skip
    replace c4 := of_decide_eq_false c4
    refine J.skip ?_
    refine KN.next ?_
    refine J.sreg ?_
    refine RN.bat [some 0, some 1] [2] [b1, b1, b1, b3, b3, b3] (k' := 2) (l' := [(2, pt b1)]) (M' := [(b3, .cells (ratC (⟨(⟨some ⟨b2, 0, none⟩, ((k.natAbs) / 32) + 1⟩ : SA), saNil⟩ : RA) (⟨false, (List.replicate (((k.natAbs) / 32) + 1) 0).set ((k.natAbs) / 32) (2 ^ (k.natAbs % 32)), ([] : List Nat)⟩ : Raw)) 27 (0, 0)), (b1, .cells (ratC (⟨(⟨some ⟨b2, 0, none⟩, ((k.natAbs) / 32) + 1⟩ : SA), saNil⟩ : RA) (⟨false, (List.replicate (((k.natAbs) / 32) + 1) 0).set ((k.natAbs) / 32) (2 ^ (k.natAbs % 32)), ([] : List Nat)⟩ : Raw)) 27 (0, 0))]) k_ ?_
    refine RN.fin k_ ?_
    have e_1 : (encQ (P2 k)) = (⟨false, (List.replicate (((k.natAbs) / 32) + 1) 0).set ((k.natAbs) / 32) (2 ^ (k.natAbs % 32)), ([] : List Nat)⟩ : Raw) := by first | exact (congrArg encQ (P2_nn ‹_›)).trans hpe.symm
    have e_2 : (toL (((P2 k).num).natAbs)) = ((List.replicate (((k.natAbs) / 32) + 1) 0).set ((k.natAbs) / 32) (2 ^ (k.natAbs % 32))) := congrArg Raw.mag e_1
    have e_3 : (toD ((P2 k).den)) = ([] : List Nat) := congrArg Raw.den e_1
    refine J.also (fRat (⟨(⟨some ⟨b2, 0, none⟩, ((k.natAbs) / 32) + 1⟩ : SA), saNil⟩ : RA) (⟨false, (List.replicate (((k.natAbs) / 32) + 1) 0).set ((k.natAbs) / 32) (2 ^ (k.natAbs % 32)), ([] : List Nat)⟩ : Raw)) (fun w h => ⟨(h _ (.head _)), fU_nil w⟩) ?_
    refine J.ret (KR.ret (v := ratV (⟨(⟨some ⟨b2, 0, none⟩, ((k.natAbs) / 32) + 1⟩ : SA), saNil⟩ : RA) (⟨false, (List.replicate (((k.natAbs) / 32) + 1) 0).set ((k.natAbs) / 32) (2 ^ (k.natAbs % 32)), ([] : List Nat)⟩ : Raw)) (⟨(⟨some ⟨b2, 0, none⟩, ((k.natAbs) / 32) + 1⟩ : SA), saNil⟩) [some 1] [0] [b1, b1, b1] k_ (by first | rfl | (rw [e_1]; done) | (simp only [e_1]; done) | (rw [e_2, e_3]; done) | (rw [e_1, e_2, e_3]; rfl) | (simp only [e_1, e_2, e_3]; done) | (simp only [e_1, e_2, e_3]; rfl)) (trivial) (by first | rfl | (rw [e_1]; done) | (simp only [e_1]; done) | (rw [e_2, e_3]; done) | (rw [e_1, e_2, e_3]; rfl) | (simp only [e_1, e_2, e_3]; done) | (simp only [e_1, e_2, e_3]; rfl)))
end Go.Proofs.YtegnonhgildhoaaGreat.E
namespace Go.Proofs.YtegnonhgildhoaaGreat.E
open Go Go.RowKit
set_option linter.unusedVariables false
set_option linter.unusedSimpArgs false
theorem about_b {a b : Nat} {z : Int} (ha : a ≤ 6176) (hb : b ≤ 6176) (hz : z = if (b : Int) > 1 then (b : Int) else 1) : -6400 ≤ (a : Int) - z ∧ (a : Int) - z ≤ 6400 := by
  subst hz; split <;> omega
theorem Q.num_len {k : Nat} {q : Rat} (h : Q k q) : (toL q.num.natAbs).length ≤ k := h.1
theorem Q.den_len {k : Nat} {q : Rat} (h : Q k q) : (toD q.den).length ≤ k := Nat.le_trans (toD_le _) h.2
theorem y_m19_about {p : Prop} (h : p := by first | assumption | exact Lb_toL _ | omega | (simp; done) | first | exact Q.le hc (by decide) | exact Q.le hI3 (by decide) | exact Q.le hxx (by decide) | exact Lb_toD _ | omega) : p := h
theorem m19_about (s : SA) (ps : List PR) (p : RA) (c : Raw) (hps : ∀ i, i < ps.length → RQ 64 (ps.getD i pr0).2) (hcR : RQ 268435456 c) (hc : Q 64 (qv c)) : Spec Tryz.prog 58 #[sl s ps.length, ratV p c] [fRats s ps, fRat p c] (ι := Int) (fun y => .int .i64 y) (fun y => -6400 ≤ y ∧ y ≤ 6400) (fun y => []) := by
  refine Spec.of_body _ (fn := Tryz.f58) k_ rfl k_ (fun X w0 => ?_)
  refine J.fact (φ := ps.length ≤ 140737488355328) (fun w h => by have := (h _ (.head _)).1; omega) (fun hl1 => ?_)
  refine J.fact (φ := c.mag.length ≤ 140737488355328 ∧ c.den.length ≤ 140737488355328) (fun w h => by have h1 := (h _ (.tail _ ((.head _)))).1.1; have h2 := (h _ (.tail _ ((.head _)))).2.1; omega) (fun hl2 => ?_)
  refine J.sreg ?_
  refine RN.new (fun b => pt b) (.cells (ratC p c) 27 (0, 0)) k_ k_ (fun w => by kernel_rfl) (fun b3 => ?_)
  refine RN.bq (no 1) [0, 3] [] (k' := 2) (l' := [(0, sl s ps.length), (3, pt b3)]) k_ ?_
  refine RN.fin k_ ?_
  refine J.sreg ?_
  refine RN.new (fun b => pt b) (.cells (ratC (⟨saNil, saNil⟩ : RA) (⟨false, ([] : List Nat), ([] : List Nat)⟩ : Raw)) 27 (0, 0)) k_ k_ (fun w => by kernel_rfl) (fun b4 => ?_)
  refine RN.fin k_ ?_
  refine J.seq ?_
  refine J.sreg ?_
  refine RN.bq (no 3) [3, 5, 10, 11, 12] [] (k' := 3) (l' := [(3, pt b3), (5, pt b4), (10, sl s ps.length), (11, .int .i64 ((ps.length : Nat) : Int)), (12, .int .i64 0)]) k_ ?_
  refine RN.fin k_ ?_
  refine J.block ?_
  refine J.also (fRat (⟨saNil, saNil⟩ : RA) (encQ 0)) (fun w h => fRat_zero w) ?_
  refine J.loop (ι := (Nat) × (RA) × (Rat)) (fun x => x.1 ≤ ps.length ∧ Q 128 x.2.2) (fun x => ps.length - x.1) (fun x => [(3, pt b3), (5, pt b4), (10, sl s ps.length), (11, .int .i64 ((ps.length : Nat) : Int)), (12, .int .i64 ((x.1 : Nat) : Int))]) (fun x => [(b4, .cells (ratC x.2.1 (encQ x.2.2)) 27 (0, 0)), (b3, .cells (ratC p c) 27 (0, 0))]) (fun x => [fRat x.2.1 (encQ x.2.2), fRats s ps, fRat p c]) (0, (⟨saNil, saNil⟩ : RA), 0) [3, 5, 10, 11, 12] [0, 1, 2] (⟨Nat.zero_le _, Q0.le (by decide)⟩) k_ (by first | rfl | (simp only [encQ_zero]; done) | (simp only [encQ_zero]; rfl)) (by rfl) (fun x5 hI => ?_)
  obtain ⟨i, so, S⟩ := x5
  replace hI : i ≤ ps.length ∧ Q 128 S := hI
  obtain ⟨hI1, hI3⟩ := hI
  refine J.sreg ?_
  refine RN.bq (no 1) [3, 5, 10, 11, 12, 13] [] (k' := 1) (l' := [(3, pt b3), (5, pt b4), (10, sl s ps.length), (11, .int .i64 ((ps.length : Nat) : Int)), (12, .int .i64 ((i : Nat) : Int)), (13, .bool (decide (((i : Nat) : Int) < ((ps.length : Nat) : Int))))]) k_ ?_
  refine RN.fin k_ ?_
  refine J.seq ?_
  refine J.cond (decide (((i : Nat) : Int) < ((ps.length : Nat) : Int))) k_ (fun c6 => ?_) (fun c6 => ?_)
  · skip
    replace c6 := of_decide_eq_true c6
    have hxr := hps i (by omega)
    have hxq := hxr.2.2.2.2
    have hxb := hxr.le (by decide : 64 ≤ 268435456)
    have hxx : Q 128 _ := hxq.mul hxq
    refine J.skip ?_
    refine KN.next ?_
    refine J.seq ?_
    refine J.block ?_
    refine J.sreg ?_
    refine RN.val _ k_ k_ (q_ridx (t := 22) (x := (.tmp 10)) (ix := (.tmp 12)) (K := .i64) (i0 := ((i : Nat) : Int)) (m := i) (e := 27) 1 rfl k_ k_ k_ k_ k_ (by omega) x_) ?_
    refine RN.val _ k_ k_ (q_rload (T := 27) (x := (.tmp 14)) (m := i) (s := s) (ps := ps) 1 rfl k_ k_ k_ k_ x_) ?_
    refine RN.also (fRat ((ps.getD i pr0).1) ((ps.getD i pr0).2)) (fun w h => rat_of (h _ (.tail _ ((.head _)))) x_) ?_
    refine RN.new (fun b => pt b) (.cells (ratC (⟨saNil, saNil⟩ : RA) (⟨false, ([] : List Nat), ([] : List Nat)⟩ : Raw)) 27 (0, 0)) k_ k_ (fun w => by kernel_rfl) (fun b7 => ?_)
    refine RN.bat [some 0] [3, 5, 7, 10, 11, 12] [b7, b7, b7] (k' := 4) (l' := [(3, pt b3), (5, pt b4), (7, pt b7), (10, sl s ps.length), (11, .int .i64 ((ps.length : Nat) : Int)), (12, .int .i64 ((i : Nat) : Int))]) (M' := [(b7, .cells (ratC ((ps.getD i pr0).1) ((ps.getD i pr0).2)) 27 (0, 0)), (b4, .cells (ratC so (encQ S)) 27 (0, 0)), (b3, .cells (ratC p c) 27 (0, 0))]) k_ ?_
    refine RN.fin k_ ?_
    refine J.sreg ?_
    refine RN.bq [some 0, some 0] [3, 5, 10, 11, 12, 16, 17] [b7, b7, b7, b7, b7, b7] (k' := 2) (l' := [(3, pt b3), (5, pt b4), (10, sl s ps.length), (11, .int .i64 ((ps.length : Nat) : Int)), (12, .int .i64 ((i : Nat) : Int)), (16, ratV ((ps.getD i pr0).1) ((ps.getD i pr0).2)), (17, ratV ((ps.getD i pr0).1) ((ps.getD i pr0).2))]) k_ ?_
    refine RN.call (rational_Mul ((ps.getD i pr0).1) ((ps.getD i pr0).2) ((ps.getD i pr0).1) ((ps.getD i pr0).2) y_m19_about y_m19_about) [0, 0] k_ k_ k_ rfl (fun y8 _ => ?_)
    refine RN.new (fun b => pt b) (.cells (ratC (⟨saNil, saNil⟩ : RA) (⟨false, ([] : List Nat), ([] : List Nat)⟩ : Raw)) 27 (0, 0)) k_ k_ (fun w => by kernel_rfl) (fun b9 => ?_)
    refine RN.bat [some 0] [3, 5, 8, 10, 11, 12] [b9, b9, b9] (k' := 5) (l' := [(3, pt b3), (5, pt b4), (8, pt b9), (10, sl s ps.length), (11, .int .i64 ((ps.length : Nat) : Int)), (12, .int .i64 ((i : Nat) : Int))]) (M' := [(b9, .cells (ratC y8 (encQ ((qv ((ps.getD i pr0).2)) * (qv ((ps.getD i pr0).2))))) 27 (0, 0)), (b7, .cells (ratC ((ps.getD i pr0).1) ((ps.getD i pr0).2)) 27 (0, 0)), (b4, .cells (ratC so (encQ S)) 27 (0, 0)), (b3, .cells (ratC p c) 27 (0, 0))]) k_ ?_
    refine RN.fin k_ ?_
    refine J.sreg ?_
    refine RN.bq [some 0, some 2] [3, 5, 8, 10, 11, 12, 19, 20] [b4, b4, b4, b9, b9, b9] (k' := 2) (l' := [(3, pt b3), (5, pt b4), (8, pt b9), (10, sl s ps.length), (11, .int .i64 ((ps.length : Nat) : Int)), (12, .int .i64 ((i : Nat) : Int)), (19, ratV y8 (encQ ((qv ((ps.getD i pr0).2)) * (qv ((ps.getD i pr0).2))))), (20, ratV so (encQ S))]) k_ ?_
    refine RN.call (rational_Compare_c y8 ((qv ((ps.getD i pr0).2)) * (qv ((ps.getD i pr0).2))) so S y_m19_about y_m19_about) [0, 2] k_ k_ k_ rfl (fun y10 _ => ?_)
    refine RN.bq (no 1) [3, 5, 8, 10, 11, 12, 22] [] (k' := 4) (l' := [(3, pt b3), (5, pt b4), (8, pt b9), (10, sl s ps.length), (11, .int .i64 ((ps.length : Nat) : Int)), (12, .int .i64 ((i : Nat) : Int)), (22, .bool (decide ((cmpQ ((qv ((ps.getD i pr0).2)) * (qv ((ps.getD i pr0).2))) S) > 0)))]) k_ ?_
    refine RN.fin k_ ?_
    refine J.cond (decide ((cmpQ ((qv ((ps.getD i pr0).2)) * (qv ((ps.getD i pr0).2))) S) > 0)) k_ (fun c11 => ?_) (fun c11 => ?_)
    · skip
      replace c11 := of_decide_eq_true c11
      refine J.regN ?_
      refine RN.bat [some 0, some 2] [3, 5, 10, 11, 12] [b4, b4, b4, b9, b9, b9] (k' := 2) (l' := [(3, pt b3), (5, pt b4), (10, sl s ps.length), (11, .int .i64 ((ps.length : Nat) : Int)), (12, .int .i64 ((i : Nat) : Int))]) (M' := [(b9, .cells (ratC y8 (encQ ((qv ((ps.getD i pr0).2)) * (qv ((ps.getD i pr0).2))))) 27 (0, 0)), (b7, .cells (ratC ((ps.getD i pr0).1) ((ps.getD i pr0).2)) 27 (0, 0)), (b4, .cells (ratC y8 (encQ ((qv ((ps.getD i pr0).2)) * (qv ((ps.getD i pr0).2))))) 27 (0, 0)), (b3, .cells (ratC p c) 27 (0, 0))]) k_ ?_
      refine RN.done k_ ?_
      refine KN.blk ?_
      refine KN.next ?_
      refine J.regN ?_
      refine RN.bq (no 1) [3, 5, 10, 11, 24] [] (k' := 1) (l' := [(3, pt b3), (5, pt b4), (10, sl s ps.length), (11, .int .i64 ((ps.length : Nat) : Int)), (24, .int .i64 (IntKind.i64.wrap (((i : Nat) : Int) + 1)))]) k_ ?_
      rw [show IntKind.i64.wrap (((i : Nat) : Int) + 1) = ((i + 1 : Nat) : Int) from by rw [IntKind.wrap_i64]; omega]
      refine RN.bq (no 1) [3, 5, 10, 11, 12] [] (k' := 2) (l' := [(3, pt b3), (5, pt b4), (10, sl s ps.length), (11, .int .i64 ((ps.length : Nat) : Int)), (12, .int .i64 ((i + 1 : Nat) : Int))]) k_ ?_
      refine RN.done k_ ?_
      refine KN.dropF 2 ?_
      refine KN.roundE (i + 1, y8, (qv ((ps.getD i pr0).2)) * (qv ((ps.getD i pr0).2))) [3, 5, 10, 11, 12] [0, 3, 4] (l2 := [(3, pt b3), (5, pt b4), (10, sl s ps.length), (11, .int .i64 ((ps.length : Nat) : Int)), (12, .int .i64 ((i + 1 : Nat) : Int))]) (by (try dsimp only); omega) (by (try dsimp only); exact ⟨by omega, hxx⟩) k_ (by rfl) (by rfl) (by rfl)
    · skip
      replace c11 := of_decide_eq_false c11
      refine J.skip ?_
      refine KN.blk ?_
      refine KN.next ?_
      refine J.regN ?_
      refine RN.bq (no 1) [3, 5, 10, 11, 24] [] (k' := 1) (l' := [(3, pt b3), (5, pt b4), (10, sl s ps.length), (11, .int .i64 ((ps.length : Nat) : Int)), (24, .int .i64 (IntKind.i64.wrap (((i : Nat) : Int) + 1)))]) k_ ?_
      rw [show IntKind.i64.wrap (((i : Nat) : Int) + 1) = ((i + 1 : Nat) : Int) from by rw [IntKind.wrap_i64]; omega]
      refine RN.bq (no 1) [3, 5, 10, 11, 12] [] (k' := 2) (l' := [(3, pt b3), (5, pt b4), (10, sl s ps.length), (11, .int .i64 ((ps.length : Nat) : Int)), (12, .int .i64 ((i + 1 : Nat) : Int))]) k_ ?_
      refine RN.done k_ ?_
      refine KN.dropF 2 ?_
      refine KN.roundE (i + 1, so, S) [3, 5, 10, 11, 12] [2, 3, 4] (l2 := [(3, pt b3), (5, pt b4), (10, sl s ps.length), (11, .int .i64 ((ps.length : Nat) : Int)), (12, .int .i64 ((i + 1 : Nat) : Int))]) (by (try dsimp only); omega) (by (try dsimp only); exact ⟨by omega, hI3⟩) k_ (by rfl) (by rfl) (by rfl)
  · skip
    replace c6 := of_decide_eq_false c6
    have hq := hI3.div hc
    have hq1 := hq.num_len
    have hq2 := hq.den_len
    refine J.exit (KX.next (KX.next (KX.hit ?_)))
    refine KN.next ?_
    refine J.sreg ?_
    refine RN.bq [some 0, some 1] [25, 26] [b3, b3, b3, b4, b4, b4] (k' := 2) (l' := [(25, ratV so (encQ S)), (26, ratV p c)]) k_ ?_
    refine RN.call (m19_quotient_c1 so S p c y_m19_about y_m19_about) [0, 2] k_ k_ k_ rfl (fun y12 _ => ?_)
    refine RN.new (fun b => pt b) (.cells (ratC (⟨saNil, saNil⟩ : RA) (⟨false, ([] : List Nat), ([] : List Nat)⟩ : Raw)) 27 (0, 0)) k_ k_ (fun w => by kernel_rfl) (fun b13 => ?_)
    refine RN.bat [some 0] [9] [b13, b13, b13] (k' := 5) (l' := [(9, pt b13)]) (M' := [(b13, .cells (ratC y12 (encQ (S / (qv c)))) 27 (0, 0)), (b4, .cells (ratC so (encQ S)) 27 (0, 0)), (b3, .cells (ratC p c) 27 (0, 0))]) k_ ?_
    refine RN.fin k_ ?_
    refine J.seq ?_
    refine J.regD k_ [] ?_
    refine RD.bat k_ [(0, none), (1, none), (2, some 0), (4, none), (5, some 0)] [30, 33] [b13, b13] (L' := [5, 4, 2, 1, 0]) (l' := [(30, sl y12.mag (toL (((S / (qv c)).num).natAbs)).length), (33, sl (y12.den) (toD ((S / (qv c)).den)).length)]) k_ ?_
    refine RD.also (fU y12.mag (toL (((S / (qv c)).num).natAbs))) (fun w h => (h _ (.head _)).1) k_ ?_
    refine RD.call (i := 3) (m19_length_c y12.mag (((S / (qv c)).num).natAbs) y_m19_about) [0] k_ k_ k_ k_ k_ rfl (fun y14 _ => ?_)
    have hA := lenL_le (toL ((S / (qv c)).num.natAbs))
    refine RD.also (fU (y12.den) (toD ((S / (qv c)).den))) (fun w h => (h _ (.tail _ ((.head _)))).2) k_ ?_
    refine RD.call (i := 6) (m19_length (y12.den) (toD ((S / (qv c)).den)) y_m19_about y_m19_about) [0] k_ k_ k_ k_ k_ rfl (fun y15 _ => ?_)
    have hB := lenL_le (toD ((S / (qv c)).den))
    refine RD.bat k_ [(7, none), (8, none)] [36] [] (L' := [8, 7, 6, 3, 5, 4, 2, 1, 0]) (l' := [(36, .int .i64 (IntKind.i64.wrap (((lenL (toL (((S / (qv c)).num).natAbs)) : Nat) : Int) - (if ((lenL (toD ((S / (qv c)).den)) : Nat) : Int) > 1 then ((lenL (toD ((S / (qv c)).den)) : Nat) : Int) else 1))))]) k_ ?_
    rw [show IntKind.i64.wrap (((lenL (toL (((S / (qv c)).num).natAbs)) : Nat) : Int) - (if ((lenL (toD ((S / (qv c)).den)) : Nat) : Int) > 1 then ((lenL (toD ((S / (qv c)).den)) : Nat) : Int) else 1)) = (((lenL (toL (((S / (qv c)).num).natAbs)) : Nat) : Int) - (if ((lenL (toD ((S / (qv c)).den)) : Nat) : Int) > 1 then ((lenL (toD ((S / (qv c)).den)) : Nat) : Int) else 1)) from by rw [IntKind.wrap_i64]; split <;> omega]
    refine RD.bat k_ [(9, none)] [4] [] (L' := [9, 8, 7, 6, 3, 5, 4, 2, 1, 0]) (l' := [(4, .int .i64 (((lenL (toL (((S / (qv c)).num).natAbs)) : Nat) : Int) - (if ((lenL (toD ((S / (qv c)).den)) : Nat) : Int) > 1 then ((lenL (toD ((S / (qv c)).den)) : Nat) : Int) else 1)))]) k_ ?_
    refine RD.done k_ ?_
    refine KN.next ?_
    refine J.ret (KR.ret (v := .int .i64 (((lenL (toL (((S / (qv c)).num).natAbs)) : Nat) : Int) - (if ((lenL (toD ((S / (qv c)).den)) : Nat) : Int) > 1 then ((lenL (toD ((S / (qv c)).den)) : Nat) : Int) else 1))) (((lenL (toL (((S / (qv c)).num).natAbs)) : Nat) : Int) - (if ((lenL (toD ((S / (qv c)).den)) : Nat) : Int) > 1 then ((lenL (toD ((S / (qv c)).den)) : Nat) : Int) else 1)) [none] [] [] k_ rfl (about_b (by omega) (by omega) rfl) rfl)
theorem m19_double (p : RA) (r : Raw) (hr : RQ 268435456 r) : Spec Tryz.prog 59 #[ratV p r] [fRat p r] (ι := RA) (fun y => ratV y (encQ (qv r + qv r))) (fun y => True) (fun y => [fRat y (encQ (qv r + qv r))]) := by
  refine Spec.of_body _ (fn := Tryz.f59) k_ rfl k_ (fun X w0 => ?_)
  refine J.fact (φ := r.mag.length ≤ 140737488355328 ∧ r.den.length ≤ 140737488355328) (fun w h => by have h1 := (h _ (.head _)).1.1; have h2 := (h _ (.head _)).2.1; omega) (fun hl1 => ?_)
  refine J.sreg ?_
  refine RN.new (fun b => pt b) (.cells (ratC p r) 27 (0, 0)) k_ k_ (fun w => by kernel_rfl) (fun b2 => ?_)
  refine RN.new (fun b => pt b) (.cells (ratC (⟨saNil, saNil⟩ : RA) (⟨false, ([] : List Nat), ([] : List Nat)⟩ : Raw)) 27 (0, 0)) k_ k_ (fun w => by kernel_rfl) (fun b3 => ?_)
  refine RN.fin k_ ?_
  refine J.sreg ?_
  refine RN.bq [some 1, some 1] [2, 3, 4] [b2, b2, b2, b2, b2, b2] (k' := 2) (l' := [(2, pt b3), (3, ratV p r), (4, ratV p r)]) k_ ?_
  refine RN.call (rational_Add p r p r y_ y_) [0, 0] k_ k_ k_ rfl (fun y4 _ => ?_)
  refine RN.bat [some 0] [2] [b3, b3, b3] (k' := 4) (l' := [(2, pt b3)]) (M' := [(b3, .cells (ratC y4 (encQ ((qv r) + (qv r)))) 27 (0, 0)), (b2, .cells (ratC p r) 27 (0, 0))]) k_ ?_
  refine RN.fin k_ ?_
  have e_1 : (encQ (qv r + qv r)) = (encQ ((qv r) + (qv r))) := by first | rfl | simp [*]
  refine J.ret (KR.ret (v := ratV y4 (encQ ((qv r) + (qv r)))) (y4) [some 0] [0] [b3, b3, b3] k_ v1_ (trivial) v1_)
theorem m19_double_c (p : RA) (r' : Rat) (hr : Q 268435456 r') : Spec Tryz.prog 59 #[ratV p (encQ r')] [fRat p (encQ r')] (ι := RA) (fun y => ratV y (encQ (r' + r'))) (fun y => True) (fun y => [fRat y (encQ (r' + r'))]) := by
  have H := m19_double p (encQ r') (RQ_enc hr)
  first | exact H | (simp only [qv_encQ, validQ_encQ] at H; exact H)
theorem y_m19_halve {p : Prop} (h : p := by first | assumption | exact Lb_toL _ | omega | (simp; done) | exact Q.le (Q_int (by decide)) (by decide)) : p := h
theorem m19_halve (p : RA) (r : Raw) (hr : RQ 268435456 r) : Spec Tryz.prog 60 #[ratV p r] [fRat p r] (ι := RA) (fun y => ratV y (encQ (qv r / 2))) (fun y => True) (fun y => [fRat y (encQ (qv r / 2))]) := by
  refine Spec.of_body _ (fn := Tryz.f60) k_ rfl k_ (fun X w0 => ?_)
  refine J.fact (φ := r.mag.length ≤ 140737488355328 ∧ r.den.length ≤ 140737488355328) (fun w h => by have h1 := (h _ (.head _)).1.1; have h2 := (h _ (.head _)).2.1; omega) (fun hl1 => ?_)
  refine J.sreg ?_
  refine RN.new (fun b => pt b) (.cells (ratC p r) 27 (0, 0)) k_ k_ (fun w => by kernel_rfl) (fun b2 => ?_)
  refine RN.new (fun b => pt b) (.cells (ratC (⟨saNil, saNil⟩ : RA) (⟨false, ([] : List Nat), ([] : List Nat)⟩ : Raw)) 27 (0, 0)) k_ k_ (fun w => by kernel_rfl) (fun b3 => ?_)
  refine RN.fin k_ ?_
  refine J.seq ?_
  refine J.regD k_ [3] ?_
  refine RD.bat k_ [(0, some 1)] [2, 3] [b2, b2, b2] (L' := [0]) (l' := [(2, pt b3), (3, ratV p r)]) k_ ?_
  refine RD.call (i := 1) (rational_FromInt 2 y_m19_halve y_m19_halve) [] k_ k_ k_ k_ k_ rfl (fun y4 _ => ?_)
  refine RD.call (i := 2) (m19_quotient_c2 p r y4 ((2 : Int) : Rat) y_m19_halve y_m19_halve) [1, 0] k_ k_ k_ k_ k_ rfl (fun y5 _ => ?_)
  refine RD.last (i := 3) (some 0) [2] [b3, b3, b3] k_ k_ k_ (l' := [(2, pt b3)]) (M' := [(b3, .cells (ratC y5 (encQ ((qv r) / ((2 : Int) : Rat)))) 27 (0, 0)), (b2, .cells (ratC p r) 27 (0, 0))]) k_ ?_
  refine RD.done k_ ?_
  refine KN.next ?_
  have e_1 : (encQ (qv r / 2)) = (encQ ((qv r) / ((2 : Int) : Rat))) := by rfl
  refine J.ret (KR.ret (v := ratV y5 (encQ ((qv r) / ((2 : Int) : Rat)))) (y5) [some 0] [0] [b3, b3, b3] k_ v1_ (trivial) v1_)
theorem m19_halve_c (p : RA) (r' : Rat) (hr : Q 268435456 r') : Spec Tryz.prog 60 #[ratV p (encQ r')] [fRat p (encQ r')] (ι := RA) (fun y => ratV y (encQ (r' / 2))) (fun y => True) (fun y => [fRat y (encQ (r' / 2))]) := by
  have H := m19_halve p (encQ r') (RQ_enc hr)
  first | exact H | (simp only [qv_encQ, validQ_encQ] at H; exact H)
end Go.Proofs.YtegnonhgildhoaaGreat.E
namespace Go.Proofs.YtegnonhgildhoaaGreat.E
open Go Go.RowKit
set_option linter.unusedVariables false
set_option linter.unusedSimpArgs false
theorem mean_def (ps : List PR) (c s : Rat) : sumTo (meanT c s) ps ps.length / ((((ps.length : Nat) : Int)) : Rat) = meanN (vals ps) ps.length c s := rfl
theorem Q_sumTo {c s : Rat} (ps : List PR) (hps : ∀ i, i < ps.length → RQ 64 (ps.getD i pr0).2) (hc : Q 64 c) (hs : Q 65536 s) : ∀ k, k ≤ ps.length → Q (197198 * k + 1) (sumTo (meanT c s) ps k)
  | 0, _ => Q0
  | k + 1, h => ((Q_sumTo ps hps hc hs k (by omega)).add (Q_term hc hs (hps k (by omega)).2.2.2.2).2.2.2).le (by omega)
theorem Q_mean {c s : Rat} (ps : List PR) (hps : ∀ i, i < ps.length → RQ 64 (ps.getD i pr0).2) (hc : Q 64 c) (hs : Q 65536 s) (hn : ps.length ≤ 1024) : Q 201930760 (sumTo (meanT c s) ps ps.length / ((((ps.length : Nat) : Int)) : Rat)) :=
  ((Q_sumTo ps hps hc hs ps.length (Nat.le_refl _)).div (Q_int (by omega))).le (by omega)
theorem y_m19_above {p : Prop} (h : p := by first | assumption | exact Lb_toL _ | omega | (simp; done) | first | exact ht.le (by decide) | exact hQm) : p := h
theorem m19_above (p' : RA) (t : Rat) (b1 : Nat) (b2 : Nat) (b3 : Nat) (s : SA) (ps : List PR) (p : RA) (c : Raw) (u : RA) (b : Raw) (hps : ∀ i, i < ps.length → RQ 64 (ps.getD i pr0).2) (hcR : RQ 268435456 c) (hbR : RQ 268435456 b) (hc : Q 64 (qv c)) (hb : Q 64 (qv b)) (ht : Q 65536 t) (hn : ps.length ≤ 1024) : SpecM Tryz.prog 56 #[ratV p' (encQ t), pt b1, pt b2, pt b3] [(b3, .cells (ratC u b) 27 (0, 0)), (b2, .cells (ratC p c) 27 (0, 0)), (b1, .cells #[sl s ps.length] 22 (0, 0))] [fRat p' (encQ t), fRats s ps, fRat p c, fRat u b] (ι := Unit) (fun y => .bool (decide ((qv b) < meanN (vals ps) ps.length (qv c) t))) (fun y => True) (fun y => [(b3, .cells (ratC u b) 27 (0, 0)), (b2, .cells (ratC p c) 27 (0, 0)), (b1, .cells #[sl s ps.length] 22 (0, 0))]) (fun y => []) := by
  refine SpecM.of_body _ (fn := Tryz.f56) k_ rfl k_ (fun X w0 => ?_)
  refine J.fact (φ := (encQ t).mag.length ≤ 140737488355328 ∧ (encQ t).den.length ≤ 140737488355328) (fun w h => by have h1 := (h _ (.head _)).1.1; have h2 := (h _ (.head _)).2.1; omega) (fun hl1 => ?_)
  refine J.fact (φ := ps.length ≤ 140737488355328) (fun w h => by have := (h _ (.tail _ ((.head _)))).1; omega) (fun hl2 => ?_)
  refine J.fact (φ := c.mag.length ≤ 140737488355328 ∧ c.den.length ≤ 140737488355328) (fun w h => by have h1 := (h _ (.tail _ ((.tail _ ((.head _)))))).1.1; have h2 := (h _ (.tail _ ((.tail _ ((.head _)))))).2.1; omega) (fun hl3 => ?_)
  refine J.fact (φ := b.mag.length ≤ 140737488355328 ∧ b.den.length ≤ 140737488355328) (fun w h => by have h1 := (h _ (.tail _ ((.tail _ ((.tail _ ((.head _)))))))).1.1; have h2 := (h _ (.tail _ ((.tail _ ((.tail _ ((.head _)))))))).2.1; omega) (fun hl4 => ?_)
  have hQm := (Q_mean ps hps hc ht hn).le (by decide : 201930760 ≤ 268435456)
  refine J.sreg ?_
  refine RN.new (fun b => pt b) (.cells (ratC p' (encQ t)) 27 (0, 0)) k_ k_ (fun w => by kernel_rfl) (fun b5 => ?_)
  refine RN.bq (no 1) [1, 2, 3, 4] [] (k' := 2) (l' := [(1, pt b1), (2, pt b2), (3, pt b3), (4, pt b5)]) k_ ?_
  refine RN.fin k_ ?_
  refine J.seq ?_
  refine J.regD k_ [] ?_
  refine RD.bat k_ [(0, some 3), (1, some 2), (2, some 0), (4, some 1)] [6, 7, 8, 10] [b3, b3, b3, b5, b5, b5, b2, b2, b2, b1] (L' := [4, 2, 1, 0]) (l' := [(6, sl s ps.length), (7, ratV p c), (8, ratV p' (encQ t)), (10, ratV u b)]) k_ ?_
  refine RD.call (i := 3) (m19_mean_c2 s ps p c p' t y_m19_above y_m19_above y_m19_above y_m19_above y_m19_above y_m19_above) [1, 2, 0] k_ k_ k_ k_ k_ rfl (fun y6 _ => ?_)
  refine RD.call (i := 5) (rational_Compare_c1 y6 (sumTo (meanT (qv c) t) ps ps.length / ((((ps.length : Nat) : Int)) : Rat)) u b y_m19_above y_m19_above) [0, 4] k_ k_ k_ k_ k_ rfl (fun y7 _ => ?_)
  refine RD.bat k_ [(6, none), (7, none)] [5] [] (L' := [7, 6, 5, 3, 4, 2, 1, 0]) (l' := [(5, .bool (decide ((cmpQ (sumTo (meanT (qv c) t) ps ps.length / ((((ps.length : Nat) : Int)) : Rat)) (qv b)) > 0)))]) k_ ?_
  refine RD.done k_ ?_
  refine KN.next ?_
  refine J.dropF 1 ?_
  have e_1 : (decide ((qv b) < meanN (vals ps) ps.length (qv c) t)) = (decide ((cmpQ (sumTo (meanT (qv c) t) ps ps.length / ((((ps.length : Nat) : Int)) : Rat)) (qv b)) > 0)) := by rw [decide_eq_decide]; exact cmpQ_gt.symm
  refine J.ret (KR.retM (v := .bool (decide ((cmpQ (sumTo (meanT (qv c) t) ps ps.length / ((((ps.length : Nat) : Int)) : Rat)) (qv b)) > 0))) (()) [none] [] [] k_ v1_ (trivial) v1_ v1_)
end Go.Proofs.YtegnonhgildhoaaGreat.E
/- Plain law of Scale's loops, step by step. -/
namespace Go.Proofs.YtegnonhgildhoaaGreat.E
set_option linter.unusedVariables false
set_option linter.unusedSimpArgs false
structure SIn (x : Nat → Rat) (n : Nat) (c b : Rat) (bits : Int) : Prop where
  n0 : 0 < n
  n1 : n ≤ 1024
  hx : ∀ i, i < n → Q 64 (x i)
  hc : Q 64 c
  c0 : 0 < c
  hb : Q 64 b
  b0 : 0 < b
  hs : b < shareN x n
  t0 : 0 ≤ bits
  t1 : bits ≤ 128
structure L1 (ab : Int) (i : Nat) (H : Rat) : Prop where
  e : H = dy (P2 ab) (2 ^ i) 0
  le : i ≤ 14624
  a1 : -6400 ≤ ab
  a2 : ab ≤ 6400
theorem L1.start {ab : Int} (h : -6400 ≤ ab ∧ ab ≤ 6400) : L1 ab 0 (P2 ab) := ⟨by rw [Nat.pow_zero, dy_one], Nat.zero_le _, h.1, h.2⟩
theorem L1.Q {ab : Int} {i : Nat} {H : Rat} (h : L1 ab i H) : Q 664 H := by
  rw [h.e]
  have hp := P2_Q (e := ab) (l := 201) (by have := h.a1; omega) (by have := h.a2; omega) (by decide)
  obtain ⟨l, hl⟩ : ∃ l, l = 458 := ⟨_, rfl⟩
  exact (Q_dy hp (a := 2 ^ i) (l := l) (k := 0) (m := 1) (pow2_lt (by have := h.le; omega)) (by omega) (by decide)).le (by omega)
theorem L1.step {x : Nat → Rat} {n : Nat} {c b : Rat} {bits : Int} {ab : Int} {i : Nat} {H : Rat} (s : SIn x n c b bits) (h : L1 ab i H) (ha : b < meanN x n c H) : i < 14624 ∧ L1 ab (i + 1) (H + H) := by
  have hp := P2_le (e := ab) (l := 200) (by have := h.a1; omega) (by have := h.a2; omega)
  have hlt := loop1_stop s.n0 s.hx s.hc s.c0 s.hb s.b0 hp.2 (i := i) (by rw [← h.e]; exact ha)
  refine ⟨hlt, ?_, hlt, h.a1, h.a2⟩
  rw [h.e, dy_double, Nat.pow_succ, Nat.mul_comm]
theorem L1.done {ab : Int} {i : Nat} {H : Rat} (h : L1 ab i H) : 0 < H ∧ H ≤ KW 657 := by
  have hp := P2_le (e := ab) (l := 200) (by have := h.a1; omega) (by have := h.a2; omega)
  rw [h.e]
  exact ⟨dy_pos (P2_pos ab) (Nat.pow_pos (by decide)) 0, dy_le_KW (P2_pos ab) hp.1 h.le⟩
structure L2 (x : Nat → Rat) (n : Nat) (c b H : Rat) (j : Nat) (U L : Rat) : Prop where
  eu : U = dy H 1 j
  el : L = dy H 1 (j + 1)
  le : j ≤ 27168
  u : ¬ b < meanN x n c U
theorem L2.start {x : Nat → Rat} {n : Nat} {c b H : Rat} (h : ¬ b < meanN x n c H) : L2 x n c b H 0 H (H / 2) :=
  ⟨(dy_one H).symm, by rw [← dy_halve, dy_one], Nat.zero_le _, h⟩
theorem L2.step {x : Nat → Rat} {n : Nat} {c b H : Rat} {bits : Int} {j : Nat} {U L : Rat} (s : SIn x n c b bits) (hH : 0 < H ∧ H ≤ KW 657) (h : L2 x n c b H j U L) (ha : ¬ b < meanN x n c L) : j < 27168 ∧ L2 x n c b H (j + 1) L (L / 2) := by
  have := loop2_stop s.hx s.hc s.c0 s.hs hH.1 hH.2 (j := j + 1) (by rw [← h.el]; exact ha)
  exact ⟨by omega, h.el, by rw [h.el, dy_halve], by omega, ha⟩
theorem L2.Q {x : Nat → Rat} {n : Nat} {c b H : Rat} {j : Nat} {U L : Rat} (h : L2 x n c b H j U L) (hq : E.Q 664 H) : E.Q 1516 U ∧ E.Q 1516 L := by
  rw [h.eu, h.el]
  have hj := h.le
  exact ⟨(Q_dy hq (a := 1) (l := 1) (m := 850) (by decide +kernel) (by decide) (by omega)).le (by decide), (Q_dy hq (a := 1) (l := 1) (m := 850) (by decide +kernel) (by decide) (by omega)).le (by decide)⟩
structure L3 (x : Nat → Rat) (n : Nat) (c b l : Rat) (bits : Int) (a k : Nat) (U L : Rat) : Prop where
  el : L = dy l a k
  eu : U = dy l (a + 1) k
  a1 : 2 ^ k ≤ a
  a2 : a < 2 ^ (k + 1)
  le : k ≤ bits.toNat
  lo : b < meanN x n c L
  hi : ¬ b < meanN x n c U
  l0 : 0 < l
  hl : Q 1516 l
theorem L3.start {x : Nat → Rat} {n : Nat} {c b H : Rat} {j : Nat} {U L : Rat} {bits : Int} (hH : 0 < H) (hq : E.Q 664 H) (h : L2 x n c b H j U L) (ha : b < meanN x n c L) : L3 x n c b L bits 1 0 U L := by
  have e : U = dy L 2 0 := by
    have : dy H 1 j = dy H 1 (j + 1) + dy H 1 (j + 1) := by rw [← dy_halve]; grind
    rw [h.eu, this, ← h.el]
    have h2 := dy_double L 1 0
    rw [dy_one] at h2
    exact h2
  exact ⟨(dy_one L).symm, e, by decide, by decide, Nat.zero_le _, ha, h.u, by rw [h.el]; exact dy_pos hH (by decide) _, (h.Q hq).2⟩
theorem L3.Q {x : Nat → Rat} {n : Nat} {c b l : Rat} {bits : Int} {a k : Nat} {U L : Rat} (h : L3 x n c b l bits a k U L) (t0 : 0 ≤ bits) (t1 : bits ≤ 128) : E.Q 1530 U ∧ E.Q 1530 L ∧ E.Q 3064 ((L + U) / 2) ∧ E.Q 8 (P2 (-bits)) := by
  have hk : k ≤ 128 := by have := h.le; omega
  have ha : a + 1 < W ^ 5 := by
    have h1 : 2 ^ (k + 1) ≤ 2 ^ 129 := Nat.pow_le_pow_right (by decide) (by omega)
    have h2 : 2 ^ 129 + 1 < W ^ 5 := by decide +kernel
    have := h.a2
    omega
  have q1 : E.Q 1530 U := by rw [h.eu]; exact (Q_dy h.hl (l := 5) (m := 5) ha (by decide) (by omega)).le (by decide)
  have q2 : E.Q 1530 L := by rw [h.el]; exact (Q_dy h.hl (l := 5) (m := 5) (Nat.lt_of_succ_lt ha) (by decide) (by omega)).le (by decide)
  refine ⟨q1, q2, ?_, ?_⟩
  · have hh : E.Q 1 (2 : Rat) := ⟨by decide +kernel, by decide +kernel⟩
    have e : (L + U) / 2 = (L + U) * ((1 : Nat) : Int) / two 1 := by
      rw [show two 1 = (2 : Rat) from rfl, show ((((1 : Nat) : Int)) : Rat) = 1 from rfl]; grind
    rw [e]
    exact (Q_dy (q2.add q1) (a := 1) (l := 1) (k := 1) (m := 1) (by decide +kernel) (by decide) (by decide)).le (by decide)
  · exact (P2_Q (l := 5) (by omega) (by omega) (by decide)).le (by decide)
theorem L3.less {x : Nat → Rat} {n : Nat} {c b l : Rat} {bits : Int} {a k : Nat} {U L : Rat} (h : L3 x n c b l bits a k U L) (t0 : 0 ≤ bits) (ht : P2 (-bits) * U < U - L) : k < bits.toNat := by
  have e : -bits = -((bits.toNat : Nat) : Int) := by omega
  rw [e, h.eu, h.el] at ht
  exact loop3_stop h.l0 h.a1 ht
theorem L3.mid {x : Nat → Rat} {n : Nat} {c b l : Rat} {bits : Int} {a k : Nat} {U L : Rat} (h : L3 x n c b l bits a k U L) : (L + U) / 2 = dy l (2 * a + 1) (k + 1) := by
  rw [h.el, h.eu, dy_mid]
theorem L3.up {x : Nat → Rat} {n : Nat} {c b l : Rat} {bits : Int} {a k : Nat} {U L : Rat} (h : L3 x n c b l bits a k U L) (hk : k < bits.toNat) (ha : b < meanN x n c ((L + U) / 2)) : L3 x n c b l bits (2 * a + 1) (k + 1) U ((L + U) / 2) := by
  have p1 := h.a1
  have p2 := h.a2
  exact ⟨h.mid, by rw [h.eu, dy_up]; rfl, by rw [Nat.pow_succ]; omega, by rw [Nat.pow_succ]; omega, hk, ha, h.hi, h.l0, h.hl⟩
theorem L3.down {x : Nat → Rat} {n : Nat} {c b l : Rat} {bits : Int} {a k : Nat} {U L : Rat} (h : L3 x n c b l bits a k U L) (hk : k < bits.toNat) (ha : ¬ b < meanN x n c ((L + U) / 2)) : L3 x n c b l bits (2 * a) (k + 1) ((L + U) / 2) L := by
  have p1 := h.a1
  have p2 := h.a2
  exact ⟨by rw [h.el, dy_up], h.mid, by rw [Nat.pow_succ]; omega, by rw [Nat.pow_succ]; omega, hk, h.lo, ha, h.l0, h.hl⟩
theorem L3.done {x : Nat → Rat} {n : Nat} {c b l : Rat} {bits : Int} {a k : Nat} {U L : Rat} (h : L3 x n c b l bits a k U L) (t0 : 0 ≤ bits) (t1 : bits ≤ 128) (ht : ¬ P2 (-bits) * U < U - L) : ScaleOk x n c b bits L U := by
  obtain ⟨q1, q2, _, _⟩ := h.Q t0 t1
  refine ⟨by rw [h.el]; exact dy_pos h.l0 (Nat.lt_of_lt_of_le (Nat.pow_pos (by decide)) h.a1) k, ?_, h.lo, Rat.not_lt.1 h.hi, Rat.not_lt.1 ht, q2.le (by decide), q1.le (by decide)⟩
  rw [h.el, h.eu, dy_succ]
  have : 0 < l / two k := by rw [Rat.div_def]; exact Rat.mul_pos h.l0 (Rat.inv_pos.2 (two_pos k))
  grind
end Go.Proofs.YtegnonhgildhoaaGreat.E
namespace Go.Proofs.YtegnonhgildhoaaGreat.E
open Go Go.RowKit
set_option linter.unusedVariables false
set_option linter.unusedSimpArgs false
def ScaleR (x : Nat → Rat) (n : Nat) (c b : Rat) (bits : Int) (lo hi : Rat) : Prop := if checkE n c b bits ≠ 0 ∨ shareN x n ≤ b then lo = 0 ∧ hi = 0 else ScaleOk x n c b bits lo hi
theorem ScaleR_0 {x : Nat → Rat} {n : Nat} {c b : Rat} {bits : Int} (h : checkE n c b bits ≠ 0 ∨ shareN x n ≤ b) : ScaleR x n c b bits 0 0 := by unfold ScaleR; rw [if_pos h]; exact ⟨rfl, rfl⟩
theorem ScaleR_ok {x : Nat → Rat} {n : Nat} {c b : Rat} {bits : Int} {lo hi : Rat} (h1 : checkE n c b bits = 0) (h2 : ¬ shareN x n ≤ b) (h : ScaleOk x n c b bits lo hi) : ScaleR x n c b bits lo hi := by unfold ScaleR; rw [if_neg (by simp [h1, h2])]; exact h
theorem checkE_0 {n : Nat} {c b : Rat} {bits : Int} (h : checkE n c b bits = 0) : 0 < n ∧ n ≤ 1024 ∧ 0 < c ∧ 0 < b ∧ b < 1 ∧ 0 ≤ bits ∧ bits ≤ 128 := by
  unfold checkE at h
  split at h
  · contradiction
  · rename_i h0
    have h1 := sizeE_0 (Decidable.not_not.1 h0)
    split at h
    · rename_i h2; exact ⟨h1.1, h1.2, h2⟩
    · exact absurd h (by decide)
theorem Q_share (x : Nat → Rat) {n : Nat} (h : n ≤ 1024) : Q 5 (shareN x n) := by
  have := cntN_le (fun i => decide (x i ≠ 0)) n
  exact ((Q_int (v := ((cntN (fun i => decide (x i ≠ 0)) n : Nat) : Int)) (by omega)).div (Q_int (v := ((n : Nat) : Int)) (by omega)))
theorem y_m19_Scale {p : Prop} (h : p := by first | assumption | exact Lb_toL _ | omega | (simp; done) | first | exact Q.le hsq (by decide) | exact Q.le hc (by decide) | exact Q.le hb (by decide) | exact Q.le hHQ (by decide) | exact Q.le hUQ.1 (by decide) | exact Q.le hUQ.2 (by decide) | exact Q.le hQ1 (by decide) | exact Q.le hQ2 (by decide) | exact Q.le hQ3 (by decide) | exact Q.le hQ4 (by decide) | exact Q.le hQ5 (by decide) | exact Q.le hQ6 (by decide) | exact Q.le hQ7 (by decide) | omega) : p := h
theorem m19_Scale (s : SA) (ps : List PR) (p : RA) (c : Raw) (u : RA) (b : Raw) (bits : Int) (hps : ∀ i, i < ps.length → RQ 64 (ps.getD i pr0).2) (hcR : RQ 268435456 c) (hbR : RQ 268435456 b) (hc : Q 64 (qv c)) (hb : Q 64 (qv b)) : Spec Tryz.prog 18 #[sl s ps.length, ratV p c, ratV u b, .int .i64 bits] [fRats s ps, fRat p c, fRat u b] (ι := RA × RA × Rat × Rat) (fun y => .tuple #[.agg (ivC y.1 (encQ y.2.2.1) y.2.1 (encQ y.2.2.2)), .int .i64 (checkE ps.length (qv c) (qv b) bits)]) (fun y => ScaleR (vals ps) ps.length (qv c) (qv b) bits y.2.2.1 y.2.2.2) (fun y => [fRat y.1 (encQ y.2.2.1), fRat y.2.1 (encQ y.2.2.2)]) := by
  refine Spec.of_body _ (fn := Tryz.f18) k_ rfl k_ (fun X w0 => ?_)
  refine J.fact (φ := ps.length ≤ 140737488355328) (fun w h => by have := (h _ (.head _)).1; omega) (fun hl1 => ?_)
  refine J.fact (φ := c.mag.length ≤ 140737488355328 ∧ c.den.length ≤ 140737488355328) (fun w h => by have h1 := (h _ (.tail _ ((.head _)))).1.1; have h2 := (h _ (.tail _ ((.head _)))).2.1; omega) (fun hl2 => ?_)
  refine J.fact (φ := b.mag.length ≤ 140737488355328 ∧ b.den.length ≤ 140737488355328) (fun w h => by have h1 := (h _ (.tail _ ((.tail _ ((.head _)))))).1.1; have h2 := (h _ (.tail _ ((.tail _ ((.head _)))))).2.1; omega) (fun hl3 => ?_)
  refine J.sreg ?_
  refine RN.new (fun b => pt b) (.cells #[sl s ps.length] 22 (0, 0)) k_ k_ (fun w => by kernel_rfl) (fun b4 => ?_)
  refine RN.new (fun b => pt b) (.cells (ratC p c) 27 (0, 0)) k_ k_ (fun w => by kernel_rfl) (fun b5 => ?_)
  refine RN.new (fun b => pt b) (.cells (ratC u b) 27 (0, 0)) k_ k_ (fun w => by kernel_rfl) (fun b6 => ?_)
  refine RN.new (fun b => pt b) (.cells (ivC (⟨saNil, saNil⟩ : RA) (⟨false, ([] : List Nat), ([] : List Nat)⟩ : Raw) (⟨saNil, saNil⟩ : RA) (⟨false, ([] : List Nat), ([] : List Nat)⟩ : Raw)) 38 (0, 0)) k_ k_ (fun w => by kernel_rfl) (fun b7 => ?_)
  refine RN.bq (no 1) [3, 4, 5, 6, 8] [] (k' := 5) (l' := [(3, .int .i64 bits), (4, pt b4), (5, pt b5), (6, pt b6), (8, pt b7)]) k_ ?_
  refine RN.fin k_ ?_
  refine J.seq ?_
  refine J.sreg ?_
  refine RN.bq [some 3, some 2, some 1, none] [3, 4, 5, 6, 8, 16, 17, 18, 19] [b6, b6, b6, b5, b5, b5, b4] (k' := 4) (l' := [(3, .int .i64 bits), (4, pt b4), (5, pt b5), (6, pt b6), (8, pt b7), (16, sl s ps.length), (17, ratV p c), (18, ratV u b), (19, .int .i64 bits)]) k_ ?_
  refine RN.call (m19_Check s ps p c u b bits y_m19_Scale y_m19_Scale) [0, 1, 2] k_ k_ k_ rfl (fun y8 _ => ?_)
  refine RN.bq (no 1) [3, 4, 5, 6, 8, 10] [] (k' := 6) (l' := [(3, .int .i64 bits), (4, pt b4), (5, pt b5), (6, pt b6), (8, pt b7), (10, .int .i64 (checkE ps.length (qv c) (qv b) bits))]) k_ ?_
  refine RN.fin k_ ?_
  refine J.sreg ?_
  refine RN.bq (no 2) [3, 4, 5, 6, 8, 10, 22] [] (k' := 2) (l' := [(3, .int .i64 bits), (4, pt b4), (5, pt b5), (6, pt b6), (8, pt b7), (10, .int .i64 (checkE ps.length (qv c) (qv b) bits)), (22, .bool (((checkE ps.length (qv c) (qv b) bits) : Int) != 0))]) k_ ?_
  refine RN.fin k_ ?_
  refine J.cond (((checkE ps.length (qv c) (qv b) bits) : Int) != 0) k_ (fun c9 => ?_) (fun c9 => ?_)
  · skip
    replace c9 := bne_iff_ne.1 c9
    have he := c9
    refine J.sreg ?_
    refine RN.bat [none, none, some 0, none] [8, 9] [b7, b7, b7, b7, b7, b7] (k' := 4) (l' := [(8, pt b7), (9, .int .i64 (checkE ps.length (qv c) (qv b) bits))]) (M' := [(b7, .cells (ivC (⟨saNil, saNil⟩ : RA) (⟨false, ([] : List Nat), ([] : List Nat)⟩ : Raw) (⟨saNil, saNil⟩ : RA) (⟨false, ([] : List Nat), ([] : List Nat)⟩ : Raw)) 38 (0, 0)), (b6, .cells (ratC u b) 27 (0, 0)), (b5, .cells (ratC p c) 27 (0, 0)), (b4, .cells #[sl s ps.length] 22 (0, 0))]) k_ ?_
    refine RN.fin k_ ?_
    have e_1 : encQ (0 : Rat) = (⟨false, ([] : List Nat), ([] : List Nat)⟩ : Raw) := encQ_zero
    have e_2 : encQ (0 : Rat) = (⟨false, ([] : List Nat), ([] : List Nat)⟩ : Raw) := encQ_zero
    refine J.also (fRat (⟨saNil, saNil⟩ : RA) (⟨false, ([] : List Nat), ([] : List Nat)⟩ : Raw)) (fun w h => ⟨fU_nil w, fU_nil w⟩) ?_
    refine J.ret (KR.next (KR.ret (v := .tuple #[.agg (ivC (⟨saNil, saNil⟩ : RA) (⟨false, ([] : List Nat), ([] : List Nat)⟩ : Raw) (⟨saNil, saNil⟩ : RA) (⟨false, ([] : List Nat), ([] : List Nat)⟩ : Raw)), .int .i64 (checkE ps.length (qv c) (qv b) bits)]) (⟨⟨saNil, saNil⟩, ⟨⟨saNil, saNil⟩, ⟨(0 : Rat), (0 : Rat)⟩⟩⟩) [some 0, none] [0, 0] [b7, b7, b7, b7, b7, b7] k_ v2_ (ScaleR_0 (.inl he)) v2_))
  · skip
    replace c9 := bne_eq_false_iff_eq.1 c9
    have he : checkE ps.length (qv c) (qv b) bits = 0 := by simpa using c9
    obtain ⟨hn0, hn1, hc0, hb0, hb1, ht0, ht1⟩ := checkE_0 he
    have hsq := Q_share (vals ps) hn1
    refine J.skip ?_
    refine KN.next ?_
    refine J.seq ?_
    refine J.seq ?_
    refine J.regD k_ [] ?_
    refine RD.bat k_ [(0, some 3), (2, some 1)] [3, 4, 5, 6, 8, 25, 27] [b6, b6, b6, b4] (L' := [2, 0]) (l' := [(3, .int .i64 bits), (4, pt b4), (5, pt b5), (6, pt b6), (8, pt b7), (25, sl s ps.length), (27, ratV u b)]) k_ ?_
    refine RD.call (i := 1) (m19_share s ps y_m19_Scale y_m19_Scale) [0] k_ k_ k_ k_ k_ rfl (fun y10 _ => ?_)
    refine RD.call (i := 3) (rational_Compare_c1 y10 (shareN (vals ps) ps.length) u b y_m19_Scale y_m19_Scale) [0, 3] k_ k_ k_ k_ k_ rfl (fun y11 _ => ?_)
    refine RD.bat k_ [(4, none)] [3, 4, 5, 6, 8, 29] [] (L' := [4, 3, 1, 2, 0]) (l' := [(3, .int .i64 bits), (4, pt b4), (5, pt b5), (6, pt b6), (8, pt b7), (29, .bool (decide ((cmpQ (shareN (vals ps) ps.length) (qv b)) ≤ 0)))]) k_ ?_
    refine RD.done k_ ?_
    refine KN.next ?_
    refine J.cond (decide ((cmpQ (shareN (vals ps) ps.length) (qv b)) ≤ 0)) k_ (fun c12 => ?_) (fun c12 => ?_)
    · skip
      replace c12 := of_decide_eq_true c12
      have hle : shareN (vals ps) ps.length ≤ qv b := Rat.not_lt.1 (cmpQ_le.1 c12)
      refine J.sreg ?_
      refine RN.bat [none, some 0, none] [8, 9] [b7, b7, b7, b7, b7, b7] (k' := 3) (l' := [(8, pt b7), (9, .int .i64 0)]) (M' := [(b7, .cells (ivC (⟨saNil, saNil⟩ : RA) (⟨false, ([] : List Nat), ([] : List Nat)⟩ : Raw) (⟨saNil, saNil⟩ : RA) (⟨false, ([] : List Nat), ([] : List Nat)⟩ : Raw)) 38 (0, 0)), (b6, .cells (ratC u b) 27 (0, 0)), (b5, .cells (ratC p c) 27 (0, 0)), (b4, .cells #[sl s ps.length] 22 (0, 0))]) k_ ?_
      refine RN.fin k_ ?_
      have e_1 : encQ (0 : Rat) = (⟨false, ([] : List Nat), ([] : List Nat)⟩ : Raw) := encQ_zero
      have e_2 : encQ (0 : Rat) = (⟨false, ([] : List Nat), ([] : List Nat)⟩ : Raw) := encQ_zero
      have e_3 : (checkE ps.length (qv c) (qv b) bits : Int) = (0 : Int) := by exact he
      refine J.also (fRat (⟨saNil, saNil⟩ : RA) (⟨false, ([] : List Nat), ([] : List Nat)⟩ : Raw)) (fun w h => ⟨fU_nil w, fU_nil w⟩) ?_
      refine J.ret (KR.next (KR.ret (v := .tuple #[.agg (ivC (⟨saNil, saNil⟩ : RA) (⟨false, ([] : List Nat), ([] : List Nat)⟩ : Raw) (⟨saNil, saNil⟩ : RA) (⟨false, ([] : List Nat), ([] : List Nat)⟩ : Raw)), .int .i64 0]) (⟨⟨saNil, saNil⟩, ⟨⟨saNil, saNil⟩, ⟨(0 : Rat), (0 : Rat)⟩⟩⟩) [some 0, none] [0, 0] [b7, b7, b7, b7, b7, b7] k_ v3_ (ScaleR_0 (.inr hle)) v3_))
    · skip
      replace c12 := of_decide_eq_false c12
      have hnle : ¬ shareN (vals ps) ps.length ≤ qv b := fun h => c12 (cmpQ_le.2 (Rat.not_lt.2 h))
      have hin : SIn (vals ps) ps.length (qv c) (qv b) bits := ⟨hn0, hn1, fun i hi => (hps i hi).2.2.2.2, hc, hc0, hb, hb0, Rat.not_le.1 hnle, ht0, ht1⟩
      refine J.skip ?_
      refine KN.next ?_
      refine J.sreg ?_
      refine RN.bq (no 2) [3, 4, 5, 8, 11] [] (k' := 2) (l' := [(3, .int .i64 bits), (4, pt b4), (5, pt b5), (8, pt b7), (11, .func (.func 56) #[] #[pt b4, pt b5, pt b6])]) k_ ?_
      refine RN.fin k_ ?_
      refine J.sreg ?_
      refine RN.bq [some 3, some 2] [3, 8, 11, 32, 33] [b5, b5, b5, b4] (k' := 2) (l' := [(3, .int .i64 bits), (8, pt b7), (11, .func (.func 56) #[] #[pt b4, pt b5, pt b6]), (32, sl s ps.length), (33, ratV p c)]) k_ ?_
      refine RN.call (m19_about s ps p c y_m19_Scale y_m19_Scale y_m19_Scale) [1, 2] k_ k_ k_ rfl (fun ab h13 => ?_)
      have hab := h13
      have hpq := (L1.start hab).Q
      refine RN.call (m19_power ab y_m19_Scale y_m19_Scale) [] k_ k_ k_ rfl (fun y14 _ => ?_)
      refine RN.new (fun b => pt b) (.cells (ratC (⟨saNil, saNil⟩ : RA) (⟨false, ([] : List Nat), ([] : List Nat)⟩ : Raw)) 27 (0, 0)) k_ k_ (fun w => by kernel_rfl) (fun b15 => ?_)
      refine RN.bat [some 0] [3, 8, 11, 12] [b15, b15, b15] (k' := 6) (l' := [(3, .int .i64 bits), (8, pt b7), (11, .func (.func 56) #[] #[pt b4, pt b5, pt b6]), (12, pt b15)]) (M' := [(b15, .cells (ratC y14 (encQ (P2 ab))) 27 (0, 0)), (b7, .cells (ivC (⟨saNil, saNil⟩ : RA) (⟨false, ([] : List Nat), ([] : List Nat)⟩ : Raw) (⟨saNil, saNil⟩ : RA) (⟨false, ([] : List Nat), ([] : List Nat)⟩ : Raw)) 38 (0, 0)), (b6, .cells (ratC u b) 27 (0, 0)), (b5, .cells (ratC p c) 27 (0, 0)), (b4, .cells #[sl s ps.length] 22 (0, 0))]) k_ ?_
      refine RN.fin k_ ?_
      refine J.seq ?_
      refine J.block ?_
      refine J.loop (ι := (Nat) × (RA) × (Rat)) (fun x => L1 ab x.1 x.2.2) (fun x => 14624 - x.1) (fun x => [(3, .int .i64 bits), (8, pt b7), (11, .func (.func 56) #[] #[pt b4, pt b5, pt b6]), (12, pt b15)]) (fun x => [(b15, .cells (ratC x.2.1 (encQ x.2.2)) 27 (0, 0)), (b7, .cells (ivC (⟨saNil, saNil⟩ : RA) (⟨false, ([] : List Nat), ([] : List Nat)⟩ : Raw) (⟨saNil, saNil⟩ : RA) (⟨false, ([] : List Nat), ([] : List Nat)⟩ : Raw)) 38 (0, 0)), (b6, .cells (ratC u b) 27 (0, 0)), (b5, .cells (ratC p c) 27 (0, 0)), (b4, .cells #[sl s ps.length] 22 (0, 0))]) (fun x => [fRat x.2.1 (encQ x.2.2), fRat y14 (encQ (P2 ab)), fRat y10 (encQ (shareN (vals ps) ps.length)), fRats s ps, fRat p c, fRat u b]) (0, y14, P2 ab) [3, 8, 11, 12] [0, 0, 1, 2, 3, 4] (L1.start hab) k_ (by first | rfl | (simp only [encQ_zero]; done) | (simp only [encQ_zero]; rfl)) (by rfl) (fun x16 hI => ?_)
      obtain ⟨i, ho, H⟩ := x16
      replace hI : L1 ab i H := hI
      have hHQ := L1.Q hI
      refine J.seq ?_
      refine J.sreg ?_
      refine RN.bq [none, some 0] [3, 8, 11, 12, 36, 37] [b15, b15, b15] (k' := 2) (l' := [(3, .int .i64 bits), (8, pt b7), (11, .func (.func 56) #[] #[pt b4, pt b5, pt b6]), (12, pt b15), (36, .func (.func 56) #[] #[pt b4, pt b5, pt b6]), (37, ratV ho (encQ H))]) k_ ?_
      refine RN.callM (m19_above ho H b4 b5 b6 s ps p c u b y_m19_Scale y_m19_Scale y_m19_Scale y_m19_Scale y_m19_Scale y_m19_Scale y_m19_Scale) [(b15, .cells (ratC ho (encQ H)) 27 (0, 0)), (b7, .cells (ivC (⟨saNil, saNil⟩ : RA) (⟨false, ([] : List Nat), ([] : List Nat)⟩ : Raw) (⟨saNil, saNil⟩ : RA) (⟨false, ([] : List Nat), ([] : List Nat)⟩ : Raw)) 38 (0, 0))] ([]) [0, 3, 4, 5] k_ k_ k_ rfl rfl (fun y17 _ => ?_)
      refine RN.fin k_ ?_
      refine J.cond (decide ((qv b) < meanN (vals ps) ps.length (qv c) H)) k_ (fun c18 => ?_) (fun c18 => ?_)
      · skip
        replace c18 := of_decide_eq_true c18
        have hst := L1.step hin hI c18
        refine J.skip ?_
        refine KN.next ?_
        refine J.block ?_
        refine J.regN ?_
        refine RN.bq [some 0] [3, 8, 11, 12, 39] [b15, b15, b15] (k' := 1) (l' := [(3, .int .i64 bits), (8, pt b7), (11, .func (.func 56) #[] #[pt b4, pt b5, pt b6]), (12, pt b15), (39, ratV ho (encQ H))]) k_ ?_
        refine RN.call (m19_double_c ho H y_m19_Scale) [0] k_ k_ k_ rfl (fun y19 _ => ?_)
        refine RN.bat [some 0] [3, 8, 11, 12] [b15, b15, b15] (k' := 3) (l' := [(3, .int .i64 bits), (8, pt b7), (11, .func (.func 56) #[] #[pt b4, pt b5, pt b6]), (12, pt b15)]) (M' := [(b15, .cells (ratC y19 (encQ (H + H))) 27 (0, 0)), (b7, .cells (ivC (⟨saNil, saNil⟩ : RA) (⟨false, ([] : List Nat), ([] : List Nat)⟩ : Raw) (⟨saNil, saNil⟩ : RA) (⟨false, ([] : List Nat), ([] : List Nat)⟩ : Raw)) 38 (0, 0)), (b6, .cells (ratC u b) 27 (0, 0)), (b5, .cells (ratC p c) 27 (0, 0)), (b4, .cells #[sl s ps.length] 22 (0, 0))]) k_ ?_
        refine RN.done k_ ?_
        refine KN.blk ?_
        refine KN.roundE (i + 1, y19, H + H) [3, 8, 11, 12] [0, 2, 3, 4, 5, 6] (l2 := [(3, .int .i64 bits), (8, pt b7), (11, .func (.func 56) #[] #[pt b4, pt b5, pt b6]), (12, pt b15)]) (by (try dsimp only); omega) (by (try dsimp only); exact hst.2) k_ (by rfl) (by rfl) (by rfl)
      · skip
        replace c18 := of_decide_eq_false c18
        have hna := c18
        have hH := L1.done hI
        refine J.exit (KX.next (KX.next (KX.hit ?_)))
        refine KN.next ?_
        refine J.sreg ?_
        refine RN.bq [some 0] [3, 8, 11, 12, 41] [b15, b15, b15] (k' := 1) (l' := [(3, .int .i64 bits), (8, pt b7), (11, .func (.func 56) #[] #[pt b4, pt b5, pt b6]), (12, pt b15), (41, ratV ho (encQ H))]) k_ ?_
        refine RN.call (m19_halve_c ho H y_m19_Scale) [0] k_ k_ k_ rfl (fun y20 _ => ?_)
        refine RN.new (fun b => pt b) (.cells (ratC (⟨saNil, saNil⟩ : RA) (⟨false, ([] : List Nat), ([] : List Nat)⟩ : Raw)) 27 (0, 0)) k_ k_ (fun w => by kernel_rfl) (fun b21 => ?_)
        refine RN.bat [some 0] [3, 8, 11, 12, 13] [b21, b21, b21] (k' := 4) (l' := [(3, .int .i64 bits), (8, pt b7), (11, .func (.func 56) #[] #[pt b4, pt b5, pt b6]), (12, pt b15), (13, pt b21)]) (M' := [(b21, .cells (ratC y20 (encQ (H / 2))) 27 (0, 0)), (b15, .cells (ratC ho (encQ H)) 27 (0, 0)), (b7, .cells (ivC (⟨saNil, saNil⟩ : RA) (⟨false, ([] : List Nat), ([] : List Nat)⟩ : Raw) (⟨saNil, saNil⟩ : RA) (⟨false, ([] : List Nat), ([] : List Nat)⟩ : Raw)) 38 (0, 0)), (b6, .cells (ratC u b) 27 (0, 0)), (b5, .cells (ratC p c) 27 (0, 0)), (b4, .cells #[sl s ps.length] 22 (0, 0))]) k_ ?_
        refine RN.fin k_ ?_
        refine J.seq ?_
        refine J.block ?_
        refine J.loop (ι := (Nat) × (RA) × (Rat) × (RA) × (Rat)) (fun x => L2 (vals ps) ps.length (qv c) (qv b) H x.1 x.2.2.1 x.2.2.2.2) (fun x => 27168 - x.1) (fun x => [(3, .int .i64 bits), (8, pt b7), (11, .func (.func 56) #[] #[pt b4, pt b5, pt b6]), (12, pt b15), (13, pt b21)]) (fun x => [(b21, .cells (ratC x.2.2.2.1 (encQ x.2.2.2.2)) 27 (0, 0)), (b15, .cells (ratC x.2.1 (encQ x.2.2.1)) 27 (0, 0)), (b7, .cells (ivC (⟨saNil, saNil⟩ : RA) (⟨false, ([] : List Nat), ([] : List Nat)⟩ : Raw) (⟨saNil, saNil⟩ : RA) (⟨false, ([] : List Nat), ([] : List Nat)⟩ : Raw)) 38 (0, 0)), (b6, .cells (ratC u b) 27 (0, 0)), (b5, .cells (ratC p c) 27 (0, 0)), (b4, .cells #[sl s ps.length] 22 (0, 0))]) (fun x => [fRat x.2.1 (encQ x.2.2.1), fRat x.2.2.2.1 (encQ x.2.2.2.2), fRat y20 (encQ (H / 2)), fRat ho (encQ H), fRat y14 (encQ (P2 ab)), fRat y10 (encQ (shareN (vals ps) ps.length)), fRats s ps, fRat p c, fRat u b]) (0, ho, H, y20, H / 2) [3, 8, 11, 12, 13] [1, 0, 0, 1, 2, 3, 4, 5, 6] (L2.start hna) k_ (by first | rfl | (simp only [encQ_zero]; done) | (simp only [encQ_zero]; rfl)) (by rfl) (fun x22 hJ => ?_)
        obtain ⟨j, ho2, U, lo, Lo⟩ := x22
        replace hJ : L2 (vals ps) ps.length (qv c) (qv b) H j U Lo := hJ
        have hUQ := L2.Q hJ hHQ
        refine J.seq ?_
        refine J.sreg ?_
        refine RN.bq [none, some 0] [3, 8, 11, 12, 13, 43, 44] [b21, b21, b21] (k' := 2) (l' := [(3, .int .i64 bits), (8, pt b7), (11, .func (.func 56) #[] #[pt b4, pt b5, pt b6]), (12, pt b15), (13, pt b21), (43, .func (.func 56) #[] #[pt b4, pt b5, pt b6]), (44, ratV lo (encQ Lo))]) k_ ?_
        refine RN.callM (m19_above lo Lo b4 b5 b6 s ps p c u b y_m19_Scale y_m19_Scale y_m19_Scale y_m19_Scale y_m19_Scale y_m19_Scale y_m19_Scale) [(b21, .cells (ratC lo (encQ Lo)) 27 (0, 0)), (b15, .cells (ratC ho2 (encQ U)) 27 (0, 0)), (b7, .cells (ivC (⟨saNil, saNil⟩ : RA) (⟨false, ([] : List Nat), ([] : List Nat)⟩ : Raw) (⟨saNil, saNil⟩ : RA) (⟨false, ([] : List Nat), ([] : List Nat)⟩ : Raw)) 38 (0, 0))] ([]) [1, 6, 7, 8] k_ k_ k_ rfl rfl (fun y23 _ => ?_)
        refine RN.bq (no 1) [3, 8, 11, 12, 13, 46] [] (k' := 4) (l' := [(3, .int .i64 bits), (8, pt b7), (11, .func (.func 56) #[] #[pt b4, pt b5, pt b6]), (12, pt b15), (13, pt b21), (46, .bool (!(decide ((qv b) < meanN (vals ps) ps.length (qv c) Lo))))]) k_ ?_
        refine RN.fin k_ ?_
        refine J.cond (!(decide ((qv b) < meanN (vals ps) ps.length (qv c) Lo))) k_ (fun c24 => ?_) (fun c24 => ?_)
        · skip
          replace c24 := of_decide_eq_false ((Bool.not_eq_true' _).mp c24)
          have hst := L2.step hin hH hJ c24
          refine J.skip ?_
          refine KN.next ?_
          refine J.block ?_
          refine J.regD k_ [3, 4] ?_
          refine RD.bat k_ [(0, some 0), (1, some 0)] [3, 8, 11, 12, 13, 47, 48] [b21, b21, b21, b21, b21, b21] (L' := [1, 0]) (l' := [(3, .int .i64 bits), (8, pt b7), (11, .func (.func 56) #[] #[pt b4, pt b5, pt b6]), (12, pt b15), (13, pt b21), (47, ratV lo (encQ Lo)), (48, ratV lo (encQ Lo))]) k_ ?_
          refine RD.call (i := 2) (m19_halve_c lo Lo y_m19_Scale) [1] k_ k_ k_ k_ k_ rfl (fun y25 _ => ?_)
          refine RD.last (i := 3) (some 1) [3, 8, 11, 12, 13, 49] [b15, b15, b15] k_ k_ k_ (l' := [(3, .int .i64 bits), (8, pt b7), (11, .func (.func 56) #[] #[pt b4, pt b5, pt b6]), (12, pt b15), (13, pt b21), (49, ratV y25 (encQ (Lo / 2)))]) (M' := [(b21, .cells (ratC lo (encQ Lo)) 27 (0, 0)), (b15, .cells (ratC lo (encQ Lo)) 27 (0, 0)), (b7, .cells (ivC (⟨saNil, saNil⟩ : RA) (⟨false, ([] : List Nat), ([] : List Nat)⟩ : Raw) (⟨saNil, saNil⟩ : RA) (⟨false, ([] : List Nat), ([] : List Nat)⟩ : Raw)) 38 (0, 0)), (b6, .cells (ratC u b) 27 (0, 0)), (b5, .cells (ratC p c) 27 (0, 0)), (b4, .cells #[sl s ps.length] 22 (0, 0))]) k_ ?_
          refine RD.last (i := 4) (some 0) [3, 8, 11, 12, 13] [b21, b21, b21] k_ k_ k_ (l' := [(3, .int .i64 bits), (8, pt b7), (11, .func (.func 56) #[] #[pt b4, pt b5, pt b6]), (12, pt b15), (13, pt b21)]) (M' := [(b21, .cells (ratC y25 (encQ (Lo / 2))) 27 (0, 0)), (b15, .cells (ratC lo (encQ Lo)) 27 (0, 0)), (b7, .cells (ivC (⟨saNil, saNil⟩ : RA) (⟨false, ([] : List Nat), ([] : List Nat)⟩ : Raw) (⟨saNil, saNil⟩ : RA) (⟨false, ([] : List Nat), ([] : List Nat)⟩ : Raw)) 38 (0, 0)), (b6, .cells (ratC u b) 27 (0, 0)), (b5, .cells (ratC p c) 27 (0, 0)), (b4, .cells #[sl s ps.length] 22 (0, 0))]) k_ ?_
          refine RD.done k_ ?_
          refine KN.blk ?_
          refine KN.roundE (j + 1, lo, Lo, y25, Lo / 2) [3, 8, 11, 12, 13] [2, 0, 3, 4, 5, 6, 7, 8, 9] (l2 := [(3, .int .i64 bits), (8, pt b7), (11, .func (.func 56) #[] #[pt b4, pt b5, pt b6]), (12, pt b15), (13, pt b21)]) (by (try dsimp only); omega) (by (try dsimp only); exact hst.2) k_ (by rfl) (by rfl) (by rfl)
        · skip
          replace c24 := of_decide_eq_true ((Bool.not_eq_false' _).mp c24)
          have hyes := c24
          refine J.exit (KX.next (KX.next (KX.hit ?_)))
          refine KN.next ?_
          refine J.sreg ?_
          refine RN.bq (no 2) [8, 11, 12, 13, 51] [] (k' := 2) (l' := [(8, pt b7), (11, .func (.func 56) #[] #[pt b4, pt b5, pt b6]), (12, pt b15), (13, pt b21), (51, .int .i64 (IntKind.i64.wrap (0 - bits)))]) k_ ?_
          rw [show IntKind.i64.wrap (0 - bits) = (-bits) from by rw [IntKind.wrap_i64]; omega]
          refine RN.call (m19_power (-bits) y_m19_Scale y_m19_Scale) [] k_ k_ k_ rfl (fun y26 _ => ?_)
          refine RN.new (fun b => pt b) (.cells (ratC (⟨saNil, saNil⟩ : RA) (⟨false, ([] : List Nat), ([] : List Nat)⟩ : Raw)) 27 (0, 0)) k_ k_ (fun w => by kernel_rfl) (fun b27 => ?_)
          refine RN.bat [some 0] [8, 11, 12, 13, 14] [b27, b27, b27] (k' := 5) (l' := [(8, pt b7), (11, .func (.func 56) #[] #[pt b4, pt b5, pt b6]), (12, pt b15), (13, pt b21), (14, pt b27)]) (M' := [(b27, .cells (ratC y26 (encQ (P2 (-bits)))) 27 (0, 0)), (b21, .cells (ratC lo (encQ Lo)) 27 (0, 0)), (b15, .cells (ratC ho2 (encQ U)) 27 (0, 0)), (b7, .cells (ivC (⟨saNil, saNil⟩ : RA) (⟨false, ([] : List Nat), ([] : List Nat)⟩ : Raw) (⟨saNil, saNil⟩ : RA) (⟨false, ([] : List Nat), ([] : List Nat)⟩ : Raw)) 38 (0, 0)), (b6, .cells (ratC u b) 27 (0, 0)), (b5, .cells (ratC p c) 27 (0, 0)), (b4, .cells #[sl s ps.length] 22 (0, 0))]) k_ ?_
          refine RN.fin k_ ?_
          refine J.seq ?_
          refine J.block ?_
          refine J.loop (ι := (Nat) × (Nat) × (RA) × (Rat) × (RA) × (Rat)) (fun x => L3 (vals ps) ps.length (qv c) (qv b) Lo bits x.1 x.2.1 x.2.2.2.1 x.2.2.2.2.2) (fun x => bits.toNat - x.2.1) (fun x => [(8, pt b7), (11, .func (.func 56) #[] #[pt b4, pt b5, pt b6]), (12, pt b15), (13, pt b21), (14, pt b27)]) (fun x => [(b27, .cells (ratC y26 (encQ (P2 (-bits)))) 27 (0, 0)), (b21, .cells (ratC x.2.2.2.2.1 (encQ x.2.2.2.2.2)) 27 (0, 0)), (b15, .cells (ratC x.2.2.1 (encQ x.2.2.2.1)) 27 (0, 0)), (b7, .cells (ivC (⟨saNil, saNil⟩ : RA) (⟨false, ([] : List Nat), ([] : List Nat)⟩ : Raw) (⟨saNil, saNil⟩ : RA) (⟨false, ([] : List Nat), ([] : List Nat)⟩ : Raw)) 38 (0, 0)), (b6, .cells (ratC u b) 27 (0, 0)), (b5, .cells (ratC p c) 27 (0, 0)), (b4, .cells #[sl s ps.length] 22 (0, 0))]) (fun x => [fRat x.2.2.1 (encQ x.2.2.2.1), fRat x.2.2.2.2.1 (encQ x.2.2.2.2.2), fRat y26 (encQ (P2 (-bits))), fRat ho2 (encQ U), fRat lo (encQ Lo), fRat y20 (encQ (H / 2)), fRat ho (encQ H), fRat y14 (encQ (P2 ab)), fRat y10 (encQ (shareN (vals ps) ps.length)), fRats s ps, fRat p c, fRat u b]) (1, 0, ho2, U, lo, Lo) [8, 11, 12, 13, 14] [1, 2, 0, 1, 2, 3, 4, 5, 6, 7, 8, 9] (L3.start hH.1 hHQ hJ hyes) k_ (by first | rfl | (simp only [encQ_zero]; done) | (simp only [encQ_zero]; rfl)) (by rfl) (fun x28 hK => ?_)
          obtain ⟨a, k, ho3, U3, lo3, L3v⟩ := x28
          replace hK : L3 (vals ps) ps.length (qv c) (qv b) Lo bits a k U3 L3v := hK
          obtain ⟨hQ1, hQ2, hQ3, hQ4⟩ := L3.Q hK hin.t0 hin.t1
          have hQ5 := hQ1.sub hQ2
          have hQ6 := hQ4.mul hQ1
          have hQ7 := hQ2.add hQ1
          refine J.seq ?_
          refine J.seq ?_
          refine J.regD k_ [] ?_
          refine RD.bat k_ [(0, some 2), (1, some 1), (3, some 0), (4, some 2)] [8, 11, 12, 13, 14, 53, 54, 56, 57] [b15, b15, b15, b27, b27, b27, b21, b21, b21, b15, b15, b15] (L' := [4, 3, 1, 0]) (l' := [(8, pt b7), (11, .func (.func 56) #[] #[pt b4, pt b5, pt b6]), (12, pt b15), (13, pt b21), (14, pt b27), (53, ratV ho3 (encQ U3)), (54, ratV lo3 (encQ L3v)), (56, ratV y26 (encQ (P2 (-bits)))), (57, ratV ho3 (encQ U3))]) k_ ?_
          refine RD.call (i := 2) (rational_Sub_c ho3 U3 lo3 L3v y_m19_Scale y_m19_Scale) [0, 1] k_ k_ k_ k_ k_ rfl (fun y29 _ => ?_)
          refine RD.call (i := 5) (rational_Mul_c y26 (P2 (-bits)) ho3 U3 y_m19_Scale y_m19_Scale) [3, 1] k_ k_ k_ k_ k_ rfl (fun y30 _ => ?_)
          refine RD.call (i := 6) (rational_Compare_c y29 (U3 - L3v) y30 ((P2 (-bits)) * U3) y_m19_Scale y_m19_Scale) [1, 0] k_ k_ k_ k_ k_ rfl (fun y31 _ => ?_)
          refine RD.bat k_ [(7, none)] [8, 11, 12, 13, 14, 60] [] (L' := [7, 6, 5, 2, 4, 3, 1, 0]) (l' := [(8, pt b7), (11, .func (.func 56) #[] #[pt b4, pt b5, pt b6]), (12, pt b15), (13, pt b21), (14, pt b27), (60, .bool (decide ((cmpQ (U3 - L3v) ((P2 (-bits)) * U3)) > 0)))]) k_ ?_
          refine RD.done k_ ?_
          refine KN.next ?_
          refine J.cond (decide ((cmpQ (U3 - L3v) ((P2 (-bits)) * U3)) > 0)) k_ (fun c32 => ?_) (fun c32 => ?_)
          · skip
            replace c32 := of_decide_eq_true c32
            have hkb := L3.less hK hin.t0 (cmpQ_gt.1 c32)
            refine J.skip ?_
            refine KN.next ?_
            refine J.block ?_
            refine J.sreg ?_
            refine RN.bq [some 1, some 2] [8, 11, 12, 13, 14, 61, 62] [b15, b15, b15, b21, b21, b21] (k' := 2) (l' := [(8, pt b7), (11, .func (.func 56) #[] #[pt b4, pt b5, pt b6]), (12, pt b15), (13, pt b21), (14, pt b27), (61, ratV lo3 (encQ L3v)), (62, ratV ho3 (encQ U3))]) k_ ?_
            refine RN.call (rational_Add_c lo3 L3v ho3 U3 y_m19_Scale y_m19_Scale) [3, 2] k_ k_ k_ rfl (fun y33 _ => ?_)
            refine RN.call (m19_halve_c y33 (L3v + U3) y_m19_Scale) [0] k_ k_ k_ rfl (fun y34 _ => ?_)
            refine RN.new (fun b => pt b) (.cells (ratC (⟨saNil, saNil⟩ : RA) (⟨false, ([] : List Nat), ([] : List Nat)⟩ : Raw)) 27 (0, 0)) k_ k_ (fun w => by kernel_rfl) (fun b35 => ?_)
            refine RN.bat [some 0] [8, 11, 12, 13, 14, 15] [b35, b35, b35] (k' := 6) (l' := [(8, pt b7), (11, .func (.func 56) #[] #[pt b4, pt b5, pt b6]), (12, pt b15), (13, pt b21), (14, pt b27), (15, pt b35)]) (M' := [(b35, .cells (ratC y34 (encQ ((L3v + U3) / 2))) 27 (0, 0)), (b27, .cells (ratC y26 (encQ (P2 (-bits)))) 27 (0, 0)), (b21, .cells (ratC lo3 (encQ L3v)) 27 (0, 0)), (b15, .cells (ratC ho3 (encQ U3)) 27 (0, 0)), (b7, .cells (ivC (⟨saNil, saNil⟩ : RA) (⟨false, ([] : List Nat), ([] : List Nat)⟩ : Raw) (⟨saNil, saNil⟩ : RA) (⟨false, ([] : List Nat), ([] : List Nat)⟩ : Raw)) 38 (0, 0)), (b6, .cells (ratC u b) 27 (0, 0)), (b5, .cells (ratC p c) 27 (0, 0)), (b4, .cells #[sl s ps.length] 22 (0, 0))]) k_ ?_
            refine RN.fin k_ ?_
            refine J.sreg ?_
            refine RN.bq [none, some 0] [8, 11, 12, 13, 14, 15, 65, 66] [b35, b35, b35] (k' := 2) (l' := [(8, pt b7), (11, .func (.func 56) #[] #[pt b4, pt b5, pt b6]), (12, pt b15), (13, pt b21), (14, pt b27), (15, pt b35), (65, .func (.func 56) #[] #[pt b4, pt b5, pt b6]), (66, ratV y34 (encQ ((L3v + U3) / 2)))]) k_ ?_
            refine RN.callM (m19_above y34 ((L3v + U3) / 2) b4 b5 b6 s ps p c u b y_m19_Scale y_m19_Scale y_m19_Scale y_m19_Scale y_m19_Scale y_m19_Scale y_m19_Scale) [(b35, .cells (ratC y34 (encQ ((L3v + U3) / 2))) 27 (0, 0)), (b27, .cells (ratC y26 (encQ (P2 (-bits)))) 27 (0, 0)), (b21, .cells (ratC lo3 (encQ L3v)) 27 (0, 0)), (b15, .cells (ratC ho3 (encQ U3)) 27 (0, 0)), (b7, .cells (ivC (⟨saNil, saNil⟩ : RA) (⟨false, ([] : List Nat), ([] : List Nat)⟩ : Raw) (⟨saNil, saNil⟩ : RA) (⟨false, ([] : List Nat), ([] : List Nat)⟩ : Raw)) 38 (0, 0))] ([]) [0, 13, 14, 15] k_ k_ k_ rfl rfl (fun y36 _ => ?_)
            refine RN.fin k_ ?_
            refine J.cond (decide ((qv b) < meanN (vals ps) ps.length (qv c) ((L3v + U3) / 2))) k_ (fun c37 => ?_) (fun c37 => ?_)
            · skip
              replace c37 := of_decide_eq_true c37
              have hup := L3.up hK hkb c37
              refine J.regN ?_
              refine RN.bat [some 0, some 2] [8, 11, 12, 13, 14] [b21, b21, b21, b35, b35, b35] (k' := 2) (l' := [(8, pt b7), (11, .func (.func 56) #[] #[pt b4, pt b5, pt b6]), (12, pt b15), (13, pt b21), (14, pt b27)]) (M' := [(b35, .cells (ratC y34 (encQ ((L3v + U3) / 2))) 27 (0, 0)), (b27, .cells (ratC y26 (encQ (P2 (-bits)))) 27 (0, 0)), (b21, .cells (ratC y34 (encQ ((L3v + U3) / 2))) 27 (0, 0)), (b15, .cells (ratC ho3 (encQ U3)) 27 (0, 0)), (b7, .cells (ivC (⟨saNil, saNil⟩ : RA) (⟨false, ([] : List Nat), ([] : List Nat)⟩ : Raw) (⟨saNil, saNil⟩ : RA) (⟨false, ([] : List Nat), ([] : List Nat)⟩ : Raw)) 38 (0, 0)), (b6, .cells (ratC u b) 27 (0, 0)), (b5, .cells (ratC p c) 27 (0, 0)), (b4, .cells #[sl s ps.length] 22 (0, 0))]) k_ ?_
              refine RN.done k_ ?_
              refine KN.blk ?_
              refine KN.dropF 1 ?_
              refine KN.roundE (2 * a + 1, k + 1, ho3, U3, y34, (L3v + U3) / 2) [8, 11, 12, 13, 14] [4, 0, 6, 7, 8, 9, 10, 11, 12, 13, 14, 15] (l2 := [(8, pt b7), (11, .func (.func 56) #[] #[pt b4, pt b5, pt b6]), (12, pt b15), (13, pt b21), (14, pt b27)]) (by (try dsimp only); omega) (by (try dsimp only); exact hup) k_ (by rfl) (by rfl) (by rfl)
            · skip
              replace c37 := of_decide_eq_false c37
              have hdn := L3.down hK hkb c37
              refine J.regN ?_
              refine RN.bat [some 0, some 3] [8, 11, 12, 13, 14] [b15, b15, b15, b35, b35, b35] (k' := 2) (l' := [(8, pt b7), (11, .func (.func 56) #[] #[pt b4, pt b5, pt b6]), (12, pt b15), (13, pt b21), (14, pt b27)]) (M' := [(b35, .cells (ratC y34 (encQ ((L3v + U3) / 2))) 27 (0, 0)), (b27, .cells (ratC y26 (encQ (P2 (-bits)))) 27 (0, 0)), (b21, .cells (ratC lo3 (encQ L3v)) 27 (0, 0)), (b15, .cells (ratC y34 (encQ ((L3v + U3) / 2))) 27 (0, 0)), (b7, .cells (ivC (⟨saNil, saNil⟩ : RA) (⟨false, ([] : List Nat), ([] : List Nat)⟩ : Raw) (⟨saNil, saNil⟩ : RA) (⟨false, ([] : List Nat), ([] : List Nat)⟩ : Raw)) 38 (0, 0)), (b6, .cells (ratC u b) 27 (0, 0)), (b5, .cells (ratC p c) 27 (0, 0)), (b4, .cells #[sl s ps.length] 22 (0, 0))]) k_ ?_
              refine RN.done k_ ?_
              refine KN.blk ?_
              refine KN.dropF 1 ?_
              refine KN.roundE (2 * a, k + 1, y34, (L3v + U3) / 2, lo3, L3v) [8, 11, 12, 13, 14] [0, 5, 6, 7, 8, 9, 10, 11, 12, 13, 14, 15] (l2 := [(8, pt b7), (11, .func (.func 56) #[] #[pt b4, pt b5, pt b6]), (12, pt b15), (13, pt b21), (14, pt b27)]) (by (try dsimp only); omega) (by (try dsimp only); exact hdn) k_ (by rfl) (by rfl) (by rfl)
          · skip
            replace c32 := of_decide_eq_false c32
            have hdone := L3.done hK hin.t0 hin.t1 (mt cmpQ_gt.2 c32)
            refine J.exit (KX.next (KX.next (KX.hit ?_)))
            refine KN.next ?_
            refine J.sreg ?_
            refine RN.bat [some 1, some 2, none, some 3, none] [8, 9] [b7, b7, b7, b7, b7, b7, b15, b15, b15, b21, b21, b21] (k' := 5) (l' := [(8, pt b7), (9, .int .i64 0)]) (M' := [(b27, .cells (ratC y26 (encQ (P2 (-bits)))) 27 (0, 0)), (b21, .cells (ratC lo3 (encQ L3v)) 27 (0, 0)), (b15, .cells (ratC ho3 (encQ U3)) 27 (0, 0)), (b7, .cells (ivC lo3 (encQ L3v) ho3 (encQ U3)) 38 (0, 0)), (b6, .cells (ratC u b) 27 (0, 0)), (b5, .cells (ratC p c) 27 (0, 0)), (b4, .cells #[sl s ps.length] 22 (0, 0))]) k_ ?_
            refine RN.fin k_ ?_
            have e_1 : (checkE ps.length (qv c) (qv b) bits : Int) = (0 : Int) := by exact he
            refine J.ret (KR.ret (v := .tuple #[.agg (ivC lo3 (encQ L3v) ho3 (encQ U3)), .int .i64 0]) (⟨lo3, ⟨ho3, ⟨(L3v : Rat), (U3 : Rat)⟩⟩⟩) [some 3, none] [3, 2] [b7, b7, b7, b7, b7, b7] k_ v1_ (ScaleR_ok he hnle hdone) v1_)
theorem m19_Scale_c (s : SA) (ps : List PR) (p : RA) (c' : Rat) (u : RA) (b' : Rat) (bits : Int) (hps : ∀ i, i < ps.length → RQ 64 (ps.getD i pr0).2) (hcR : Q 268435456 c') (hbR : Q 268435456 b') (hc : Q 64 c') (hb : Q 64 b') : Spec Tryz.prog 18 #[sl s ps.length, ratV p (encQ c'), ratV u (encQ b'), .int .i64 bits] [fRats s ps, fRat p (encQ c'), fRat u (encQ b')] (ι := RA × RA × Rat × Rat) (fun y => .tuple #[.agg (ivC y.1 (encQ y.2.2.1) y.2.1 (encQ y.2.2.2)), .int .i64 (checkE ps.length c' b' bits)]) (fun y => ScaleR (vals ps) ps.length c' b' bits y.2.2.1 y.2.2.2) (fun y => [fRat y.1 (encQ y.2.2.1), fRat y.2.1 (encQ y.2.2.2)]) := by
  have H := m19_Scale s ps p (encQ c') u (encQ b') bits (by first | exact hps | simpa only [qv_encQ, qv_encQ] using hps) (RQ_enc hcR) (RQ_enc hbR) (by first | exact hc | simpa only [qv_encQ, qv_encQ] using hc) (by first | exact hb | simpa only [qv_encQ, qv_encQ] using hb)
  first | exact H | (simp only [qv_encQ, validQ_encQ] at H; exact H)
end Go.Proofs.YtegnonhgildhoaaGreat.E
/- Plain laws of the scale: order, growth, scaling. -/
namespace Go.Proofs.YtegnonhgildhoaaGreat.E
set_option linter.unusedVariables false
set_option linter.unusedSimpArgs false
/-- What is above lies below what is not. -/
theorem above_lt {x : Nat → Rat} {n : Nat} {c b s t : Rat} (hc : 0 < c) (ht : 0 < t) (h1 : b < meanN x n c s) (h2 : meanN x n c t ≤ b) : s < t := by
  apply Rat.not_le.1
  intro h
  have := mean_anti (x := x) (n := n) hc ht h
  grind
end Go.Proofs.YtegnonhgildhoaaGreat.E
namespace Go.Proofs.YtegnonhgildhoaaGreat.E
open Go Go.RowKit
set_option linter.unusedVariables false
set_option linter.unusedSimpArgs false
theorem ScaleR.Q {x : Nat → Rat} {n : Nat} {c b : Rat} {bits : Int} {l h : Rat} (hs : ScaleR x n c b bits l h) : E.Q 2000 l ∧ E.Q 2000 h := by
  unfold ScaleR at hs
  split at hs
  · rw [hs.1, hs.2]; exact ⟨Q.le Q0 (by decide), Q.le Q0 (by decide)⟩
  · exact ⟨hs.qlo, hs.qhi⟩
end Go.Proofs.YtegnonhgildhoaaGreat.E
namespace Go.Proofs.YtegnonhgildhoaaGreat.E
open Go Go.RowKit
set_option linter.unusedVariables false
set_option linter.unusedSimpArgs false
theorem rho_at1 : rhoQ 1 = 1 := by
  unfold rhoQ
  rw [if_neg (by decide +kernel), if_neg (by decide +kernel)]
  decide +kernel
theorem rho_ge {u : Rat} (h0 : ¬ u < 0) (h : ¬ u < 1) : rhoQ u = 1 := by
  by_cases h1 : 1 < u
  · unfold rhoQ; rw [if_neg h0, if_pos h1]
  · have : u = 1 := Rat.le_antisymm (Rat.not_lt.1 h1) (Rat.not_lt.1 h)
    rw [this, rho_at1]
theorem rho_lt {u : Rat} (h0 : ¬ u < 0) (h : u < 1) : rhoQ u = 1 - (1 - u) * ((1 - u) * (1 - u)) := by
  unfold rhoQ; rw [if_neg h0, if_neg (Rat.not_lt.2 (Rat.le_of_lt h))]
theorem r19_one : Spec Tryz.prog 52 #[] [] (ι := RA) (fun y => ratV y (encQ (1 : Rat))) (fun y => True) (fun y => [fRat y (encQ (1 : Rat))]) := by
  refine Spec.of_body _ (fn := Tryz.f52) k_ rfl k_ (fun X w0 => ?_)
  refine J.sreg ?_
  refine RN.new (fun b => pt b) (.cells (ratC (⟨saNil, saNil⟩ : RA) (⟨false, ([] : List Nat), ([] : List Nat)⟩ : Raw)) 27 (0, 0)) k_ k_ (fun w => by kernel_rfl) (fun b1 => ?_)
  refine RN.fin k_ ?_
  refine J.sreg ?_
  refine RN.call (r03_FromInt 1 y_ y_) [] k_ k_ k_ rfl (fun y2 _ => ?_)
  refine RN.bat [some 0] [0] [b1, b1, b1] (k' := 2) (l' := [(0, pt b1)]) (M' := [(b1, .cells (ratC y2 (encQ ((1 : Int) : Rat))) 27 (0, 0))]) k_ ?_
  refine RN.fin k_ ?_
  have e_1 : (encQ (1 : Rat)) = (encQ ((1 : Int) : Rat)) := by rfl
  refine J.ret (KR.ret (v := ratV y2 (encQ ((1 : Int) : Rat))) (y2) [some 0] [0] [b1, b1, b1] k_ v1_ (trivial) v1_)
theorem y_r19_Rho {p : Prop} (h : p := by first | assumption | exact Lb_toL _ | omega | (simp; done) | first | exact RQ_enc Q1 | exact Q.le Q1 (by decide) | (apply Q.le; (case h => (repeat' (first | assumption | exact Q1 | apply Q.sub | apply Q.add | apply Q.mul | apply Q.neg))); (case hab => omega)) | (refine RQ_enc ?_; (apply Q.le; (case h => (repeat' (first | assumption | exact Q1 | apply Q.sub | apply Q.add | apply Q.mul | apply Q.neg))); (case hab => omega)))) : p := h
theorem r19_Rho (p : RA) (r : Raw) (hr : RQ 268435456 r) (hs : Q 16777216 (qv r)) : Spec Tryz.prog 17 #[ratV p r] [fRat p r] (ι := RA) (fun y => ratV y (encQ (rhoQ (qv r)))) (fun y => True) (fun y => [fRat y (encQ (rhoQ (qv r)))]) := by
  refine Spec.of_body _ (fn := Tryz.f17) k_ rfl k_ (fun X w0 => ?_)
  refine J.fact (φ := r.mag.length ≤ 140737488355328 ∧ r.den.length ≤ 140737488355328) (fun w h => by have h1 := (h _ (.head _)).1.1; have h2 := (h _ (.head _)).2.1; omega) (fun hl1 => ?_)
  refine J.sreg ?_
  refine RN.new (fun b => pt b) (.cells (ratC p r) 27 (0, 0)) k_ k_ (fun w => by kernel_rfl) (fun b2 => ?_)
  refine RN.new (fun b => pt b) (.cells (ratC (⟨saNil, saNil⟩ : RA) (⟨false, ([] : List Nat), ([] : List Nat)⟩ : Raw)) 27 (0, 0)) k_ k_ (fun w => by kernel_rfl) (fun b3 => ?_)
  refine RN.fin k_ ?_
  refine J.seq ?_
  refine J.sreg ?_
  refine RN.bq [some 1] [1, 2, 4] [b2, b2, b2] (k' := 1) (l' := [(1, pt b2), (2, pt b3), (4, ratV p r)]) k_ ?_
  refine RN.call (r03_Sign p r y_r19_Rho) [0] k_ k_ k_ rfl (fun y4 _ => ?_)
  refine RN.bq (no 1) [1, 2, 6] [] (k' := 3) (l' := [(1, pt b2), (2, pt b3), (6, .bool (decide ((Int.sign ((qv r).num)) < 0)))]) k_ ?_
  refine RN.fin k_ ?_
  refine J.cond (decide ((Int.sign ((qv r).num)) < 0)) k_ (fun c5 => ?_) (fun c5 => ?_)
  · skip
    replace c5 := of_decide_eq_true c5
    refine J.sreg ?_
    refine RN.bat [none, some 0] [2] [b3, b3, b3] (k' := 2) (l' := [(2, pt b3)]) (M' := [(b3, .cells (ratC (⟨saNil, saNil⟩ : RA) (⟨false, ([] : List Nat), ([] : List Nat)⟩ : Raw)) 27 (0, 0)), (b2, .cells (ratC p r) 27 (0, 0))]) k_ ?_
    refine RN.fin k_ ?_
    have e_1 : (encQ (rhoQ (qv r))) = (⟨false, ([] : List Nat), ([] : List Nat)⟩ : Raw) := by rw [rhoQ, if_pos (sign_lt.1 ‹_›), encQ_zero]
    have e_2 : (toL (((rhoQ (qv r)).num).natAbs)) = ([] : List Nat) := congrArg Raw.mag e_1
    have e_3 : (toD ((rhoQ (qv r)).den)) = ([] : List Nat) := congrArg Raw.den e_1
    refine J.also (fRat (⟨saNil, saNil⟩ : RA) (⟨false, ([] : List Nat), ([] : List Nat)⟩ : Raw)) (fun w h => ⟨fU_nil w, fU_nil w⟩) ?_
    refine J.ret (KR.next (KR.ret (v := ratV (⟨saNil, saNil⟩ : RA) (⟨false, ([] : List Nat), ([] : List Nat)⟩ : Raw)) (⟨saNil, saNil⟩) [some 0] [0] [b3, b3, b3] k_ (by first | rfl | (rw [e_1]; done) | (simp only [e_1]; done) | (rw [e_2, e_3]; done) | (rw [e_1, e_2, e_3]; rfl) | (simp only [e_1, e_2, e_3]; done) | (simp only [e_1, e_2, e_3]; rfl)) (trivial) (by first | rfl | (rw [e_1]; done) | (simp only [e_1]; done) | (rw [e_2, e_3]; done) | (rw [e_1, e_2, e_3]; rfl) | (simp only [e_1, e_2, e_3]; done) | (simp only [e_1, e_2, e_3]; rfl))))
  · skip
    replace c5 := of_decide_eq_false c5
    refine J.skip ?_
    refine KN.next ?_
    refine J.seq ?_
    refine J.seq ?_
    refine J.regD k_ [] ?_
    refine RD.bat k_ [(0, some 1)] [1, 2, 8] [b2, b2, b2] (L' := [0]) (l' := [(1, pt b2), (2, pt b3), (8, ratV p r)]) k_ ?_
    refine RD.call (i := 1) (r19_one) [] k_ k_ k_ k_ k_ rfl (fun y6 _ => ?_)
    refine RD.call (i := 2) (r03_Less_c2 p r y6 (1 : Rat) y_r19_Rho y_r19_Rho y_r19_Rho) [1, 0] k_ k_ k_ k_ k_ rfl (fun y7 _ => ?_)
    refine RD.bat k_ [(3, none)] [1, 2, 11] [] (L' := [3, 2, 1, 0]) (l' := [(1, pt b2), (2, pt b3), (11, .bool (!(decide ((qv r) < (1 : Rat)))))]) k_ ?_
    refine RD.done k_ ?_
    refine KN.next ?_
    refine J.cond (!(decide ((qv r) < (1 : Rat)))) k_ (fun c8 => ?_) (fun c8 => ?_)
    · skip
      replace c8 := of_decide_eq_false ((Bool.not_eq_true' _).mp c8)
      have hl : ¬ (qv r) < 1 := by simpa using c8
      refine J.sreg ?_
      refine RN.call (r19_one) [] k_ k_ k_ rfl (fun y9 _ => ?_)
      refine RN.bat [some 0] [2] [b3, b3, b3] (k' := 2) (l' := [(2, pt b3)]) (M' := [(b3, .cells (ratC y9 (encQ (1 : Rat))) 27 (0, 0)), (b2, .cells (ratC p r) 27 (0, 0))]) k_ ?_
      refine RN.fin k_ ?_
      have e_1 : (encQ (rhoQ (qv r))) = (encQ (1 : Rat)) := by rw [rho_ge (mt sign_lt.2 ‹_›) hl]
      refine J.ret (KR.next (KR.ret (v := ratV y9 (encQ (1 : Rat))) (y9) [some 0] [0] [b3, b3, b3] k_ v1_ (trivial) v1_))
    · skip
      replace c8 := of_decide_eq_true ((Bool.not_eq_false' _).mp c8)
      have hl : (qv r) < 1 := by simpa using c8
      refine J.skip ?_
      refine KN.next ?_
      refine J.seqC (ι := (RA) × (RA) × (Nat)) (fun x => True) (fun x => [(2, pt b3), (3, .pointer (some ⟨x.2.2, 0, none⟩))]) (fun x => [(x.2.2, .cells (ratC x.2.1 (encQ ((1 : Rat) - (qv r)))) 27 (0, 0)), (b3, .cells (ratC (⟨saNil, saNil⟩ : RA) (⟨false, ([] : List Nat), ([] : List Nat)⟩ : Raw)) 27 (0, 0)), (b2, .cells (ratC p r) 27 (0, 0))]) (fun x => [fRat x.2.1 (encQ ((1 : Rat) - (qv r))), fRat x.1 (encQ (1 : Rat)), fRat y6 (encQ (1 : Rat)), fRat p r]) ?_ ?_
      · skip
        refine J.regD k_ [4] ?_
        refine RD.bat k_ [(1, some 1)] [2, 14] [b2, b2, b2] (L' := [1]) (l' := [(2, pt b3), (14, ratV p r)]) k_ ?_
        refine RD.forkL (is := [0, 3]) k_ rfl k_ ⟨?_, ?_, trivial⟩
        · skip
          refine RDi.call (i := 0) (r19_one) [] k_ k_ k_ k_ rfl (fun y10 _ => ?_)
          refine RD.forkL (is := [2, 3]) k_ rfl k_ ⟨?_, ?_, trivial⟩
          · skip
            refine RDi.call (i := 2) (r03_Sub_c1 y10 (1 : Rat) p r y_r19_Rho y_r19_Rho) [0, 2] k_ k_ k_ k_ rfl (fun y11 _ => ?_)
            refine RD.new (i := 3) (fun b => pt b) (.cells (ratC (⟨saNil, saNil⟩ : RA) (⟨false, ([] : List Nat), ([] : List Nat)⟩ : Raw)) 27 (0, 0)) k_ k_ k_ k_ (fun w => by kernel_rfl) (fun b12 => ?_)
            refine RD.last (i := 4) (some 0) [2, 3] [b12, b12, b12] k_ k_ k_ (l' := [(2, pt b3), (3, pt b12)]) (M' := [(b12, .cells (ratC y11 (encQ ((1 : Rat) - (qv r)))) 27 (0, 0)), (b3, .cells (ratC (⟨saNil, saNil⟩ : RA) (⟨false, ([] : List Nat), ([] : List Nat)⟩ : Raw)) 27 (0, 0)), (b2, .cells (ratC p r) 27 (0, 0))]) k_ ?_
            refine RD.done k_ ?_
            refine KN.meet (y10, y11, b12) [2, 3] [0, 1, 2, 3] (l2 := [(2, pt b3), (3, pt b12)]) (by exact trivial) k_ (by rfl) (by rfl) (by rfl)
          · skip
            refine RDi.new (i := 3) (fun b => pt b) (.cells (ratC (⟨saNil, saNil⟩ : RA) (⟨false, ([] : List Nat), ([] : List Nat)⟩ : Raw)) 27 (0, 0)) k_ k_ k_ (fun w => by kernel_rfl) (fun b13 => ?_)
            refine RD.call (i := 2) (r03_Sub_c1 y10 (1 : Rat) p r y_r19_Rho y_r19_Rho) [0, 2] k_ k_ k_ k_ k_ rfl (fun y14 _ => ?_)
            refine RD.last (i := 4) (some 0) [2, 3] [b13, b13, b13] k_ k_ k_ (l' := [(2, pt b3), (3, pt b13)]) (M' := [(b13, .cells (ratC y14 (encQ ((1 : Rat) - (qv r)))) 27 (0, 0)), (b3, .cells (ratC (⟨saNil, saNil⟩ : RA) (⟨false, ([] : List Nat), ([] : List Nat)⟩ : Raw)) 27 (0, 0)), (b2, .cells (ratC p r) 27 (0, 0))]) k_ ?_
            refine RD.done k_ ?_
            refine KN.meet (y10, y14, b13) [2, 3] [0, 1, 2, 3] (l2 := [(2, pt b3), (3, pt b13)]) (by exact trivial) k_ (by rfl) (by rfl) (by rfl)
        · skip
          refine RDi.new (i := 3) (fun b => pt b) (.cells (ratC (⟨saNil, saNil⟩ : RA) (⟨false, ([] : List Nat), ([] : List Nat)⟩ : Raw)) 27 (0, 0)) k_ k_ k_ (fun w => by kernel_rfl) (fun b15 => ?_)
          refine RD.call (i := 0) (r19_one) [] k_ k_ k_ k_ k_ rfl (fun y16 _ => ?_)
          refine RD.call (i := 2) (r03_Sub_c1 y16 (1 : Rat) p r y_r19_Rho y_r19_Rho) [0, 2] k_ k_ k_ k_ k_ rfl (fun y17 _ => ?_)
          refine RD.last (i := 4) (some 0) [2, 3] [b15, b15, b15] k_ k_ k_ (l' := [(2, pt b3), (3, pt b15)]) (M' := [(b15, .cells (ratC y17 (encQ ((1 : Rat) - (qv r)))) 27 (0, 0)), (b3, .cells (ratC (⟨saNil, saNil⟩ : RA) (⟨false, ([] : List Nat), ([] : List Nat)⟩ : Raw)) 27 (0, 0)), (b2, .cells (ratC p r) 27 (0, 0))]) k_ ?_
          refine RD.done k_ ?_
          refine KN.meet (y16, y17, b15) [2, 3] [0, 1, 2, 3] (l2 := [(2, pt b3), (3, pt b15)]) (by exact trivial) k_ (by rfl) (by rfl) (by rfl)
      · skip
        intro x18 hx19
        obtain ⟨y10, y11, b12⟩ := x18
        replace hx19 : True := hx19
        refine J.seq ?_
        refine J.regD k_ [7] ?_
        refine RD.bat k_ [(1, some 0), (2, some 0), (3, some 0)] [2, 17, 18, 19] [b12, b12, b12, b12, b12, b12, b12, b12, b12] (L' := [3, 2, 1]) (l' := [(2, pt b3), (17, ratV y11 (encQ ((1 : Rat) - (qv r)))), (18, ratV y11 (encQ ((1 : Rat) - (qv r)))), (19, ratV y11 (encQ ((1 : Rat) - (qv r))))]) k_ ?_
        refine RD.call (i := 0) (r19_one) [] k_ k_ k_ k_ k_ rfl (fun y20 _ => ?_)
        refine RD.call (i := 4) (r03_Mul_c y11 ((1 : Rat) - (qv r)) y11 ((1 : Rat) - (qv r)) y_r19_Rho y_r19_Rho) [1, 1] k_ k_ k_ k_ k_ rfl (fun y21 _ => ?_)
        refine RD.call (i := 5) (r03_Mul_c y11 ((1 : Rat) - (qv r)) y21 (((1 : Rat) - (qv r)) * ((1 : Rat) - (qv r))) y_r19_Rho y_r19_Rho) [2, 0] k_ k_ k_ k_ k_ rfl (fun y22 _ => ?_)
        refine RD.call (i := 6) (r03_Sub_c y20 (1 : Rat) y22 (((1 : Rat) - (qv r)) * (((1 : Rat) - (qv r)) * ((1 : Rat) - (qv r)))) y_r19_Rho y_r19_Rho) [2, 0] k_ k_ k_ k_ k_ rfl (fun y23 _ => ?_)
        refine RD.last (i := 7) (some 1) [2] [b3, b3, b3] k_ k_ k_ (l' := [(2, pt b3)]) (M' := [(b12, .cells (ratC y11 (encQ ((1 : Rat) - (qv r)))) 27 (0, 0)), (b3, .cells (ratC y23 (encQ ((1 : Rat) - (((1 : Rat) - (qv r)) * (((1 : Rat) - (qv r)) * ((1 : Rat) - (qv r))))))) 27 (0, 0)), (b2, .cells (ratC p r) 27 (0, 0))]) k_ ?_
        refine RD.done k_ ?_
        refine KN.next ?_
        have e_1 : (encQ (rhoQ (qv r))) = (encQ ((1 : Rat) - (((1 : Rat) - (qv r)) * (((1 : Rat) - (qv r)) * ((1 : Rat) - (qv r)))))) := by rw [rho_lt (mt sign_lt.2 ‹_›) hl]
        refine J.ret (KR.ret (v := ratV y23 (encQ ((1 : Rat) - (((1 : Rat) - (qv r)) * (((1 : Rat) - (qv r)) * ((1 : Rat) - (qv r))))))) (y23) [some 1] [0] [b3, b3, b3] k_ v1_ (trivial) v1_)
theorem r19_Rho_c (p : RA) (r' : Rat) (hr : Q 268435456 r') (hs : Q 16777216 r') : Spec Tryz.prog 17 #[ratV p (encQ r')] [fRat p (encQ r')] (ι := RA) (fun y => ratV y (encQ (rhoQ r'))) (fun y => True) (fun y => [fRat y (encQ (rhoQ r'))]) := by
  have H := r19_Rho p (encQ r') (RQ_enc hr) (by first | exact hs | simpa only [qv_encQ] using hs)
  first | exact H | (simp only [qv_encQ, validQ_encQ] at H; exact H)
theorem int_ne {v : Int} (h : v ≠ 0) : (v : Rat) ≠ 0 := fun e => h (by have := congrArg Rat.num e; simpa using this)
theorem mul_ne_of_pos {a b : Rat} (ha : 0 < a) (hb : 0 < b) : a * b ≠ 0 := fun h => by
  have := Rat.mul_pos ha hb
  rw [h] at this
  exact absurd this (Rat.lt_irrefl)
theorem y_r19_mean {p : Prop} (h : p := by first | assumption | exact Lb_toL _ | omega | (simp; done) | first | exact Q.le hc (by decide) | exact Q.le hs (by decide) | exact Q.le hx1 (by decide) | exact Q.le hx2 (by decide) | exact Q.le hx3 (by decide) | exact Q.le hx4 (by decide) | exact Q.le (Q_int (by omega)) (by decide) | exact Q.le (hc.mul hs) (by decide) | exact int_ne (by omega)) : p := h
theorem r19_mean (s : SA) (ps : List PR) (p : RA) (c : Raw) (u : RA) (t : Raw) (hps : ∀ i, i < ps.length → RQ 64 (ps.getD i pr0).2) (hcR : RQ 268435456 c) (htR : RQ 268435456 t) (hc : Q 64 (qv c)) (hs : Q 65536 (qv t)) (hn : ps.length ≤ 1024) (hn0 : 0 < ps.length) (hcs : (qv c) * (qv t) ≠ 0) : Spec Tryz.prog 44 #[sl s ps.length, ratV p c, ratV u t] [fRats s ps, fRat p c, fRat u t] (ι := RA) (fun y => ratV y (encQ (sumTo (meanT (qv c) (qv t)) ps ps.length / ((((ps.length : Nat) : Int)) : Rat)))) (fun y => True) (fun y => [fRat y (encQ (sumTo (meanT (qv c) (qv t)) ps ps.length / ((((ps.length : Nat) : Int)) : Rat)))]) := by
  refine Spec.of_body _ (fn := Tryz.f44) k_ rfl k_ (fun X w0 => ?_)
  refine J.fact (φ := ps.length ≤ 140737488355328) (fun w h => by have := (h _ (.head _)).1; omega) (fun hl1 => ?_)
  refine J.fact (φ := c.mag.length ≤ 140737488355328 ∧ c.den.length ≤ 140737488355328) (fun w h => by have h1 := (h _ (.tail _ ((.head _)))).1.1; have h2 := (h _ (.tail _ ((.head _)))).2.1; omega) (fun hl2 => ?_)
  refine J.fact (φ := t.mag.length ≤ 140737488355328 ∧ t.den.length ≤ 140737488355328) (fun w h => by have h1 := (h _ (.tail _ ((.tail _ ((.head _)))))).1.1; have h2 := (h _ (.tail _ ((.tail _ ((.head _)))))).2.1; omega) (fun hl3 => ?_)
  refine J.sreg ?_
  refine RN.new (fun b => pt b) (.cells (ratC p c) 27 (0, 0)) k_ k_ (fun w => by kernel_rfl) (fun b4 => ?_)
  refine RN.new (fun b => pt b) (.cells (ratC u t) 27 (0, 0)) k_ k_ (fun w => by kernel_rfl) (fun b5 => ?_)
  refine RN.new (fun b => pt b) (.cells (ratC (⟨saNil, saNil⟩ : RA) (⟨false, ([] : List Nat), ([] : List Nat)⟩ : Raw)) 27 (0, 0)) k_ k_ (fun w => by kernel_rfl) (fun b6 => ?_)
  refine RN.fin k_ ?_
  refine J.sreg ?_
  refine RN.bq (no 1) [0, 4, 5, 6, 9] [] (k' := 1) (l' := [(0, sl s ps.length), (4, pt b4), (5, pt b5), (6, pt b6), (9, ratV (⟨saNil, saNil⟩ : RA) (⟨false, ([] : List Nat), ([] : List Nat)⟩ : Raw))]) k_ ?_
  refine RN.new (fun b => pt b) (.cells (ratC (⟨saNil, saNil⟩ : RA) (⟨false, ([] : List Nat), ([] : List Nat)⟩ : Raw)) 27 (0, 0)) k_ k_ (fun w => by kernel_rfl) (fun b7 => ?_)
  refine RN.bat [some 0] [0, 4, 5, 6, 7] [b7, b7, b7] (k' := 3) (l' := [(0, sl s ps.length), (4, pt b4), (5, pt b5), (6, pt b6), (7, pt b7)]) (M' := [(b7, .cells (ratC (⟨saNil, saNil⟩ : RA) (⟨false, ([] : List Nat), ([] : List Nat)⟩ : Raw)) 27 (0, 0)), (b6, .cells (ratC (⟨saNil, saNil⟩ : RA) (⟨false, ([] : List Nat), ([] : List Nat)⟩ : Raw)) 27 (0, 0)), (b5, .cells (ratC u t) 27 (0, 0)), (b4, .cells (ratC p c) 27 (0, 0))]) k_ ?_
  refine RN.fin k_ ?_
  refine J.seq ?_
  refine J.sreg ?_
  refine RN.bq (no 1) [0, 4, 5, 6, 7, 8] [] (k' := 1) (l' := [(0, sl s ps.length), (4, pt b4), (5, pt b5), (6, pt b6), (7, pt b7), (8, .int .i64 0)]) k_ ?_
  refine RN.fin k_ ?_
  refine J.block ?_
  refine J.also (fRat (⟨saNil, saNil⟩ : RA) (encQ 0)) (fun w h => fRat_zero w) ?_
  refine J.loop (ι := (Nat) × (RA) × (Rat)) (fun x => x.1 ≤ ps.length ∧ x.2.2 = sumTo (meanT (qv c) (qv t)) ps x.1 ∧ Q (197198 * x.1 + 1) x.2.2) (fun x => ps.length - x.1) (fun x => [(0, sl s ps.length), (4, pt b4), (5, pt b5), (6, pt b6), (7, pt b7), (8, .int .i64 ((x.1 : Nat) : Int))]) (fun x => [(b7, .cells (ratC x.2.1 (encQ x.2.2)) 27 (0, 0)), (b6, .cells (ratC (⟨saNil, saNil⟩ : RA) (⟨false, ([] : List Nat), ([] : List Nat)⟩ : Raw)) 27 (0, 0)), (b5, .cells (ratC u t) 27 (0, 0)), (b4, .cells (ratC p c) 27 (0, 0))]) (fun x => [fRat x.2.1 (encQ x.2.2), fRats s ps, fRat p c, fRat u t]) (0, (⟨saNil, saNil⟩ : RA), 0) [0, 4, 5, 6, 7, 8] [0, 1, 2, 3] (⟨Nat.zero_le _, rfl, Q0⟩) k_ (by first | rfl | (simp only [encQ_zero]; done) | (simp only [encQ_zero]; rfl)) (by rfl) (fun x8 hI => ?_)
  obtain ⟨i, so, S⟩ := x8
  replace hI : i ≤ ps.length ∧ S = sumTo (meanT (qv c) (qv t)) ps i ∧ Q (197198 * i + 1) S := hI
  obtain ⟨hI1, hI2, hI3⟩ := hI
  have hSL := hI3.le (by omega : 197198 * i + 1 ≤ 268435456)
  refine J.seq ?_
  refine J.sreg ?_
  refine RN.bq (no 4) [0, 4, 5, 6, 7, 8, 13] [] (k' := 4) (l' := [(0, sl s ps.length), (4, pt b4), (5, pt b5), (6, pt b6), (7, pt b7), (8, .int .i64 ((i : Nat) : Int)), (13, .bool (decide (((i : Nat) : Int) < ((ps.length : Nat) : Int))))]) k_ ?_
  refine RN.fin k_ ?_
  refine J.cond (decide (((i : Nat) : Int) < ((ps.length : Nat) : Int))) k_ (fun c9 => ?_) (fun c9 => ?_)
  · skip
    replace c9 := of_decide_eq_true c9
    have hxr := hps i (by omega)
    have hxq := hxr.2.2.2.2
    have hxb := hxr.le (by decide : 64 ≤ 268435456)
    obtain ⟨hx1, hx2, hx3, hx4⟩ := Q_term hc hs hxq
    refine J.skip ?_
    refine KN.next ?_
    refine J.seq ?_
    refine J.block ?_
    refine J.regD k_ [16] ?_
    refine RD.bat k_ [(0, some 0), (1, none), (2, none), (5, none), (6, none), (10, some 3), (11, some 2)] [0, 4, 5, 6, 7, 8, 16, 17, 18, 21, 22, 26, 27] [b5, b5, b5, b4, b4, b4, b7, b7, b7] (L' := [11, 10, 6, 5, 2, 1, 0]) (l' := [(0, sl s ps.length), (4, pt b4), (5, pt b5), (6, pt b6), (7, pt b7), (8, .int .i64 ((i : Nat) : Int)), (16, ratV so (encQ S)), (17, sl s ps.length), (18, .int .i64 ((i : Nat) : Int)), (21, sl s ps.length), (22, .int .i64 ((i : Nat) : Int)), (26, ratV p c), (27, ratV u t)]) k_ ?_
    refine RD.val (i := 3) _ k_ k_ k_ (q_ridx (t := 22) (x := (.tmp 17)) (ix := (.tmp 18)) (K := .i64) (i0 := ((i : Nat) : Int)) (m := i) (e := 27) 1 rfl k_ k_ k_ k_ k_ (by omega) x_) ?_
    refine RD.val (i := 4) _ k_ k_ k_ (q_rload (T := 27) (x := (.tmp 19)) (m := i) (s := s) (ps := ps) 1 rfl k_ k_ k_ k_ x_) ?_
    refine RD.also (fRat ((ps.getD i pr0).1) ((ps.getD i pr0).2)) (fun w h => rat_of (h _ (.tail _ ((.head _)))) x_) k_ ?_
    refine RD.val (i := 7) _ k_ k_ k_ (q_ridx (t := 22) (x := (.tmp 21)) (ix := (.tmp 22)) (K := .i64) (i0 := ((i : Nat) : Int)) (m := i) (e := 27) 2 rfl k_ k_ k_ k_ k_ (by omega) x_) ?_
    refine RD.val (i := 8) _ k_ k_ k_ (q_rload (T := 27) (x := (.tmp 23)) (m := i) (s := s) (ps := ps) 2 rfl k_ k_ k_ k_ x_) ?_
    refine RD.also (fRat ((ps.getD i pr0).1) ((ps.getD i pr0).2)) (fun w h => rat_of (h _ (.tail _ ((.tail _ ((.head _)))))) x_) k_ ?_
    refine RD.call (i := 9) (r03_Mul ((ps.getD i pr0).1) ((ps.getD i pr0).2) ((ps.getD i pr0).1) ((ps.getD i pr0).2) y_r19_mean y_r19_mean) [0, 0] k_ k_ k_ k_ k_ rfl (fun y10 _ => ?_)
    refine RD.call (i := 12) (r03_Mul p c u t y_r19_mean y_r19_mean) [5, 6] k_ k_ k_ k_ k_ rfl (fun y11 _ => ?_)
    refine RD.call (i := 13) (r03_Quo_c y10 ((qv ((ps.getD i pr0).2)) * (qv ((ps.getD i pr0).2))) y11 ((qv c) * (qv t)) y_r19_mean y_r19_mean y_r19_mean) [1, 0] k_ k_ k_ k_ k_ rfl (fun y12 _ => ?_)
    refine RD.call (i := 14) (r19_Rho_c y12 (((qv ((ps.getD i pr0).2)) * (qv ((ps.getD i pr0).2))) / ((qv c) * (qv t))) y_r19_mean y_r19_mean) [0] k_ k_ k_ k_ k_ rfl (fun y13 _ => ?_)
    refine RD.call (i := 15) (r03_Add_c so S y13 (rhoQ (((qv ((ps.getD i pr0).2)) * (qv ((ps.getD i pr0).2))) / ((qv c) * (qv t)))) y_r19_mean y_r19_mean) [6, 0] k_ k_ k_ k_ k_ rfl (fun y14 _ => ?_)
    refine RD.last (i := 16) (some 0) [0, 4, 5, 6, 7, 8] [b7, b7, b7] k_ k_ k_ (l' := [(0, sl s ps.length), (4, pt b4), (5, pt b5), (6, pt b6), (7, pt b7), (8, .int .i64 ((i : Nat) : Int))]) (M' := [(b7, .cells (ratC y14 (encQ (S + (rhoQ (((qv ((ps.getD i pr0).2)) * (qv ((ps.getD i pr0).2))) / ((qv c) * (qv t))))))) 27 (0, 0)), (b6, .cells (ratC (⟨saNil, saNil⟩ : RA) (⟨false, ([] : List Nat), ([] : List Nat)⟩ : Raw)) 27 (0, 0)), (b5, .cells (ratC u t) 27 (0, 0)), (b4, .cells (ratC p c) 27 (0, 0))]) k_ ?_
    refine RD.done k_ ?_
    refine KN.blk ?_
    refine KN.next ?_
    refine J.regN ?_
    refine RN.bq (no 2) [0, 4, 5, 6, 7, 15] [] (k' := 2) (l' := [(0, sl s ps.length), (4, pt b4), (5, pt b5), (6, pt b6), (7, pt b7), (15, .int .i64 (IntKind.i64.wrap (((i : Nat) : Int) + 1)))]) k_ ?_
    rw [show IntKind.i64.wrap (((i : Nat) : Int) + 1) = ((i + 1 : Nat) : Int) from by rw [IntKind.wrap_i64]; omega]
    refine RN.bq (no 1) [0, 4, 5, 6, 7, 8] [] (k' := 3) (l' := [(0, sl s ps.length), (4, pt b4), (5, pt b5), (6, pt b6), (7, pt b7), (8, .int .i64 ((i + 1 : Nat) : Int))]) k_ ?_
    refine RN.done k_ ?_
    refine KN.roundE (i + 1, y14, S + (rhoQ (((qv ((ps.getD i pr0).2)) * (qv ((ps.getD i pr0).2))) / ((qv c) * (qv t))))) [0, 4, 5, 6, 7, 8] [0, 8, 9, 10] (l2 := [(0, sl s ps.length), (4, pt b4), (5, pt b5), (6, pt b6), (7, pt b7), (8, .int .i64 ((i + 1 : Nat) : Int))]) (by (try dsimp only); omega) (by (try dsimp only); exact ⟨by omega, by rw [hI2]; rfl, (hI3.add hx4).le (by omega)⟩) k_ (by rfl) (by rfl) (by rfl)
  · skip
    replace c9 := of_decide_eq_false c9
    have hi : i = ps.length := by omega
    subst hi
    refine J.exit (KX.next (KX.next (KX.hit ?_)))
    refine KN.next ?_
    refine J.seq ?_
    refine J.regD k_ [5] ?_
    refine RD.bat k_ [(0, some 0), (1, none), (2, none)] [6, 32, 34] [b7, b7, b7] (L' := [2, 1, 0]) (l' := [(6, pt b6), (32, ratV so (encQ S)), (34, .int .i64 ((ps.length : Nat) : Int))]) k_ ?_
    refine RD.call (i := 3) (r03_FromInt ((ps.length : Nat) : Int) y_r19_mean y_r19_mean) [] k_ k_ k_ k_ k_ rfl (fun y15 _ => ?_)
    refine RD.call (i := 4) (r03_Quo_c so S y15 ((((ps.length : Nat) : Int) : Int) : Rat) y_r19_mean y_r19_mean y_r19_mean) [1, 0] k_ k_ k_ k_ k_ rfl (fun y16 _ => ?_)
    refine RD.last (i := 5) (some 1) [6] [b6, b6, b6] k_ k_ k_ (l' := [(6, pt b6)]) (M' := [(b7, .cells (ratC so (encQ S)) 27 (0, 0)), (b6, .cells (ratC y16 (encQ (S / ((((ps.length : Nat) : Int) : Int) : Rat)))) 27 (0, 0)), (b5, .cells (ratC u t) 27 (0, 0)), (b4, .cells (ratC p c) 27 (0, 0))]) k_ ?_
    refine RD.done k_ ?_
    refine KN.next ?_
    have e_1 : (encQ (sumTo (meanT (qv c) (qv t)) ps ps.length / ((((ps.length : Nat) : Int)) : Rat))) = (encQ (S / ((((ps.length : Nat) : Int) : Int) : Rat))) := by rw [← hI2]
    refine J.ret (KR.ret (v := ratV y16 (encQ (S / ((((ps.length : Nat) : Int) : Int) : Rat)))) (y16) [some 1] [0] [b6, b6, b6] k_ v1_ (trivial) v1_)
theorem r19_mean_c2 (s : SA) (ps : List PR) (p : RA) (c : Raw) (u : RA) (t' : Rat) (hps : ∀ i, i < ps.length → RQ 64 (ps.getD i pr0).2) (hcR : RQ 268435456 c) (htR : Q 268435456 t') (hc : Q 64 (qv c)) (hs : Q 65536 t') (hn : ps.length ≤ 1024) (hn0 : 0 < ps.length) (hcs : (qv c) * t' ≠ 0) : Spec Tryz.prog 44 #[sl s ps.length, ratV p c, ratV u (encQ t')] [fRats s ps, fRat p c, fRat u (encQ t')] (ι := RA) (fun y => ratV y (encQ (sumTo (meanT (qv c) t') ps ps.length / ((((ps.length : Nat) : Int)) : Rat)))) (fun y => True) (fun y => [fRat y (encQ (sumTo (meanT (qv c) t') ps ps.length / ((((ps.length : Nat) : Int)) : Rat)))]) := by
  have H := r19_mean s ps p c u (encQ t') (by first | exact hps | simpa only [qv_encQ] using hps) (by first | exact hcR | simpa only [qv_encQ] using hcR) (RQ_enc htR) (by first | exact hc | simpa only [qv_encQ] using hc) (by first | exact hs | simpa only [qv_encQ] using hs) (by first | exact hn | simpa only [qv_encQ] using hn) (by first | exact hn0 | simpa only [qv_encQ] using hn0) (by first | exact hcs | simpa only [qv_encQ] using hcs)
  first | exact H | (simp only [qv_encQ, validQ_encQ] at H; exact H)
end Go.Proofs.YtegnonhgildhoaaGreat.E
namespace Go.Proofs.YtegnonhgildhoaaGreat.E
open Go Go.RowKit
set_option linter.unusedVariables false
set_option linter.unusedSimpArgs false
theorem sign_le0 {q : Rat} : Int.sign q.num ≤ 0 ↔ q ≤ 0 := by rw [← Rat.not_lt, ← sign_gt]; omega
def nullB (x : Nat → Rat) (n : Nat) (b : Rat) : Bool := decide (shareN x n ≤ b)
def atLeastB (x : Nat → Rat) (n : Nat) (c b v : Rat) : Bool := if v ≤ 0 then true else !nullB x n b && !decide (meanN x n c v < b)
theorem nullB_eq {ps : List PR} {k : Nat} {b : Rat} (h : k = cntN (nzP ps) ps.length) : (!decide (b < ((k : Int) : Rat) / ((((ps.length : Nat) : Int)) : Rat))) = nullB (vals ps) ps.length b := by
  subst h
  unfold nullB
  rw [share_eq]
  rw [Bool.eq_iff_iff]; simp [Rat.not_lt]
theorem y_r19_Null {p : Prop} (h : p := by first | assumption | exact Lb_toL _ | omega | (simp; done) | first | exact Q.le hQ1 (by decide) | exact Q.le hQ2 (by decide) | exact Q.le hQ3 (by decide) | exact Q.le hQ4 (by decide) | exact Q.le hb (by decide) | omega | (simp; omega)) : p := h
theorem r19_Null (s : SA) (ps : List PR) (u : RA) (b : Raw) (hps : ∀ i, i < ps.length → RQ 64 (ps.getD i pr0).2) (hn : ps.length ≤ 1024) (hn0 : 0 < ps.length) (hbR : RQ 268435456 b) (hb : Q 64 (qv b)) : Spec Tryz.prog 36 #[sl s ps.length, ratV u b] [fRats s ps, fRat u b] (ι := Unit) (fun y => .bool (nullB (vals ps) ps.length (qv b))) (fun y => True) (fun y => []) := by
  refine Spec.of_body _ (fn := Tryz.f36) k_ rfl k_ (fun X w0 => ?_)
  refine J.fact (φ := ps.length ≤ 140737488355328) (fun w h => by have := (h _ (.head _)).1; omega) (fun hl1 => ?_)
  refine J.fact (φ := b.mag.length ≤ 140737488355328 ∧ b.den.length ≤ 140737488355328) (fun w h => by have h1 := (h _ (.tail _ ((.head _)))).1.1; have h2 := (h _ (.tail _ ((.head _)))).2.1; omega) (fun hl2 => ?_)
  refine J.sreg ?_
  refine RN.new (fun b => pt b) (.cells (ratC u b) 27 (0, 0)) k_ k_ (fun w => by kernel_rfl) (fun b3 => ?_)
  refine RN.bq (no 1) [0, 3] [] (k' := 2) (l' := [(0, sl s ps.length), (3, pt b3)]) k_ ?_
  refine RN.fin k_ ?_
  refine J.sreg ?_
  refine RN.bq (no 1) [0, 3, 5] [] (k' := 1) (l' := [(0, sl s ps.length), (3, pt b3), (5, .int .i64 0)]) k_ ?_
  refine RN.fin k_ ?_
  refine J.seq ?_
  refine J.sreg ?_
  refine RN.bq (no 1) [0, 3, 5, 6] [] (k' := 1) (l' := [(0, sl s ps.length), (3, pt b3), (5, .int .i64 0), (6, .int .i64 0)]) k_ ?_
  refine RN.fin k_ ?_
  refine J.block ?_
  refine J.loop (ι := (Nat) × (Nat)) (fun x => x.1 ≤ ps.length ∧ x.2 = cntN (nzP ps) x.1) (fun x => ps.length - x.1) (fun x => [(0, sl s ps.length), (3, pt b3), (5, .int .i64 ((x.2 : Nat) : Int)), (6, .int .i64 ((x.1 : Nat) : Int))]) (fun x => [(b3, .cells (ratC u b) 27 (0, 0))]) (fun x => [fRats s ps, fRat u b]) (0, 0) [0, 3, 5, 6] [0, 1] (⟨Nat.zero_le _, rfl⟩) k_ (by first | rfl | (simp only [encQ_zero]; done) | (simp only [encQ_zero]; rfl)) (by rfl) (fun x4 hI => ?_)
  obtain ⟨i, k⟩ := x4
  replace hI : i ≤ ps.length ∧ k = cntN (nzP ps) i := hI
  obtain ⟨hI1, hI2⟩ := hI
  have hkb := cnt_b (nzP ps) i (by omega)
  have hkle := cntN_le (nzP ps) i
  refine J.seq ?_
  refine J.sreg ?_
  refine RN.bq (no 4) [0, 3, 5, 6, 10] [] (k' := 4) (l' := [(0, sl s ps.length), (3, pt b3), (5, .int .i64 ((k : Nat) : Int)), (6, .int .i64 ((i : Nat) : Int)), (10, .bool (decide (((i : Nat) : Int) < ((ps.length : Nat) : Int))))]) k_ ?_
  refine RN.fin k_ ?_
  refine J.cond (decide (((i : Nat) : Int) < ((ps.length : Nat) : Int))) k_ (fun c5 => ?_) (fun c5 => ?_)
  · skip
    replace c5 := of_decide_eq_true c5
    have hxr := hps i (by omega)
    have hxb := hxr.le (by decide : 64 ≤ 268435456)
    refine J.skip ?_
    refine KN.next ?_
    refine J.seq ?_
    refine J.block ?_
    refine J.sreg ?_
    refine RN.bq (no 2) [0, 3, 5, 6, 13, 14] [] (k' := 2) (l' := [(0, sl s ps.length), (3, pt b3), (5, .int .i64 ((k : Nat) : Int)), (6, .int .i64 ((i : Nat) : Int)), (13, sl s ps.length), (14, .int .i64 ((i : Nat) : Int))]) k_ ?_
    refine RN.val _ k_ k_ (q_ridx (t := 22) (x := (.tmp 13)) (ix := (.tmp 14)) (K := .i64) (i0 := ((i : Nat) : Int)) (m := i) (e := 27) 0 rfl k_ k_ k_ k_ k_ (by omega) x_) ?_
    refine RN.val _ k_ k_ (q_rload (T := 27) (x := (.tmp 15)) (m := i) (s := s) (ps := ps) 0 rfl k_ k_ k_ k_ x_) ?_
    refine RN.also (fRat ((ps.getD i pr0).1) ((ps.getD i pr0).2)) (fun w h => rat_of (h _ (.head _)) x_) ?_
    refine RN.call (r03_Sign ((ps.getD i pr0).1) ((ps.getD i pr0).2) y_r19_Null) [0] k_ k_ k_ rfl (fun y6 _ => ?_)
    refine RN.bq (no 1) [0, 3, 5, 6, 18] [] (k' := 6) (l' := [(0, sl s ps.length), (3, pt b3), (5, .int .i64 ((k : Nat) : Int)), (6, .int .i64 ((i : Nat) : Int)), (18, .bool (((Int.sign ((qv ((ps.getD i pr0).2)).num)) : Int) != 0))]) k_ ?_
    refine RN.fin k_ ?_
    refine J.cond (((Int.sign ((qv ((ps.getD i pr0).2)).num)) : Int) != 0) k_ (fun c7 => ?_) (fun c7 => ?_)
    · skip
      replace c7 := bne_iff_ne.1 c7
      refine J.regN ?_
      refine RN.bq (no 2) [0, 3, 6, 20] [] (k' := 2) (l' := [(0, sl s ps.length), (3, pt b3), (6, .int .i64 ((i : Nat) : Int)), (20, .int .i64 (IntKind.i64.wrap (((k : Nat) : Int) + 1)))]) k_ ?_
      rw [show IntKind.i64.wrap (((k : Nat) : Int) + 1) = ((k + 1 : Nat) : Int) from by rw [IntKind.wrap_i64]; omega]
      refine RN.bq (no 1) [0, 3, 5, 6] [] (k' := 3) (l' := [(0, sl s ps.length), (3, pt b3), (5, .int .i64 ((k + 1 : Nat) : Int)), (6, .int .i64 ((i : Nat) : Int))]) k_ ?_
      refine RN.done k_ ?_
      refine KN.blk ?_
      refine KN.next ?_
      refine J.regN ?_
      refine RN.bq (no 2) [0, 3, 5, 12] [] (k' := 2) (l' := [(0, sl s ps.length), (3, pt b3), (5, .int .i64 ((k + 1 : Nat) : Int)), (12, .int .i64 (IntKind.i64.wrap (((i : Nat) : Int) + 1)))]) k_ ?_
      rw [show IntKind.i64.wrap (((i : Nat) : Int) + 1) = ((i + 1 : Nat) : Int) from by rw [IntKind.wrap_i64]; omega]
      refine RN.bq (no 1) [0, 3, 5, 6] [] (k' := 3) (l' := [(0, sl s ps.length), (3, pt b3), (5, .int .i64 ((k + 1 : Nat) : Int)), (6, .int .i64 ((i + 1 : Nat) : Int))]) k_ ?_
      refine RN.done k_ ?_
      refine KN.roundE (i + 1, k + 1) [0, 3, 5, 6] [1, 2] (l2 := [(0, sl s ps.length), (3, pt b3), (5, .int .i64 ((k + 1 : Nat) : Int)), (6, .int .i64 ((i + 1 : Nat) : Int))]) (by (try dsimp only); omega) (by (try dsimp only); exact ⟨by omega, by rw [hI2]; exact cnt_y ‹_›⟩) k_ (by rfl) (by rfl) (by rfl)
    · skip
      replace c7 := bne_eq_false_iff_eq.1 c7
      refine J.skip ?_
      refine KN.blk ?_
      refine KN.next ?_
      refine J.regN ?_
      refine RN.bq (no 2) [0, 3, 5, 12] [] (k' := 2) (l' := [(0, sl s ps.length), (3, pt b3), (5, .int .i64 ((k : Nat) : Int)), (12, .int .i64 (IntKind.i64.wrap (((i : Nat) : Int) + 1)))]) k_ ?_
      rw [show IntKind.i64.wrap (((i : Nat) : Int) + 1) = ((i + 1 : Nat) : Int) from by rw [IntKind.wrap_i64]; omega]
      refine RN.bq (no 1) [0, 3, 5, 6] [] (k' := 3) (l' := [(0, sl s ps.length), (3, pt b3), (5, .int .i64 ((k : Nat) : Int)), (6, .int .i64 ((i + 1 : Nat) : Int))]) k_ ?_
      refine RN.done k_ ?_
      refine KN.roundE (i + 1, k) [0, 3, 5, 6] [1, 2] (l2 := [(0, sl s ps.length), (3, pt b3), (5, .int .i64 ((k : Nat) : Int)), (6, .int .i64 ((i + 1 : Nat) : Int))]) (by (try dsimp only); omega) (by (try dsimp only); exact ⟨by omega, by rw [hI2]; exact cnt_n ‹_›⟩) k_ (by rfl) (by rfl) (by rfl)
  · skip
    replace c5 := of_decide_eq_false c5
    have hi : i = ps.length := by omega
    subst hi
    have hQ1 := Q_int (v := ((k : Nat) : Int)) (by omega)
    have hQ2 := Q_int (v := ((ps.length : Nat) : Int)) (by omega)
    have hQ3 := hQ1.div hQ2
    have hQ4 := hb.sub hQ3
    refine J.exit (KX.next (KX.next (KX.hit ?_)))
    refine KN.next ?_
    refine J.seq ?_
    refine J.regD k_ [] ?_
    refine RD.bat k_ [(0, some 0), (1, none), (2, none), (3, none)] [21, 22, 24] [b3, b3, b3] (L' := [3, 2, 1, 0]) (l' := [(21, ratV u b), (22, .int .i64 ((k : Nat) : Int)), (24, .int .i64 ((ps.length : Nat) : Int))]) k_ ?_
    refine RD.call (i := 4) (r03_Fraction ((k : Nat) : Int) ((ps.length : Nat) : Int) y_r19_Null y_r19_Null y_r19_Null y_r19_Null y_r19_Null) [] k_ k_ k_ k_ k_ rfl (fun y8 _ => ?_)
    refine RD.call (i := 5) (r03_Less_c2 u b y8 (((((k : Nat) : Int) : Int) : Rat) / ((((ps.length : Nat) : Int) : Int) : Rat)) y_r19_Null y_r19_Null y_r19_Null) [2, 0] k_ k_ k_ k_ k_ rfl (fun y9 _ => ?_)
    refine RD.bat k_ [(6, none), (7, none)] [4] [] (L' := [7, 6, 5, 4, 3, 2, 1, 0]) (l' := [(4, .bool (!(decide ((qv b) < (((((k : Nat) : Int) : Int) : Rat) / ((((ps.length : Nat) : Int) : Int) : Rat))))))]) k_ ?_
    refine RD.done k_ ?_
    refine KN.next ?_
    have e_1 : (nullB (vals ps) ps.length (qv b)) = (!(decide ((qv b) < (((((k : Nat) : Int) : Int) : Rat) / ((((ps.length : Nat) : Int) : Int) : Rat))))) := by exact (nullB_eq hI2).symm
    refine J.ret (KR.ret (v := .bool (!(decide ((qv b) < (((((k : Nat) : Int) : Int) : Rat) / ((((ps.length : Nat) : Int) : Int) : Rat)))))) (()) [none] [] [] k_ v1_ (trivial) v1_)
theorem sign_nle0 {q : Rat} (h : ¬ Int.sign q.num ≤ 0) : 0 < q := sign_gt.1 (by omega)
theorem atLeastB_0 {x : Nat → Rat} {n : Nat} {c b v : Rat} (h : Int.sign v.num ≤ 0) : atLeastB x n c b v = true := if_pos (sign_le0.1 h)
theorem atLeastB_n {x : Nat → Rat} {n : Nat} {c b v : Rat} (h : ¬ Int.sign v.num ≤ 0) : atLeastB x n c b v = (!nullB x n b && !decide (meanN x n c v < b)) := if_neg (mt sign_le0.2 h)
theorem y_r19_AtLeast {p : Prop} (h : p := by first | assumption | exact Lb_toL _ | omega | (simp; done) | first | exact Q.le hv (by decide) | exact Q.le hc (by decide) | exact Q.le hb (by decide) | exact Q.le hQm (by decide) | exact Q.le hQd (by decide) | exact Q.le hQe (by decide) | exact mul_ne_of_pos hc0 (sign_nle0 ‹_›) | exact mul_ne_of_pos hc0 (sign_gt.1 ‹v.num.sign > 0›)) : p := h
theorem r19_AtLeast (s : SA) (ps : List PR) (p : RA) (c : Raw) (u : RA) (b : Raw) (q : RA) (v : Rat) (hps : ∀ i, i < ps.length → RQ 64 (ps.getD i pr0).2) (hn : ps.length ≤ 1024) (hn0 : 0 < ps.length) (hcR : RQ 268435456 c) (hbR : RQ 268435456 b) (hc : Q 64 (qv c)) (hb : Q 64 (qv b)) (hc0 : 0 < (qv c)) (hv : Q 65536 v) : Spec Tryz.prog 30 #[sl s ps.length, ratV p c, ratV u b, ratV q (encQ v)] [fRats s ps, fRat p c, fRat u b, fRat q (encQ v)] (ι := Unit) (fun y => .bool (atLeastB (vals ps) ps.length (qv c) (qv b) v)) (fun y => True) (fun y => []) := by
  refine Spec.of_body _ (fn := Tryz.f30) k_ rfl k_ (fun X w0 => ?_)
  refine J.fact (φ := ps.length ≤ 140737488355328) (fun w h => by have := (h _ (.head _)).1; omega) (fun hl1 => ?_)
  refine J.fact (φ := c.mag.length ≤ 140737488355328 ∧ c.den.length ≤ 140737488355328) (fun w h => by have h1 := (h _ (.tail _ ((.head _)))).1.1; have h2 := (h _ (.tail _ ((.head _)))).2.1; omega) (fun hl2 => ?_)
  refine J.fact (φ := b.mag.length ≤ 140737488355328 ∧ b.den.length ≤ 140737488355328) (fun w h => by have h1 := (h _ (.tail _ ((.tail _ ((.head _)))))).1.1; have h2 := (h _ (.tail _ ((.tail _ ((.head _)))))).2.1; omega) (fun hl3 => ?_)
  refine J.fact (φ := (encQ v).mag.length ≤ 140737488355328 ∧ (encQ v).den.length ≤ 140737488355328) (fun w h => by have h1 := (h _ (.tail _ ((.tail _ ((.tail _ ((.head _)))))))).1.1; have h2 := (h _ (.tail _ ((.tail _ ((.tail _ ((.head _)))))))).2.1; omega) (fun hl4 => ?_)
  have hQm := (Q_mean ps hps hc hv hn).le (by decide : 201930760 ≤ 210000000)
  have hQd := hQm.sub hb
  have hQe := hb.sub hQm
  refine J.sreg ?_
  refine RN.new (fun b => pt b) (.cells (ratC p c) 27 (0, 0)) k_ k_ (fun w => by kernel_rfl) (fun b5 => ?_)
  refine RN.new (fun b => pt b) (.cells (ratC u b) 27 (0, 0)) k_ k_ (fun w => by kernel_rfl) (fun b6 => ?_)
  refine RN.new (fun b => pt b) (.cells (ratC q (encQ v)) 27 (0, 0)) k_ k_ (fun w => by kernel_rfl) (fun b7 => ?_)
  refine RN.bq (no 1) [0, 5, 6, 7] [] (k' := 4) (l' := [(0, sl s ps.length), (5, pt b5), (6, pt b6), (7, pt b7)]) k_ ?_
  refine RN.fin k_ ?_
  refine J.seq ?_
  refine J.sreg ?_
  refine RN.bq [some 0] [0, 5, 6, 7, 9] [b7, b7, b7] (k' := 1) (l' := [(0, sl s ps.length), (5, pt b5), (6, pt b6), (7, pt b7), (9, ratV q (encQ v))]) k_ ?_
  refine RN.call (r03_Sign_c q v y_r19_AtLeast) [3] k_ k_ k_ rfl (fun y8 _ => ?_)
  refine RN.bq (no 1) [0, 5, 6, 7, 11] [] (k' := 3) (l' := [(0, sl s ps.length), (5, pt b5), (6, pt b6), (7, pt b7), (11, .bool (decide ((Int.sign (v.num)) ≤ 0)))]) k_ ?_
  refine RN.fin k_ ?_
  refine J.cond (decide ((Int.sign (v.num)) ≤ 0)) k_ (fun c9 => ?_) (fun c9 => ?_)
  · skip
    replace c9 := of_decide_eq_true c9
    refine J.sreg ?_
    refine RN.bq (no 1) [8] [] (k' := 1) (l' := [(8, .bool true)]) k_ ?_
    refine RN.fin k_ ?_
    have e_1 : (atLeastB (vals ps) ps.length (qv c) (qv b) v) = true := by first | exact (atLeastB_0 ‹_›).symm | exact atLeastB_0 ‹_› | (rw [atLeastB_n ‹_›]; (try simp_all [mean_def]) <;> grind)
    refine J.ret (KR.next (KR.ret (v := .bool true) (()) [none] [] [] k_ v1_ (trivial) v1_))
  · skip
    replace c9 := of_decide_eq_false c9
    refine J.skip ?_
    refine KN.next ?_
    refine J.seq ?_
    refine J.regD k_ [] ?_
    refine RD.bat k_ [(0, none), (1, some 1)] [0, 5, 6, 7, 12, 13] [b6, b6, b6] (L' := [1, 0]) (l' := [(0, sl s ps.length), (5, pt b5), (6, pt b6), (7, pt b7), (12, sl s ps.length), (13, ratV u b)]) k_ ?_
    refine RD.call (i := 2) (r19_Null s ps u b y_r19_AtLeast y_r19_AtLeast y_r19_AtLeast y_r19_AtLeast y_r19_AtLeast) [0, 2] k_ k_ k_ k_ k_ rfl (fun y10 _ => ?_)
    refine RD.bat k_ [(3, none), (4, none)] [0, 5, 6, 7, 16] [] (L' := [4, 3, 2, 1, 0]) (l' := [(0, sl s ps.length), (5, pt b5), (6, pt b6), (7, pt b7), (16, .bool (!(nullB (vals ps) ps.length (qv b))))]) k_ ?_
    refine RD.split (t := 16) (!(nullB (vals ps) ps.length (qv b))) k_ (fun c11 => ?_) (fun c11 => ?_)
    · skip
      refine RD.bat k_ [(5, none), (6, some 2), (7, some 0), (9, some 1)] [16, 17, 18, 19, 21] [b6, b6, b6, b7, b7, b7, b5, b5, b5] (L' := [9, 7, 6, 5, 4, 3, 2, 1, 0]) (l' := [(16, .bool true), (17, sl s ps.length), (18, ratV p c), (19, ratV q (encQ v)), (21, ratV u b)]) k_ ?_
      refine RD.call (i := 8) (r19_mean_c2 s ps p c q v y_r19_AtLeast y_r19_AtLeast y_r19_AtLeast y_r19_AtLeast y_r19_AtLeast y_r19_AtLeast y_r19_AtLeast y_r19_AtLeast) [0, 1, 3] k_ k_ k_ k_ k_ rfl (fun y12 _ => ?_)
      refine RD.call (i := 10) (r03_Less_c1 y12 (sumTo (meanT (qv c) v) ps ps.length / ((((ps.length : Nat) : Int)) : Rat)) u b y_r19_AtLeast y_r19_AtLeast y_r19_AtLeast) [0, 3] k_ k_ k_ k_ k_ rfl (fun y13 _ => ?_)
      refine RD.bat k_ [(11, none), (12, none), (13, none)] [8] [] (L' := [13, 12, 11, 10, 8, 9, 7, 6, 5, 4, 3, 2, 1, 0]) (l' := [(8, .bool (!(decide ((sumTo (meanT (qv c) v) ps ps.length / ((((ps.length : Nat) : Int)) : Rat)) < (qv b)))))]) k_ ?_
      refine RD.done k_ ?_
      refine KN.next ?_
      have e_1 : (atLeastB (vals ps) ps.length (qv c) (qv b) v) = (!(decide ((sumTo (meanT (qv c) v) ps ps.length / ((((ps.length : Nat) : Int)) : Rat)) < (qv b)))) := by first | exact (atLeastB_0 ‹_›).symm | exact atLeastB_0 ‹_› | (rw [atLeastB_n ‹_›]; (try simp_all [mean_def]) <;> grind)
      refine J.ret (KR.ret (v := .bool (!(decide ((sumTo (meanT (qv c) v) ps ps.length / ((((ps.length : Nat) : Int)) : Rat)) < (qv b))))) (()) [none] [] [] k_ v1_ (trivial) v1_)
    · skip
      refine RD.bat k_ [(5, none), (6, none), (7, none), (8, none), (9, none), (10, none), (11, none), (12, none), (13, none)] [8] [] (L' := [13, 12, 11, 10, 9, 8, 7, 6, 5, 4, 3, 2, 1, 0]) (l' := [(8, .bool false)]) k_ ?_
      refine RD.done k_ ?_
      refine KN.next ?_
      have e_1 : (atLeastB (vals ps) ps.length (qv c) (qv b) v) = false := by first | exact (atLeastB_0 ‹_›).symm | exact atLeastB_0 ‹_› | (rw [atLeastB_n ‹_›]; (try simp_all [mean_def]) <;> grind)
      refine J.ret (KR.ret (v := .bool false) (()) [none] [] [] k_ v1_ (trivial) v1_)
theorem r19_AtLeast_c (s : SA) (ps : List PR) (p : RA) (c' : Rat) (u : RA) (b' : Rat) (q : RA) (v : Rat) (hps : ∀ i, i < ps.length → RQ 64 (ps.getD i pr0).2) (hn : ps.length ≤ 1024) (hn0 : 0 < ps.length) (hcR : Q 268435456 c') (hbR : Q 268435456 b') (hc : Q 64 c') (hb : Q 64 b') (hc0 : 0 < c') (hv : Q 65536 v) : Spec Tryz.prog 30 #[sl s ps.length, ratV p (encQ c'), ratV u (encQ b'), ratV q (encQ v)] [fRats s ps, fRat p (encQ c'), fRat u (encQ b'), fRat q (encQ v)] (ι := Unit) (fun y => .bool (atLeastB (vals ps) ps.length c' b' v)) (fun y => True) (fun y => []) := by
  have H := r19_AtLeast s ps p (encQ c') u (encQ b') q v (by first | exact hps | simpa only [qv_encQ, qv_encQ] using hps) (by first | exact hn | simpa only [qv_encQ, qv_encQ] using hn) (by first | exact hn0 | simpa only [qv_encQ, qv_encQ] using hn0) (RQ_enc hcR) (RQ_enc hbR) (by first | exact hc | simpa only [qv_encQ, qv_encQ] using hc) (by first | exact hb | simpa only [qv_encQ, qv_encQ] using hb) (by first | exact hc0 | simpa only [qv_encQ, qv_encQ] using hc0) (by first | exact hv | simpa only [qv_encQ, qv_encQ] using hv)
  first | exact H | (simp only [qv_encQ, validQ_encQ] at H; exact H)
end Go.Proofs.YtegnonhgildhoaaGreat.E
namespace Go.Proofs.YtegnonhgildhoaaGreat.E
open Go Go.RowKit
set_option linter.unusedVariables false
set_option linter.unusedSimpArgs false
theorem hps_nil {k : Nat} : ∀ i, i < ([] : List PR).length → RQ k (([] : List PR).getD i pr0).2 := fun i h => absurd h (Nat.not_lt_zero _)
theorem hps_cons {k : Nat} {p : PR} {ps : List PR} (h : RQ k p.2) (t : ∀ i, i < ps.length → RQ k (ps.getD i pr0).2) : ∀ i, i < (p :: ps).length → RQ k ((p :: ps).getD i pr0).2
  | 0, _ => h
  | i + 1, hi => t i (by simpa using hi)
theorem Q_dec {k : Nat} {q : Rat} (h : (decide (q.num.natAbs < W ^ k) && decide (q.den < W ^ k)) = true) : Q k q := by
  simp only [Bool.and_eq_true, decide_eq_true_eq] at h
  exact Q_iff.2 h
theorem aw_e : meanE 2 ((1 : Int) : Rat) ((2 : Int) : Rat) = 0 := by decide +kernel
theorem aw_m (p1 p2 : RA) : meanV [(p1, encQ ((1 : Int) : Rat)), (p2, encQ (((-1) : Int) : Rat))] ((1 : Int) : Rat) ((2 : Int) : Rat) = ((7 : Int) : Rat) / ((8 : Int) : Rat) := by
  unfold meanV
  rw [if_pos (show meanE [(p1, encQ ((1 : Int) : Rat)), (p2, encQ (((-1) : Int) : Rat))].length ((1 : Int) : Rat) ((2 : Int) : Rat) = 0 from aw_e)]
  show (0 + meanT ((1 : Int) : Rat) ((2 : Int) : Rat) (qv (encQ ((1 : Int) : Rat))) + meanT ((1 : Int) : Rat) ((2 : Int) : Rat) (qv (encQ (((-1) : Int) : Rat)))) / (((2 : Nat) : Int) : Rat) = _
  rw [qv_encQ, qv_encQ]
  decide +kernel
theorem aw_c : checkE 4 ((1 : Int) : Rat) (((1 : Int) : Rat) / ((4 : Int) : Rat)) 3 = 0 := by decide +kernel
theorem aw_s (p1 p2 p3 p4 : RA) (b : Rat) (hb : b = ((1 : Int) : Rat) / ((4 : Int) : Rat)) : shareN (vals [(p1, ⟨false, [], []⟩), (p2, ⟨false, [], []⟩), (p3, ⟨false, [], []⟩), (p4, encQ ((5 : Int) : Rat))]) 4 ≤ b := by
  subst hb
  have h : ∀ i, i < 4 → vals [(p1, ⟨false, [], []⟩), (p2, ⟨false, [], []⟩), (p3, ⟨false, [], []⟩), (p4, encQ ((5 : Int) : Rat))] i = (if i = 3 then ((5 : Int) : Rat) else 0) := by
    intro i hi
    have z : qv ⟨false, [], []⟩ = 0 := by rw [← encQ_zero, qv_encQ]
    match i, hi with
    | 0, _ => exact z
    | 1, _ => exact z
    | 2, _ => exact z
    | 3, _ => exact qv_encQ _
  unfold shareN
  rw [cntN_sum, sumN_congr (g := fun i => if i = 3 then 1 else 0)]
  · decide +kernel
  · intro i hi
    show (if decide (vals _ i ≠ 0) = true then (1 : Rat) else 0) = _
    rw [h i hi]
    match i, hi with
    | 0, _ => rfl
    | 1, _ => rfl
    | 2, _ => rfl
    | 3, _ => rfl
theorem aw_r : rhoQ (((1 : Int) : Rat) / ((2 : Int) : Rat)) = ((7 : Int) : Rat) / ((8 : Int) : Rat) := by decide +kernel
theorem aw_i {x : Nat → Rat} {n : Nat} {c b : Rat} {bits : Int} {lo hi : Rat} (h : ScaleR x n c b bits lo hi) (hs : shareN x n ≤ b) : encQ lo = ⟨false, [], []⟩ ∧ encQ hi = ⟨false, [], []⟩ := by
  unfold ScaleR at h
  rw [if_pos (.inr hs)] at h
  rw [h.1, h.2, encQ_zero]; exact ⟨rfl, rfl⟩
theorem y_l19_awake {p : Prop} (h : p := by first | assumption | exact Lb_toL _ | omega | (simp; done) | first | exact Q.le (Q_int (by decide)) (by decide) | exact RQ_enc (Q.le (Q_int (by decide)) (by decide)) | exact Q.le (Q_dec (k := 2) (by decide +kernel)) (by decide) | exact RQ_enc (Q.le (Q_dec (k := 2) (by decide +kernel)) (by decide)) | ((repeat' (first | exact hps_nil | refine hps_cons ?_ ?_ | exact RQ_enc (Q.le (Q_int (by decide)) (by decide)) | (rw [← encQ_zero]; exact RQ_enc (Q_0 (by decide))))); done)) : p := h
theorem l19_awake : Spec Tryz.prog 12 #[] [] (ι := Unit) (fun y => .bool true) (fun y => True) (fun y => []) := by
  refine Spec.of_body _ (fn := Tryz.f12) k_ rfl k_ (fun X w0 => ?_)
  refine J.sreg ?_
  refine RN.bq (no 1) [] [] (k' := 1) (l' := []) k_ ?_
  refine RN.fin k_ ?_
  refine J.sreg ?_
  refine RN.call (r03_FromInt 1 y_l19_awake y_l19_awake) [] k_ k_ k_ rfl (fun y1 _ => ?_)
  refine RN.new (fun b => pt b) (.cells (ratC (⟨saNil, saNil⟩ : RA) (⟨false, ([] : List Nat), ([] : List Nat)⟩ : Raw)) 27 (0, 0)) k_ k_ (fun w => by kernel_rfl) (fun b2 => ?_)
  refine RN.bat [some 0] [1] [b2, b2, b2] (k' := 3) (l' := [(1, pt b2)]) (M' := [(b2, .cells (ratC y1 (encQ ((1 : Int) : Rat))) 27 (0, 0))]) k_ ?_
  refine RN.fin k_ ?_
  refine J.seqC (ι := (RA) × (Nat) × (RA) × (RA) × (Nat)) (fun x => True) (fun x => [(1, pt b2), (2, .pointer (some ⟨x.2.2.2.2, 0, none⟩)), (3, .int .i64 (meanE ([(y1, (encQ ((1 : Int) : Rat))), (x.1, (encQ (((-1) : Int) : Rat)))] : List PR).length ((1 : Int) : Rat) ((2 : Int) : Rat)))]) (fun x => [(x.2.2.2.2, .cells (ratC x.2.2.2.1 (encQ (meanV ([(y1, (encQ ((1 : Int) : Rat))), (x.1, (encQ (((-1) : Int) : Rat)))] : List PR) ((1 : Int) : Rat) ((2 : Int) : Rat)))) 27 (0, 0)), (b2, .cells (ratC y1 (encQ ((1 : Int) : Rat))) 27 (0, 0))]) (fun x => [fRat x.2.2.2.1 (encQ (meanV ([(y1, (encQ ((1 : Int) : Rat))), (x.1, (encQ (((-1) : Int) : Rat)))] : List PR) ((1 : Int) : Rat) ((2 : Int) : Rat))), fRats (⟨some ⟨x.2.1, 0, none⟩, 2⟩ : SA) ([(y1, (encQ ((1 : Int) : Rat))), (x.1, (encQ (((-1) : Int) : Rat)))] : List PR), allRat ([(y1, (encQ ((1 : Int) : Rat))), (x.1, (encQ (((-1) : Int) : Rat)))] : List PR), fBlk x.2.1 (.cells (encR ([(y1, (encQ ((1 : Int) : Rat))), (x.1, (encQ (((-1) : Int) : Rat)))] : List PR)) 27 (0, 0)), fRat x.2.2.1 (encQ ((2 : Int) : Rat)), fRat x.1 (encQ (((-1) : Int) : Rat)), fRat y1 (encQ ((1 : Int) : Rat))]) ?_ ?_
  · skip
    refine J.regD k_ [10] ?_
    refine RD.bat k_ [(0, some 0), (3, some 0)] [1, 8, 11] [b2, b2, b2, b2, b2, b2] (L' := [3, 0]) (l' := [(1, pt b2), (8, ratV y1 (encQ ((1 : Int) : Rat))), (11, ratV y1 (encQ ((1 : Int) : Rat)))]) k_ ?_
    refine RD.forkL (is := [1, 9]) k_ rfl k_ ⟨?_, ?_, trivial⟩
    · skip
      refine RDi.call (i := 1) (r03_FromInt (-1) y_l19_awake y_l19_awake) [] k_ k_ k_ k_ rfl (fun y3 _ => ?_)
      refine RD.forkL (is := [2, 4, 9]) k_ rfl k_ ⟨?_, ?_, ?_, trivial⟩
      · skip
        refine RDi.new (i := 2) (fun b => .slice (some ⟨b, 0, none⟩) 2 2) (.cells (encR ([(y1, (encQ ((1 : Int) : Rat))), (y3, (encQ (((-1) : Int) : Rat)))] : List PR)) 27 (0, 0)) k_ k_ k_ (fun w => by kernel_rfl) (fun b4 => ?_)
        refine RD.forkL (is := [4, 9]) k_ rfl k_ ⟨?_, ?_, trivial⟩
        · skip
          refine RDi.call (i := 4) (r03_FromInt 2 y_l19_awake y_l19_awake) [] k_ k_ k_ k_ rfl (fun y5 _ => ?_)
          refine RD.share 0 rfl rfl k_ ?_
          refine RD.also (allRat ([(y1, (encQ ((1 : Int) : Rat))), (y3, (encQ (((-1) : Int) : Rat)))] : List PR)) (fun w h => allRat_cons (h _ (.tail _ ((.tail _ ((.tail _ ((.head _)))))))) (allRat_cons (h _ (.tail _ ((.tail _ ((.head _)))))) (allRat_nil _))) k_ ?_
          refine RD.also (fRats (⟨some ⟨b4, 0, none⟩, 2⟩ : SA) ([(y1, (encQ ((1 : Int) : Rat))), (y3, (encQ (((-1) : Int) : Rat)))] : List PR)) (fun w h => fRats_own (h _ (.tail _ ((.head _)))) (h _ (.head _)) x_ x_) k_ ?_
          refine RD.turn 10 (v := .slice (some ⟨b4, 0, none⟩) 2 2) (v' := sl (⟨some ⟨b4, 0, none⟩, 2⟩ : SA) ([(y1, (encQ ((1 : Int) : Rat))), (y3, (encQ (((-1) : Int) : Rat)))] : List PR).length) k_ (sl_eq x_) ?_
          refine RD.forkL (is := [5, 9]) k_ rfl k_ ⟨?_, ?_, trivial⟩
          · skip
            refine RDi.call (i := 5) (m19_Mean_c (⟨some ⟨b4, 0, none⟩, 2⟩ : SA) ([(y1, (encQ ((1 : Int) : Rat))), (y3, (encQ (((-1) : Int) : Rat)))] : List PR) y1 ((1 : Int) : Rat) y5 ((2 : Int) : Rat) y_l19_awake y_l19_awake y_l19_awake y_l19_awake y_l19_awake) [0, 5, 3] k_ k_ k_ k_ rfl (fun y6 _ => ?_)
            refine RD.bat k_ [(6, none), (7, none), (8, none)] [1, 14, 15] [] (L' := [8, 7, 6, 5, 4, 2, 1, 3, 0]) (l' := [(1, pt b2), (14, ratV y6 (encQ (meanV ([(y1, (encQ ((1 : Int) : Rat))), (y3, (encQ (((-1) : Int) : Rat)))] : List PR) ((1 : Int) : Rat) ((2 : Int) : Rat)))), (15, .int .i64 (meanE ([(y1, (encQ ((1 : Int) : Rat))), (y3, (encQ (((-1) : Int) : Rat)))] : List PR).length ((1 : Int) : Rat) ((2 : Int) : Rat)))]) k_ ?_
            refine RD.new (i := 9) (fun b => pt b) (.cells (ratC (⟨saNil, saNil⟩ : RA) (⟨false, ([] : List Nat), ([] : List Nat)⟩ : Raw)) 27 (0, 0)) k_ k_ k_ k_ (fun w => by kernel_rfl) (fun b7 => ?_)
            refine RD.last (i := 10) (some 0) [1, 2, 15] [b7, b7, b7] k_ k_ k_ (l' := [(1, pt b2), (2, pt b7), (15, .int .i64 (meanE ([(y1, (encQ ((1 : Int) : Rat))), (y3, (encQ (((-1) : Int) : Rat)))] : List PR).length ((1 : Int) : Rat) ((2 : Int) : Rat)))]) (M' := [(b7, .cells (ratC y6 (encQ (meanV ([(y1, (encQ ((1 : Int) : Rat))), (y3, (encQ (((-1) : Int) : Rat)))] : List PR) ((1 : Int) : Rat) ((2 : Int) : Rat)))) 27 (0, 0)), (b2, .cells (ratC y1 (encQ ((1 : Int) : Rat))) 27 (0, 0))]) k_ ?_
            refine RD.bat k_ [(11, none)] [1, 2, 3] [] (L' := [11, 10, 9, 8, 7, 6, 5, 4, 2, 1, 3, 0]) (l' := [(1, pt b2), (2, pt b7), (3, .int .i64 (meanE ([(y1, (encQ ((1 : Int) : Rat))), (y3, (encQ (((-1) : Int) : Rat)))] : List PR).length ((1 : Int) : Rat) ((2 : Int) : Rat)))]) k_ ?_
            refine RD.done k_ ?_
            refine KN.meet (y3, b4, y5, y6, b7) [1, 2, 3] [0, 1, 2, 3, 4, 5, 6] (l2 := [(1, pt b2), (2, pt b7), (3, .int .i64 (meanE ([(y1, (encQ ((1 : Int) : Rat))), (y3, (encQ (((-1) : Int) : Rat)))] : List PR).length ((1 : Int) : Rat) ((2 : Int) : Rat)))]) (by exact trivial) k_ (by rfl) (by rfl) (by rfl)
          · skip
            refine RDi.new (i := 9) (fun b => pt b) (.cells (ratC (⟨saNil, saNil⟩ : RA) (⟨false, ([] : List Nat), ([] : List Nat)⟩ : Raw)) 27 (0, 0)) k_ k_ k_ (fun w => by kernel_rfl) (fun b8 => ?_)
            refine RD.call (i := 5) (m19_Mean_c (⟨some ⟨b4, 0, none⟩, 2⟩ : SA) ([(y1, (encQ ((1 : Int) : Rat))), (y3, (encQ (((-1) : Int) : Rat)))] : List PR) y1 ((1 : Int) : Rat) y5 ((2 : Int) : Rat) y_l19_awake y_l19_awake y_l19_awake y_l19_awake y_l19_awake) [0, 5, 3] k_ k_ k_ k_ k_ rfl (fun y9 _ => ?_)
            refine RD.bat k_ [(6, none), (7, none), (8, none)] [1, 2, 14, 15] [] (L' := [8, 7, 6, 5, 9, 4, 2, 1, 3, 0]) (l' := [(1, pt b2), (2, pt b8), (14, ratV y9 (encQ (meanV ([(y1, (encQ ((1 : Int) : Rat))), (y3, (encQ (((-1) : Int) : Rat)))] : List PR) ((1 : Int) : Rat) ((2 : Int) : Rat)))), (15, .int .i64 (meanE ([(y1, (encQ ((1 : Int) : Rat))), (y3, (encQ (((-1) : Int) : Rat)))] : List PR).length ((1 : Int) : Rat) ((2 : Int) : Rat)))]) k_ ?_
            refine RD.last (i := 10) (some 0) [1, 2, 15] [b8, b8, b8] k_ k_ k_ (l' := [(1, pt b2), (2, pt b8), (15, .int .i64 (meanE ([(y1, (encQ ((1 : Int) : Rat))), (y3, (encQ (((-1) : Int) : Rat)))] : List PR).length ((1 : Int) : Rat) ((2 : Int) : Rat)))]) (M' := [(b8, .cells (ratC y9 (encQ (meanV ([(y1, (encQ ((1 : Int) : Rat))), (y3, (encQ (((-1) : Int) : Rat)))] : List PR) ((1 : Int) : Rat) ((2 : Int) : Rat)))) 27 (0, 0)), (b2, .cells (ratC y1 (encQ ((1 : Int) : Rat))) 27 (0, 0))]) k_ ?_
            refine RD.bat k_ [(11, none)] [1, 2, 3] [] (L' := [11, 10, 8, 7, 6, 5, 9, 4, 2, 1, 3, 0]) (l' := [(1, pt b2), (2, pt b8), (3, .int .i64 (meanE ([(y1, (encQ ((1 : Int) : Rat))), (y3, (encQ (((-1) : Int) : Rat)))] : List PR).length ((1 : Int) : Rat) ((2 : Int) : Rat)))]) k_ ?_
            refine RD.done k_ ?_
            refine KN.meet (y3, b4, y5, y9, b8) [1, 2, 3] [0, 1, 2, 3, 4, 5, 6] (l2 := [(1, pt b2), (2, pt b8), (3, .int .i64 (meanE ([(y1, (encQ ((1 : Int) : Rat))), (y3, (encQ (((-1) : Int) : Rat)))] : List PR).length ((1 : Int) : Rat) ((2 : Int) : Rat)))]) (by exact trivial) k_ (by rfl) (by rfl) (by rfl)
        · skip
          refine RDi.new (i := 9) (fun b => pt b) (.cells (ratC (⟨saNil, saNil⟩ : RA) (⟨false, ([] : List Nat), ([] : List Nat)⟩ : Raw)) 27 (0, 0)) k_ k_ k_ (fun w => by kernel_rfl) (fun b10 => ?_)
          refine RD.call (i := 4) (r03_FromInt 2 y_l19_awake y_l19_awake) [] k_ k_ k_ k_ k_ rfl (fun y11 _ => ?_)
          refine RD.share 1 rfl rfl k_ ?_
          refine RD.also (allRat ([(y1, (encQ ((1 : Int) : Rat))), (y3, (encQ (((-1) : Int) : Rat)))] : List PR)) (fun w h => allRat_cons (h _ (.tail _ ((.tail _ ((.tail _ ((.head _)))))))) (allRat_cons (h _ (.tail _ ((.tail _ ((.head _)))))) (allRat_nil _))) k_ ?_
          refine RD.also (fRats (⟨some ⟨b4, 0, none⟩, 2⟩ : SA) ([(y1, (encQ ((1 : Int) : Rat))), (y3, (encQ (((-1) : Int) : Rat)))] : List PR)) (fun w h => fRats_own (h _ (.tail _ ((.head _)))) (h _ (.head _)) x_ x_) k_ ?_
          refine RD.turn 10 (v := .slice (some ⟨b4, 0, none⟩) 2 2) (v' := sl (⟨some ⟨b4, 0, none⟩, 2⟩ : SA) ([(y1, (encQ ((1 : Int) : Rat))), (y3, (encQ (((-1) : Int) : Rat)))] : List PR).length) k_ (sl_eq x_) ?_
          refine RD.call (i := 5) (m19_Mean_c (⟨some ⟨b4, 0, none⟩, 2⟩ : SA) ([(y1, (encQ ((1 : Int) : Rat))), (y3, (encQ (((-1) : Int) : Rat)))] : List PR) y1 ((1 : Int) : Rat) y11 ((2 : Int) : Rat) y_l19_awake y_l19_awake y_l19_awake y_l19_awake y_l19_awake) [0, 5, 3] k_ k_ k_ k_ k_ rfl (fun y12 _ => ?_)
          refine RD.bat k_ [(6, none), (7, none), (8, none)] [1, 2, 14, 15] [] (L' := [8, 7, 6, 5, 4, 9, 2, 1, 3, 0]) (l' := [(1, pt b2), (2, pt b10), (14, ratV y12 (encQ (meanV ([(y1, (encQ ((1 : Int) : Rat))), (y3, (encQ (((-1) : Int) : Rat)))] : List PR) ((1 : Int) : Rat) ((2 : Int) : Rat)))), (15, .int .i64 (meanE ([(y1, (encQ ((1 : Int) : Rat))), (y3, (encQ (((-1) : Int) : Rat)))] : List PR).length ((1 : Int) : Rat) ((2 : Int) : Rat)))]) k_ ?_
          refine RD.last (i := 10) (some 0) [1, 2, 15] [b10, b10, b10] k_ k_ k_ (l' := [(1, pt b2), (2, pt b10), (15, .int .i64 (meanE ([(y1, (encQ ((1 : Int) : Rat))), (y3, (encQ (((-1) : Int) : Rat)))] : List PR).length ((1 : Int) : Rat) ((2 : Int) : Rat)))]) (M' := [(b10, .cells (ratC y12 (encQ (meanV ([(y1, (encQ ((1 : Int) : Rat))), (y3, (encQ (((-1) : Int) : Rat)))] : List PR) ((1 : Int) : Rat) ((2 : Int) : Rat)))) 27 (0, 0)), (b2, .cells (ratC y1 (encQ ((1 : Int) : Rat))) 27 (0, 0))]) k_ ?_
          refine RD.bat k_ [(11, none)] [1, 2, 3] [] (L' := [11, 10, 8, 7, 6, 5, 4, 9, 2, 1, 3, 0]) (l' := [(1, pt b2), (2, pt b10), (3, .int .i64 (meanE ([(y1, (encQ ((1 : Int) : Rat))), (y3, (encQ (((-1) : Int) : Rat)))] : List PR).length ((1 : Int) : Rat) ((2 : Int) : Rat)))]) k_ ?_
          refine RD.done k_ ?_
          refine KN.meet (y3, b4, y11, y12, b10) [1, 2, 3] [0, 1, 2, 3, 4, 5, 6] (l2 := [(1, pt b2), (2, pt b10), (3, .int .i64 (meanE ([(y1, (encQ ((1 : Int) : Rat))), (y3, (encQ (((-1) : Int) : Rat)))] : List PR).length ((1 : Int) : Rat) ((2 : Int) : Rat)))]) (by exact trivial) k_ (by rfl) (by rfl) (by rfl)
      · skip
        refine RDi.call (i := 4) (r03_FromInt 2 y_l19_awake y_l19_awake) [] k_ k_ k_ k_ rfl (fun y13 _ => ?_)
        refine RD.forkL (is := [2, 9]) k_ rfl k_ ⟨?_, ?_, trivial⟩
        · skip
          refine RDi.new (i := 2) (fun b => .slice (some ⟨b, 0, none⟩) 2 2) (.cells (encR ([(y1, (encQ ((1 : Int) : Rat))), (y3, (encQ (((-1) : Int) : Rat)))] : List PR)) 27 (0, 0)) k_ k_ k_ (fun w => by kernel_rfl) (fun b14 => ?_)
          refine RD.share 0 rfl rfl k_ ?_
          refine RD.also (allRat ([(y1, (encQ ((1 : Int) : Rat))), (y3, (encQ (((-1) : Int) : Rat)))] : List PR)) (fun w h => allRat_cons (h _ (.tail _ ((.tail _ ((.tail _ ((.head _)))))))) (allRat_cons (h _ (.tail _ ((.tail _ ((.head _)))))) (allRat_nil _))) k_ ?_
          refine RD.also (fRats (⟨some ⟨b14, 0, none⟩, 2⟩ : SA) ([(y1, (encQ ((1 : Int) : Rat))), (y3, (encQ (((-1) : Int) : Rat)))] : List PR)) (fun w h => fRats_own (h _ (.tail _ ((.head _)))) (h _ (.head _)) x_ x_) k_ ?_
          refine RD.turn 10 (v := .slice (some ⟨b14, 0, none⟩) 2 2) (v' := sl (⟨some ⟨b14, 0, none⟩, 2⟩ : SA) ([(y1, (encQ ((1 : Int) : Rat))), (y3, (encQ (((-1) : Int) : Rat)))] : List PR).length) k_ (sl_eq x_) ?_
          refine RD.forkL (is := [5, 9]) k_ rfl k_ ⟨?_, ?_, trivial⟩
          · skip
            refine RDi.call (i := 5) (m19_Mean_c (⟨some ⟨b14, 0, none⟩, 2⟩ : SA) ([(y1, (encQ ((1 : Int) : Rat))), (y3, (encQ (((-1) : Int) : Rat)))] : List PR) y1 ((1 : Int) : Rat) y13 ((2 : Int) : Rat) y_l19_awake y_l19_awake y_l19_awake y_l19_awake y_l19_awake) [0, 5, 3] k_ k_ k_ k_ rfl (fun y15 _ => ?_)
            refine RD.bat k_ [(6, none), (7, none), (8, none)] [1, 14, 15] [] (L' := [8, 7, 6, 5, 2, 4, 1, 3, 0]) (l' := [(1, pt b2), (14, ratV y15 (encQ (meanV ([(y1, (encQ ((1 : Int) : Rat))), (y3, (encQ (((-1) : Int) : Rat)))] : List PR) ((1 : Int) : Rat) ((2 : Int) : Rat)))), (15, .int .i64 (meanE ([(y1, (encQ ((1 : Int) : Rat))), (y3, (encQ (((-1) : Int) : Rat)))] : List PR).length ((1 : Int) : Rat) ((2 : Int) : Rat)))]) k_ ?_
            refine RD.new (i := 9) (fun b => pt b) (.cells (ratC (⟨saNil, saNil⟩ : RA) (⟨false, ([] : List Nat), ([] : List Nat)⟩ : Raw)) 27 (0, 0)) k_ k_ k_ k_ (fun w => by kernel_rfl) (fun b16 => ?_)
            refine RD.last (i := 10) (some 0) [1, 2, 15] [b16, b16, b16] k_ k_ k_ (l' := [(1, pt b2), (2, pt b16), (15, .int .i64 (meanE ([(y1, (encQ ((1 : Int) : Rat))), (y3, (encQ (((-1) : Int) : Rat)))] : List PR).length ((1 : Int) : Rat) ((2 : Int) : Rat)))]) (M' := [(b16, .cells (ratC y15 (encQ (meanV ([(y1, (encQ ((1 : Int) : Rat))), (y3, (encQ (((-1) : Int) : Rat)))] : List PR) ((1 : Int) : Rat) ((2 : Int) : Rat)))) 27 (0, 0)), (b2, .cells (ratC y1 (encQ ((1 : Int) : Rat))) 27 (0, 0))]) k_ ?_
            refine RD.bat k_ [(11, none)] [1, 2, 3] [] (L' := [11, 10, 9, 8, 7, 6, 5, 2, 4, 1, 3, 0]) (l' := [(1, pt b2), (2, pt b16), (3, .int .i64 (meanE ([(y1, (encQ ((1 : Int) : Rat))), (y3, (encQ (((-1) : Int) : Rat)))] : List PR).length ((1 : Int) : Rat) ((2 : Int) : Rat)))]) k_ ?_
            refine RD.done k_ ?_
            refine KN.meet (y3, b14, y13, y15, b16) [1, 2, 3] [0, 1, 2, 3, 4, 5, 6] (l2 := [(1, pt b2), (2, pt b16), (3, .int .i64 (meanE ([(y1, (encQ ((1 : Int) : Rat))), (y3, (encQ (((-1) : Int) : Rat)))] : List PR).length ((1 : Int) : Rat) ((2 : Int) : Rat)))]) (by exact trivial) k_ (by rfl) (by rfl) (by rfl)
          · skip
            refine RDi.new (i := 9) (fun b => pt b) (.cells (ratC (⟨saNil, saNil⟩ : RA) (⟨false, ([] : List Nat), ([] : List Nat)⟩ : Raw)) 27 (0, 0)) k_ k_ k_ (fun w => by kernel_rfl) (fun b17 => ?_)
            refine RD.call (i := 5) (m19_Mean_c (⟨some ⟨b14, 0, none⟩, 2⟩ : SA) ([(y1, (encQ ((1 : Int) : Rat))), (y3, (encQ (((-1) : Int) : Rat)))] : List PR) y1 ((1 : Int) : Rat) y13 ((2 : Int) : Rat) y_l19_awake y_l19_awake y_l19_awake y_l19_awake y_l19_awake) [0, 5, 3] k_ k_ k_ k_ k_ rfl (fun y18 _ => ?_)
            refine RD.bat k_ [(6, none), (7, none), (8, none)] [1, 2, 14, 15] [] (L' := [8, 7, 6, 5, 9, 2, 4, 1, 3, 0]) (l' := [(1, pt b2), (2, pt b17), (14, ratV y18 (encQ (meanV ([(y1, (encQ ((1 : Int) : Rat))), (y3, (encQ (((-1) : Int) : Rat)))] : List PR) ((1 : Int) : Rat) ((2 : Int) : Rat)))), (15, .int .i64 (meanE ([(y1, (encQ ((1 : Int) : Rat))), (y3, (encQ (((-1) : Int) : Rat)))] : List PR).length ((1 : Int) : Rat) ((2 : Int) : Rat)))]) k_ ?_
            refine RD.last (i := 10) (some 0) [1, 2, 15] [b17, b17, b17] k_ k_ k_ (l' := [(1, pt b2), (2, pt b17), (15, .int .i64 (meanE ([(y1, (encQ ((1 : Int) : Rat))), (y3, (encQ (((-1) : Int) : Rat)))] : List PR).length ((1 : Int) : Rat) ((2 : Int) : Rat)))]) (M' := [(b17, .cells (ratC y18 (encQ (meanV ([(y1, (encQ ((1 : Int) : Rat))), (y3, (encQ (((-1) : Int) : Rat)))] : List PR) ((1 : Int) : Rat) ((2 : Int) : Rat)))) 27 (0, 0)), (b2, .cells (ratC y1 (encQ ((1 : Int) : Rat))) 27 (0, 0))]) k_ ?_
            refine RD.bat k_ [(11, none)] [1, 2, 3] [] (L' := [11, 10, 8, 7, 6, 5, 9, 2, 4, 1, 3, 0]) (l' := [(1, pt b2), (2, pt b17), (3, .int .i64 (meanE ([(y1, (encQ ((1 : Int) : Rat))), (y3, (encQ (((-1) : Int) : Rat)))] : List PR).length ((1 : Int) : Rat) ((2 : Int) : Rat)))]) k_ ?_
            refine RD.done k_ ?_
            refine KN.meet (y3, b14, y13, y18, b17) [1, 2, 3] [0, 1, 2, 3, 4, 5, 6] (l2 := [(1, pt b2), (2, pt b17), (3, .int .i64 (meanE ([(y1, (encQ ((1 : Int) : Rat))), (y3, (encQ (((-1) : Int) : Rat)))] : List PR).length ((1 : Int) : Rat) ((2 : Int) : Rat)))]) (by exact trivial) k_ (by rfl) (by rfl) (by rfl)
        · skip
          refine RDi.new (i := 9) (fun b => pt b) (.cells (ratC (⟨saNil, saNil⟩ : RA) (⟨false, ([] : List Nat), ([] : List Nat)⟩ : Raw)) 27 (0, 0)) k_ k_ k_ (fun w => by kernel_rfl) (fun b19 => ?_)
          refine RD.new (i := 2) (fun b => .slice (some ⟨b, 0, none⟩) 2 2) (.cells (encR ([(y1, (encQ ((1 : Int) : Rat))), (y3, (encQ (((-1) : Int) : Rat)))] : List PR)) 27 (0, 0)) k_ k_ k_ k_ (fun w => by kernel_rfl) (fun b20 => ?_)
          refine RD.share 0 rfl rfl k_ ?_
          refine RD.also (allRat ([(y1, (encQ ((1 : Int) : Rat))), (y3, (encQ (((-1) : Int) : Rat)))] : List PR)) (fun w h => allRat_cons (h _ (.tail _ ((.tail _ ((.tail _ ((.head _)))))))) (allRat_cons (h _ (.tail _ ((.tail _ ((.head _)))))) (allRat_nil _))) k_ ?_
          refine RD.also (fRats (⟨some ⟨b20, 0, none⟩, 2⟩ : SA) ([(y1, (encQ ((1 : Int) : Rat))), (y3, (encQ (((-1) : Int) : Rat)))] : List PR)) (fun w h => fRats_own (h _ (.tail _ ((.head _)))) (h _ (.head _)) x_ x_) k_ ?_
          refine RD.turn 10 (v := .slice (some ⟨b20, 0, none⟩) 2 2) (v' := sl (⟨some ⟨b20, 0, none⟩, 2⟩ : SA) ([(y1, (encQ ((1 : Int) : Rat))), (y3, (encQ (((-1) : Int) : Rat)))] : List PR).length) k_ (sl_eq x_) ?_
          refine RD.call (i := 5) (m19_Mean_c (⟨some ⟨b20, 0, none⟩, 2⟩ : SA) ([(y1, (encQ ((1 : Int) : Rat))), (y3, (encQ (((-1) : Int) : Rat)))] : List PR) y1 ((1 : Int) : Rat) y13 ((2 : Int) : Rat) y_l19_awake y_l19_awake y_l19_awake y_l19_awake y_l19_awake) [0, 5, 3] k_ k_ k_ k_ k_ rfl (fun y21 _ => ?_)
          refine RD.bat k_ [(6, none), (7, none), (8, none)] [1, 2, 14, 15] [] (L' := [8, 7, 6, 5, 2, 9, 4, 1, 3, 0]) (l' := [(1, pt b2), (2, pt b19), (14, ratV y21 (encQ (meanV ([(y1, (encQ ((1 : Int) : Rat))), (y3, (encQ (((-1) : Int) : Rat)))] : List PR) ((1 : Int) : Rat) ((2 : Int) : Rat)))), (15, .int .i64 (meanE ([(y1, (encQ ((1 : Int) : Rat))), (y3, (encQ (((-1) : Int) : Rat)))] : List PR).length ((1 : Int) : Rat) ((2 : Int) : Rat)))]) k_ ?_
          refine RD.last (i := 10) (some 0) [1, 2, 15] [b19, b19, b19] k_ k_ k_ (l' := [(1, pt b2), (2, pt b19), (15, .int .i64 (meanE ([(y1, (encQ ((1 : Int) : Rat))), (y3, (encQ (((-1) : Int) : Rat)))] : List PR).length ((1 : Int) : Rat) ((2 : Int) : Rat)))]) (M' := [(b19, .cells (ratC y21 (encQ (meanV ([(y1, (encQ ((1 : Int) : Rat))), (y3, (encQ (((-1) : Int) : Rat)))] : List PR) ((1 : Int) : Rat) ((2 : Int) : Rat)))) 27 (0, 0)), (b2, .cells (ratC y1 (encQ ((1 : Int) : Rat))) 27 (0, 0))]) k_ ?_
          refine RD.bat k_ [(11, none)] [1, 2, 3] [] (L' := [11, 10, 8, 7, 6, 5, 2, 9, 4, 1, 3, 0]) (l' := [(1, pt b2), (2, pt b19), (3, .int .i64 (meanE ([(y1, (encQ ((1 : Int) : Rat))), (y3, (encQ (((-1) : Int) : Rat)))] : List PR).length ((1 : Int) : Rat) ((2 : Int) : Rat)))]) k_ ?_
          refine RD.done k_ ?_
          refine KN.meet (y3, b20, y13, y21, b19) [1, 2, 3] [0, 1, 2, 3, 4, 5, 6] (l2 := [(1, pt b2), (2, pt b19), (3, .int .i64 (meanE ([(y1, (encQ ((1 : Int) : Rat))), (y3, (encQ (((-1) : Int) : Rat)))] : List PR).length ((1 : Int) : Rat) ((2 : Int) : Rat)))]) (by exact trivial) k_ (by rfl) (by rfl) (by rfl)
      · skip
        refine RDi.new (i := 9) (fun b => pt b) (.cells (ratC (⟨saNil, saNil⟩ : RA) (⟨false, ([] : List Nat), ([] : List Nat)⟩ : Raw)) 27 (0, 0)) k_ k_ k_ (fun w => by kernel_rfl) (fun b22 => ?_)
        refine RD.forkL (is := [2, 4]) k_ rfl k_ ⟨?_, ?_, trivial⟩
        · skip
          refine RDi.new (i := 2) (fun b => .slice (some ⟨b, 0, none⟩) 2 2) (.cells (encR ([(y1, (encQ ((1 : Int) : Rat))), (y3, (encQ (((-1) : Int) : Rat)))] : List PR)) 27 (0, 0)) k_ k_ k_ (fun w => by kernel_rfl) (fun b23 => ?_)
          refine RD.call (i := 4) (r03_FromInt 2 y_l19_awake y_l19_awake) [] k_ k_ k_ k_ k_ rfl (fun y24 _ => ?_)
          refine RD.share 0 rfl rfl k_ ?_
          refine RD.also (allRat ([(y1, (encQ ((1 : Int) : Rat))), (y3, (encQ (((-1) : Int) : Rat)))] : List PR)) (fun w h => allRat_cons (h _ (.tail _ ((.tail _ ((.tail _ ((.head _)))))))) (allRat_cons (h _ (.tail _ ((.tail _ ((.head _)))))) (allRat_nil _))) k_ ?_
          refine RD.also (fRats (⟨some ⟨b23, 0, none⟩, 2⟩ : SA) ([(y1, (encQ ((1 : Int) : Rat))), (y3, (encQ (((-1) : Int) : Rat)))] : List PR)) (fun w h => fRats_own (h _ (.tail _ ((.head _)))) (h _ (.head _)) x_ x_) k_ ?_
          refine RD.turn 10 (v := .slice (some ⟨b23, 0, none⟩) 2 2) (v' := sl (⟨some ⟨b23, 0, none⟩, 2⟩ : SA) ([(y1, (encQ ((1 : Int) : Rat))), (y3, (encQ (((-1) : Int) : Rat)))] : List PR).length) k_ (sl_eq x_) ?_
          refine RD.call (i := 5) (m19_Mean_c (⟨some ⟨b23, 0, none⟩, 2⟩ : SA) ([(y1, (encQ ((1 : Int) : Rat))), (y3, (encQ (((-1) : Int) : Rat)))] : List PR) y1 ((1 : Int) : Rat) y24 ((2 : Int) : Rat) y_l19_awake y_l19_awake y_l19_awake y_l19_awake y_l19_awake) [0, 5, 3] k_ k_ k_ k_ k_ rfl (fun y25 _ => ?_)
          refine RD.bat k_ [(6, none), (7, none), (8, none)] [1, 2, 14, 15] [] (L' := [8, 7, 6, 5, 4, 2, 9, 1, 3, 0]) (l' := [(1, pt b2), (2, pt b22), (14, ratV y25 (encQ (meanV ([(y1, (encQ ((1 : Int) : Rat))), (y3, (encQ (((-1) : Int) : Rat)))] : List PR) ((1 : Int) : Rat) ((2 : Int) : Rat)))), (15, .int .i64 (meanE ([(y1, (encQ ((1 : Int) : Rat))), (y3, (encQ (((-1) : Int) : Rat)))] : List PR).length ((1 : Int) : Rat) ((2 : Int) : Rat)))]) k_ ?_
          refine RD.last (i := 10) (some 0) [1, 2, 15] [b22, b22, b22] k_ k_ k_ (l' := [(1, pt b2), (2, pt b22), (15, .int .i64 (meanE ([(y1, (encQ ((1 : Int) : Rat))), (y3, (encQ (((-1) : Int) : Rat)))] : List PR).length ((1 : Int) : Rat) ((2 : Int) : Rat)))]) (M' := [(b22, .cells (ratC y25 (encQ (meanV ([(y1, (encQ ((1 : Int) : Rat))), (y3, (encQ (((-1) : Int) : Rat)))] : List PR) ((1 : Int) : Rat) ((2 : Int) : Rat)))) 27 (0, 0)), (b2, .cells (ratC y1 (encQ ((1 : Int) : Rat))) 27 (0, 0))]) k_ ?_
          refine RD.bat k_ [(11, none)] [1, 2, 3] [] (L' := [11, 10, 8, 7, 6, 5, 4, 2, 9, 1, 3, 0]) (l' := [(1, pt b2), (2, pt b22), (3, .int .i64 (meanE ([(y1, (encQ ((1 : Int) : Rat))), (y3, (encQ (((-1) : Int) : Rat)))] : List PR).length ((1 : Int) : Rat) ((2 : Int) : Rat)))]) k_ ?_
          refine RD.done k_ ?_
          refine KN.meet (y3, b23, y24, y25, b22) [1, 2, 3] [0, 1, 2, 3, 4, 5, 6] (l2 := [(1, pt b2), (2, pt b22), (3, .int .i64 (meanE ([(y1, (encQ ((1 : Int) : Rat))), (y3, (encQ (((-1) : Int) : Rat)))] : List PR).length ((1 : Int) : Rat) ((2 : Int) : Rat)))]) (by exact trivial) k_ (by rfl) (by rfl) (by rfl)
        · skip
          refine RDi.call (i := 4) (r03_FromInt 2 y_l19_awake y_l19_awake) [] k_ k_ k_ k_ rfl (fun y26 _ => ?_)
          refine RD.new (i := 2) (fun b => .slice (some ⟨b, 0, none⟩) 2 2) (.cells (encR ([(y1, (encQ ((1 : Int) : Rat))), (y3, (encQ (((-1) : Int) : Rat)))] : List PR)) 27 (0, 0)) k_ k_ k_ k_ (fun w => by kernel_rfl) (fun b27 => ?_)
          refine RD.share 0 rfl rfl k_ ?_
          refine RD.also (allRat ([(y1, (encQ ((1 : Int) : Rat))), (y3, (encQ (((-1) : Int) : Rat)))] : List PR)) (fun w h => allRat_cons (h _ (.tail _ ((.tail _ ((.tail _ ((.head _)))))))) (allRat_cons (h _ (.tail _ ((.tail _ ((.head _)))))) (allRat_nil _))) k_ ?_
          refine RD.also (fRats (⟨some ⟨b27, 0, none⟩, 2⟩ : SA) ([(y1, (encQ ((1 : Int) : Rat))), (y3, (encQ (((-1) : Int) : Rat)))] : List PR)) (fun w h => fRats_own (h _ (.tail _ ((.head _)))) (h _ (.head _)) x_ x_) k_ ?_
          refine RD.turn 10 (v := .slice (some ⟨b27, 0, none⟩) 2 2) (v' := sl (⟨some ⟨b27, 0, none⟩, 2⟩ : SA) ([(y1, (encQ ((1 : Int) : Rat))), (y3, (encQ (((-1) : Int) : Rat)))] : List PR).length) k_ (sl_eq x_) ?_
          refine RD.call (i := 5) (m19_Mean_c (⟨some ⟨b27, 0, none⟩, 2⟩ : SA) ([(y1, (encQ ((1 : Int) : Rat))), (y3, (encQ (((-1) : Int) : Rat)))] : List PR) y1 ((1 : Int) : Rat) y26 ((2 : Int) : Rat) y_l19_awake y_l19_awake y_l19_awake y_l19_awake y_l19_awake) [0, 5, 3] k_ k_ k_ k_ k_ rfl (fun y28 _ => ?_)
          refine RD.bat k_ [(6, none), (7, none), (8, none)] [1, 2, 14, 15] [] (L' := [8, 7, 6, 5, 2, 4, 9, 1, 3, 0]) (l' := [(1, pt b2), (2, pt b22), (14, ratV y28 (encQ (meanV ([(y1, (encQ ((1 : Int) : Rat))), (y3, (encQ (((-1) : Int) : Rat)))] : List PR) ((1 : Int) : Rat) ((2 : Int) : Rat)))), (15, .int .i64 (meanE ([(y1, (encQ ((1 : Int) : Rat))), (y3, (encQ (((-1) : Int) : Rat)))] : List PR).length ((1 : Int) : Rat) ((2 : Int) : Rat)))]) k_ ?_
          refine RD.last (i := 10) (some 0) [1, 2, 15] [b22, b22, b22] k_ k_ k_ (l' := [(1, pt b2), (2, pt b22), (15, .int .i64 (meanE ([(y1, (encQ ((1 : Int) : Rat))), (y3, (encQ (((-1) : Int) : Rat)))] : List PR).length ((1 : Int) : Rat) ((2 : Int) : Rat)))]) (M' := [(b22, .cells (ratC y28 (encQ (meanV ([(y1, (encQ ((1 : Int) : Rat))), (y3, (encQ (((-1) : Int) : Rat)))] : List PR) ((1 : Int) : Rat) ((2 : Int) : Rat)))) 27 (0, 0)), (b2, .cells (ratC y1 (encQ ((1 : Int) : Rat))) 27 (0, 0))]) k_ ?_
          refine RD.bat k_ [(11, none)] [1, 2, 3] [] (L' := [11, 10, 8, 7, 6, 5, 2, 4, 9, 1, 3, 0]) (l' := [(1, pt b2), (2, pt b22), (3, .int .i64 (meanE ([(y1, (encQ ((1 : Int) : Rat))), (y3, (encQ (((-1) : Int) : Rat)))] : List PR).length ((1 : Int) : Rat) ((2 : Int) : Rat)))]) k_ ?_
          refine RD.done k_ ?_
          refine KN.meet (y3, b27, y26, y28, b22) [1, 2, 3] [0, 1, 2, 3, 4, 5, 6] (l2 := [(1, pt b2), (2, pt b22), (3, .int .i64 (meanE ([(y1, (encQ ((1 : Int) : Rat))), (y3, (encQ (((-1) : Int) : Rat)))] : List PR).length ((1 : Int) : Rat) ((2 : Int) : Rat)))]) (by exact trivial) k_ (by rfl) (by rfl) (by rfl)
    · skip
      refine RDi.new (i := 9) (fun b => pt b) (.cells (ratC (⟨saNil, saNil⟩ : RA) (⟨false, ([] : List Nat), ([] : List Nat)⟩ : Raw)) 27 (0, 0)) k_ k_ k_ (fun w => by kernel_rfl) (fun b29 => ?_)
      refine RD.call (i := 1) (r03_FromInt (-1) y_l19_awake y_l19_awake) [] k_ k_ k_ k_ k_ rfl (fun y30 _ => ?_)
      refine RD.forkL (is := [2, 4]) k_ rfl k_ ⟨?_, ?_, trivial⟩
      · skip
        refine RDi.new (i := 2) (fun b => .slice (some ⟨b, 0, none⟩) 2 2) (.cells (encR ([(y1, (encQ ((1 : Int) : Rat))), (y30, (encQ (((-1) : Int) : Rat)))] : List PR)) 27 (0, 0)) k_ k_ k_ (fun w => by kernel_rfl) (fun b31 => ?_)
        refine RD.call (i := 4) (r03_FromInt 2 y_l19_awake y_l19_awake) [] k_ k_ k_ k_ k_ rfl (fun y32 _ => ?_)
        refine RD.share 0 rfl rfl k_ ?_
        refine RD.also (allRat ([(y1, (encQ ((1 : Int) : Rat))), (y30, (encQ (((-1) : Int) : Rat)))] : List PR)) (fun w h => allRat_cons (h _ (.tail _ ((.tail _ ((.tail _ ((.head _)))))))) (allRat_cons (h _ (.tail _ ((.tail _ ((.head _)))))) (allRat_nil _))) k_ ?_
        refine RD.also (fRats (⟨some ⟨b31, 0, none⟩, 2⟩ : SA) ([(y1, (encQ ((1 : Int) : Rat))), (y30, (encQ (((-1) : Int) : Rat)))] : List PR)) (fun w h => fRats_own (h _ (.tail _ ((.head _)))) (h _ (.head _)) x_ x_) k_ ?_
        refine RD.turn 10 (v := .slice (some ⟨b31, 0, none⟩) 2 2) (v' := sl (⟨some ⟨b31, 0, none⟩, 2⟩ : SA) ([(y1, (encQ ((1 : Int) : Rat))), (y30, (encQ (((-1) : Int) : Rat)))] : List PR).length) k_ (sl_eq x_) ?_
        refine RD.call (i := 5) (m19_Mean_c (⟨some ⟨b31, 0, none⟩, 2⟩ : SA) ([(y1, (encQ ((1 : Int) : Rat))), (y30, (encQ (((-1) : Int) : Rat)))] : List PR) y1 ((1 : Int) : Rat) y32 ((2 : Int) : Rat) y_l19_awake y_l19_awake y_l19_awake y_l19_awake y_l19_awake) [0, 5, 3] k_ k_ k_ k_ k_ rfl (fun y33 _ => ?_)
        refine RD.bat k_ [(6, none), (7, none), (8, none)] [1, 2, 14, 15] [] (L' := [8, 7, 6, 5, 4, 2, 1, 9, 3, 0]) (l' := [(1, pt b2), (2, pt b29), (14, ratV y33 (encQ (meanV ([(y1, (encQ ((1 : Int) : Rat))), (y30, (encQ (((-1) : Int) : Rat)))] : List PR) ((1 : Int) : Rat) ((2 : Int) : Rat)))), (15, .int .i64 (meanE ([(y1, (encQ ((1 : Int) : Rat))), (y30, (encQ (((-1) : Int) : Rat)))] : List PR).length ((1 : Int) : Rat) ((2 : Int) : Rat)))]) k_ ?_
        refine RD.last (i := 10) (some 0) [1, 2, 15] [b29, b29, b29] k_ k_ k_ (l' := [(1, pt b2), (2, pt b29), (15, .int .i64 (meanE ([(y1, (encQ ((1 : Int) : Rat))), (y30, (encQ (((-1) : Int) : Rat)))] : List PR).length ((1 : Int) : Rat) ((2 : Int) : Rat)))]) (M' := [(b29, .cells (ratC y33 (encQ (meanV ([(y1, (encQ ((1 : Int) : Rat))), (y30, (encQ (((-1) : Int) : Rat)))] : List PR) ((1 : Int) : Rat) ((2 : Int) : Rat)))) 27 (0, 0)), (b2, .cells (ratC y1 (encQ ((1 : Int) : Rat))) 27 (0, 0))]) k_ ?_
        refine RD.bat k_ [(11, none)] [1, 2, 3] [] (L' := [11, 10, 8, 7, 6, 5, 4, 2, 1, 9, 3, 0]) (l' := [(1, pt b2), (2, pt b29), (3, .int .i64 (meanE ([(y1, (encQ ((1 : Int) : Rat))), (y30, (encQ (((-1) : Int) : Rat)))] : List PR).length ((1 : Int) : Rat) ((2 : Int) : Rat)))]) k_ ?_
        refine RD.done k_ ?_
        refine KN.meet (y30, b31, y32, y33, b29) [1, 2, 3] [0, 1, 2, 3, 4, 5, 6] (l2 := [(1, pt b2), (2, pt b29), (3, .int .i64 (meanE ([(y1, (encQ ((1 : Int) : Rat))), (y30, (encQ (((-1) : Int) : Rat)))] : List PR).length ((1 : Int) : Rat) ((2 : Int) : Rat)))]) (by exact trivial) k_ (by rfl) (by rfl) (by rfl)
      · skip
        refine RDi.call (i := 4) (r03_FromInt 2 y_l19_awake y_l19_awake) [] k_ k_ k_ k_ rfl (fun y34 _ => ?_)
        refine RD.new (i := 2) (fun b => .slice (some ⟨b, 0, none⟩) 2 2) (.cells (encR ([(y1, (encQ ((1 : Int) : Rat))), (y30, (encQ (((-1) : Int) : Rat)))] : List PR)) 27 (0, 0)) k_ k_ k_ k_ (fun w => by kernel_rfl) (fun b35 => ?_)
        refine RD.share 0 rfl rfl k_ ?_
        refine RD.also (allRat ([(y1, (encQ ((1 : Int) : Rat))), (y30, (encQ (((-1) : Int) : Rat)))] : List PR)) (fun w h => allRat_cons (h _ (.tail _ ((.tail _ ((.tail _ ((.head _)))))))) (allRat_cons (h _ (.tail _ ((.tail _ ((.head _)))))) (allRat_nil _))) k_ ?_
        refine RD.also (fRats (⟨some ⟨b35, 0, none⟩, 2⟩ : SA) ([(y1, (encQ ((1 : Int) : Rat))), (y30, (encQ (((-1) : Int) : Rat)))] : List PR)) (fun w h => fRats_own (h _ (.tail _ ((.head _)))) (h _ (.head _)) x_ x_) k_ ?_
        refine RD.turn 10 (v := .slice (some ⟨b35, 0, none⟩) 2 2) (v' := sl (⟨some ⟨b35, 0, none⟩, 2⟩ : SA) ([(y1, (encQ ((1 : Int) : Rat))), (y30, (encQ (((-1) : Int) : Rat)))] : List PR).length) k_ (sl_eq x_) ?_
        refine RD.call (i := 5) (m19_Mean_c (⟨some ⟨b35, 0, none⟩, 2⟩ : SA) ([(y1, (encQ ((1 : Int) : Rat))), (y30, (encQ (((-1) : Int) : Rat)))] : List PR) y1 ((1 : Int) : Rat) y34 ((2 : Int) : Rat) y_l19_awake y_l19_awake y_l19_awake y_l19_awake y_l19_awake) [0, 5, 3] k_ k_ k_ k_ k_ rfl (fun y36 _ => ?_)
        refine RD.bat k_ [(6, none), (7, none), (8, none)] [1, 2, 14, 15] [] (L' := [8, 7, 6, 5, 2, 4, 1, 9, 3, 0]) (l' := [(1, pt b2), (2, pt b29), (14, ratV y36 (encQ (meanV ([(y1, (encQ ((1 : Int) : Rat))), (y30, (encQ (((-1) : Int) : Rat)))] : List PR) ((1 : Int) : Rat) ((2 : Int) : Rat)))), (15, .int .i64 (meanE ([(y1, (encQ ((1 : Int) : Rat))), (y30, (encQ (((-1) : Int) : Rat)))] : List PR).length ((1 : Int) : Rat) ((2 : Int) : Rat)))]) k_ ?_
        refine RD.last (i := 10) (some 0) [1, 2, 15] [b29, b29, b29] k_ k_ k_ (l' := [(1, pt b2), (2, pt b29), (15, .int .i64 (meanE ([(y1, (encQ ((1 : Int) : Rat))), (y30, (encQ (((-1) : Int) : Rat)))] : List PR).length ((1 : Int) : Rat) ((2 : Int) : Rat)))]) (M' := [(b29, .cells (ratC y36 (encQ (meanV ([(y1, (encQ ((1 : Int) : Rat))), (y30, (encQ (((-1) : Int) : Rat)))] : List PR) ((1 : Int) : Rat) ((2 : Int) : Rat)))) 27 (0, 0)), (b2, .cells (ratC y1 (encQ ((1 : Int) : Rat))) 27 (0, 0))]) k_ ?_
        refine RD.bat k_ [(11, none)] [1, 2, 3] [] (L' := [11, 10, 8, 7, 6, 5, 2, 4, 1, 9, 3, 0]) (l' := [(1, pt b2), (2, pt b29), (3, .int .i64 (meanE ([(y1, (encQ ((1 : Int) : Rat))), (y30, (encQ (((-1) : Int) : Rat)))] : List PR).length ((1 : Int) : Rat) ((2 : Int) : Rat)))]) k_ ?_
        refine RD.done k_ ?_
        refine KN.meet (y30, b35, y34, y36, b29) [1, 2, 3] [0, 1, 2, 3, 4, 5, 6] (l2 := [(1, pt b2), (2, pt b29), (3, .int .i64 (meanE ([(y1, (encQ ((1 : Int) : Rat))), (y30, (encQ (((-1) : Int) : Rat)))] : List PR).length ((1 : Int) : Rat) ((2 : Int) : Rat)))]) (by exact trivial) k_ (by rfl) (by rfl) (by rfl)
  · skip
    intro x37 hx38
    obtain ⟨y3, b4, y5, y6, b7⟩ := x37
    replace hx38 : True := hx38
    refine J.seqC (ι := (RA) × (Nat) × (RA) × (RA × RA × Rat × Rat) × (Nat)) (fun x => (ScaleR (vals ([((⟨saNil, saNil⟩ : RA), (⟨false, ([] : List Nat), ([] : List Nat)⟩ : Raw)), ((⟨saNil, saNil⟩ : RA), (⟨false, ([] : List Nat), ([] : List Nat)⟩ : Raw)), ((⟨saNil, saNil⟩ : RA), (⟨false, ([] : List Nat), ([] : List Nat)⟩ : Raw)), (x.1, (encQ ((5 : Int) : Rat)))] : List PR)) ([((⟨saNil, saNil⟩ : RA), (⟨false, ([] : List Nat), ([] : List Nat)⟩ : Raw)), ((⟨saNil, saNil⟩ : RA), (⟨false, ([] : List Nat), ([] : List Nat)⟩ : Raw)), ((⟨saNil, saNil⟩ : RA), (⟨false, ([] : List Nat), ([] : List Nat)⟩ : Raw)), (x.1, (encQ ((5 : Int) : Rat)))] : List PR).length ((1 : Int) : Rat) (((1 : Int) : Rat) / ((4 : Int) : Rat)) 3 x.2.2.2.1.2.2.1 x.2.2.2.1.2.2.2)) (fun x => [(2, pt b7), (3, .int .i64 (meanE ([(y1, (encQ ((1 : Int) : Rat))), (y3, (encQ (((-1) : Int) : Rat)))] : List PR).length ((1 : Int) : Rat) ((2 : Int) : Rat))), (4, .pointer (some ⟨x.2.2.2.2, 0, none⟩)), (5, .int .i64 (checkE ([((⟨saNil, saNil⟩ : RA), (⟨false, ([] : List Nat), ([] : List Nat)⟩ : Raw)), ((⟨saNil, saNil⟩ : RA), (⟨false, ([] : List Nat), ([] : List Nat)⟩ : Raw)), ((⟨saNil, saNil⟩ : RA), (⟨false, ([] : List Nat), ([] : List Nat)⟩ : Raw)), (x.1, (encQ ((5 : Int) : Rat)))] : List PR).length ((1 : Int) : Rat) (((1 : Int) : Rat) / ((4 : Int) : Rat)) 3))]) (fun x => [(x.2.2.2.2, .cells (ivC x.2.2.2.1.1 (encQ x.2.2.2.1.2.2.1) x.2.2.2.1.2.1 (encQ x.2.2.2.1.2.2.2)) 38 (0, 0)), (b7, .cells (ratC y6 (encQ (meanV ([(y1, (encQ ((1 : Int) : Rat))), (y3, (encQ (((-1) : Int) : Rat)))] : List PR) ((1 : Int) : Rat) ((2 : Int) : Rat)))) 27 (0, 0)), (b2, .cells (ratC y1 (encQ ((1 : Int) : Rat))) 27 (0, 0))]) (fun x => [fRat x.2.2.2.1.1 (encQ x.2.2.2.1.2.2.1), fRat x.2.2.2.1.2.1 (encQ x.2.2.2.1.2.2.2), fRats (⟨some ⟨x.2.1, 0, none⟩, 4⟩ : SA) ([((⟨saNil, saNil⟩ : RA), (⟨false, ([] : List Nat), ([] : List Nat)⟩ : Raw)), ((⟨saNil, saNil⟩ : RA), (⟨false, ([] : List Nat), ([] : List Nat)⟩ : Raw)), ((⟨saNil, saNil⟩ : RA), (⟨false, ([] : List Nat), ([] : List Nat)⟩ : Raw)), (x.1, (encQ ((5 : Int) : Rat)))] : List PR), allRat ([((⟨saNil, saNil⟩ : RA), (⟨false, ([] : List Nat), ([] : List Nat)⟩ : Raw)), ((⟨saNil, saNil⟩ : RA), (⟨false, ([] : List Nat), ([] : List Nat)⟩ : Raw)), ((⟨saNil, saNil⟩ : RA), (⟨false, ([] : List Nat), ([] : List Nat)⟩ : Raw)), (x.1, (encQ ((5 : Int) : Rat)))] : List PR), fRat (⟨saNil, saNil⟩ : RA) (⟨false, ([] : List Nat), ([] : List Nat)⟩ : Raw), fBlk x.2.1 (.cells (encR ([((⟨saNil, saNil⟩ : RA), (⟨false, ([] : List Nat), ([] : List Nat)⟩ : Raw)), ((⟨saNil, saNil⟩ : RA), (⟨false, ([] : List Nat), ([] : List Nat)⟩ : Raw)), ((⟨saNil, saNil⟩ : RA), (⟨false, ([] : List Nat), ([] : List Nat)⟩ : Raw)), (x.1, (encQ ((5 : Int) : Rat)))] : List PR)) 27 (0, 0)), fRat x.2.2.1 (encQ (((1 : Int) : Rat) / ((4 : Int) : Rat))), fRat x.1 (encQ ((5 : Int) : Rat)), fRat y6 (encQ (meanV ([(y1, (encQ ((1 : Int) : Rat))), (y3, (encQ (((-1) : Int) : Rat)))] : List PR) ((1 : Int) : Rat) ((2 : Int) : Rat))), fRats (⟨some ⟨b4, 0, none⟩, 2⟩ : SA) ([(y1, (encQ ((1 : Int) : Rat))), (y3, (encQ (((-1) : Int) : Rat)))] : List PR), allRat ([(y1, (encQ ((1 : Int) : Rat))), (y3, (encQ (((-1) : Int) : Rat)))] : List PR), fBlk b4 (.cells (encR ([(y1, (encQ ((1 : Int) : Rat))), (y3, (encQ (((-1) : Int) : Rat)))] : List PR)) 27 (0, 0)), fRat y5 (encQ ((2 : Int) : Rat)), fRat y3 (encQ (((-1) : Int) : Rat)), fRat y1 (encQ ((1 : Int) : Rat))]) ?_ ?_
    · skip
      refine J.regD k_ [12] ?_
      refine RD.bat k_ [(0, none), (1, none), (2, none), (5, some 1)] [2, 3, 17, 18, 19, 22] [b2, b2, b2] (L' := [5, 2, 1, 0]) (l' := [(2, pt b7), (3, .int .i64 (meanE ([(y1, (encQ ((1 : Int) : Rat))), (y3, (encQ (((-1) : Int) : Rat)))] : List PR).length ((1 : Int) : Rat) ((2 : Int) : Rat))), (17, ratV (⟨saNil, saNil⟩ : RA) (⟨false, ([] : List Nat), ([] : List Nat)⟩ : Raw)), (18, ratV (⟨saNil, saNil⟩ : RA) (⟨false, ([] : List Nat), ([] : List Nat)⟩ : Raw)), (19, ratV (⟨saNil, saNil⟩ : RA) (⟨false, ([] : List Nat), ([] : List Nat)⟩ : Raw)), (22, ratV y1 (encQ ((1 : Int) : Rat)))]) k_ ?_
      refine RD.forkL (is := [3, 11]) k_ rfl k_ ⟨?_, ?_, trivial⟩
      · skip
        refine RDi.call (i := 3) (r03_FromInt 5 y_l19_awake y_l19_awake) [] k_ k_ k_ k_ rfl (fun y39 _ => ?_)
        refine RD.forkL (is := [4, 6, 11]) k_ rfl k_ ⟨?_, ?_, ?_, trivial⟩
        · skip
          refine RDi.new (i := 4) (fun b => .slice (some ⟨b, 0, none⟩) 4 4) (.cells (encR ([((⟨saNil, saNil⟩ : RA), (⟨false, ([] : List Nat), ([] : List Nat)⟩ : Raw)), ((⟨saNil, saNil⟩ : RA), (⟨false, ([] : List Nat), ([] : List Nat)⟩ : Raw)), ((⟨saNil, saNil⟩ : RA), (⟨false, ([] : List Nat), ([] : List Nat)⟩ : Raw)), (y39, (encQ ((5 : Int) : Rat)))] : List PR)) 27 (0, 0)) k_ k_ k_ (fun w => by kernel_rfl) (fun b40 => ?_)
          refine RD.forkL (is := [6, 11]) k_ rfl k_ ⟨?_, ?_, trivial⟩
          · skip
            refine RDi.call (i := 6) (r03_Fraction 1 4 y_l19_awake y_l19_awake y_l19_awake y_l19_awake y_l19_awake) [] k_ k_ k_ k_ rfl (fun y41 _ => ?_)
            refine RD.share 0 rfl rfl k_ ?_
            refine RD.also (fRat (⟨saNil, saNil⟩ : RA) (⟨false, ([] : List Nat), ([] : List Nat)⟩ : Raw)) (fun w h => ⟨fU_nil w, fU_nil w⟩) k_ ?_
            refine RD.also (allRat ([((⟨saNil, saNil⟩ : RA), (⟨false, ([] : List Nat), ([] : List Nat)⟩ : Raw)), ((⟨saNil, saNil⟩ : RA), (⟨false, ([] : List Nat), ([] : List Nat)⟩ : Raw)), ((⟨saNil, saNil⟩ : RA), (⟨false, ([] : List Nat), ([] : List Nat)⟩ : Raw)), (y39, (encQ ((5 : Int) : Rat)))] : List PR)) (fun w h => allRat_cons (h _ (.head _)) (allRat_cons (h _ (.head _)) (allRat_cons (h _ (.head _)) (allRat_cons (h _ (.tail _ ((.tail _ ((.tail _ ((.head _)))))))) (allRat_nil _))))) k_ ?_
            refine RD.also (fRats (⟨some ⟨b40, 0, none⟩, 4⟩ : SA) ([((⟨saNil, saNil⟩ : RA), (⟨false, ([] : List Nat), ([] : List Nat)⟩ : Raw)), ((⟨saNil, saNil⟩ : RA), (⟨false, ([] : List Nat), ([] : List Nat)⟩ : Raw)), ((⟨saNil, saNil⟩ : RA), (⟨false, ([] : List Nat), ([] : List Nat)⟩ : Raw)), (y39, (encQ ((5 : Int) : Rat)))] : List PR)) (fun w h => fRats_own (h _ (.tail _ ((.tail _ ((.head _)))))) (h _ (.head _)) x_ x_) k_ ?_
            refine RD.turn 21 (v := .slice (some ⟨b40, 0, none⟩) 4 4) (v' := sl (⟨some ⟨b40, 0, none⟩, 4⟩ : SA) ([((⟨saNil, saNil⟩ : RA), (⟨false, ([] : List Nat), ([] : List Nat)⟩ : Raw)), ((⟨saNil, saNil⟩ : RA), (⟨false, ([] : List Nat), ([] : List Nat)⟩ : Raw)), ((⟨saNil, saNil⟩ : RA), (⟨false, ([] : List Nat), ([] : List Nat)⟩ : Raw)), (y39, (encQ ((5 : Int) : Rat)))] : List PR).length) k_ (sl_eq x_) ?_
            refine RD.forkL (is := [7, 11]) k_ rfl k_ ⟨?_, ?_, trivial⟩
            · skip
              refine RDi.call (i := 7) (m19_Scale_c (⟨some ⟨b40, 0, none⟩, 4⟩ : SA) ([((⟨saNil, saNil⟩ : RA), (⟨false, ([] : List Nat), ([] : List Nat)⟩ : Raw)), ((⟨saNil, saNil⟩ : RA), (⟨false, ([] : List Nat), ([] : List Nat)⟩ : Raw)), ((⟨saNil, saNil⟩ : RA), (⟨false, ([] : List Nat), ([] : List Nat)⟩ : Raw)), (y39, (encQ ((5 : Int) : Rat)))] : List PR) y1 ((1 : Int) : Rat) y41 (((1 : Int) : Rat) / ((4 : Int) : Rat)) 3 y_l19_awake y_l19_awake y_l19_awake y_l19_awake y_l19_awake) [0, 12, 4] k_ k_ k_ k_ rfl (fun y42 h43 => ?_)
              refine RD.bat k_ [(8, none), (9, none), (10, none)] [2, 3, 25, 26] [] (L' := [10, 9, 8, 7, 6, 4, 3, 5, 2, 1, 0]) (l' := [(2, pt b7), (3, .int .i64 (meanE ([(y1, (encQ ((1 : Int) : Rat))), (y3, (encQ (((-1) : Int) : Rat)))] : List PR).length ((1 : Int) : Rat) ((2 : Int) : Rat))), (25, .agg (ivC y42.1 (encQ y42.2.2.1) y42.2.1 (encQ y42.2.2.2))), (26, .int .i64 (checkE ([((⟨saNil, saNil⟩ : RA), (⟨false, ([] : List Nat), ([] : List Nat)⟩ : Raw)), ((⟨saNil, saNil⟩ : RA), (⟨false, ([] : List Nat), ([] : List Nat)⟩ : Raw)), ((⟨saNil, saNil⟩ : RA), (⟨false, ([] : List Nat), ([] : List Nat)⟩ : Raw)), (y39, (encQ ((5 : Int) : Rat)))] : List PR).length ((1 : Int) : Rat) (((1 : Int) : Rat) / ((4 : Int) : Rat)) 3))]) k_ ?_
              refine RD.new (i := 11) (fun b => pt b) (.cells (ivC (⟨saNil, saNil⟩ : RA) (⟨false, ([] : List Nat), ([] : List Nat)⟩ : Raw) (⟨saNil, saNil⟩ : RA) (⟨false, ([] : List Nat), ([] : List Nat)⟩ : Raw)) 38 (0, 0)) k_ k_ k_ k_ (fun w => by kernel_rfl) (fun b44 => ?_)
              refine RD.last (i := 12) (some 0) [2, 3, 4, 26] [b44, b44, b44, b44, b44, b44] k_ k_ k_ (l' := [(2, pt b7), (3, .int .i64 (meanE ([(y1, (encQ ((1 : Int) : Rat))), (y3, (encQ (((-1) : Int) : Rat)))] : List PR).length ((1 : Int) : Rat) ((2 : Int) : Rat))), (4, pt b44), (26, .int .i64 (checkE ([((⟨saNil, saNil⟩ : RA), (⟨false, ([] : List Nat), ([] : List Nat)⟩ : Raw)), ((⟨saNil, saNil⟩ : RA), (⟨false, ([] : List Nat), ([] : List Nat)⟩ : Raw)), ((⟨saNil, saNil⟩ : RA), (⟨false, ([] : List Nat), ([] : List Nat)⟩ : Raw)), (y39, (encQ ((5 : Int) : Rat)))] : List PR).length ((1 : Int) : Rat) (((1 : Int) : Rat) / ((4 : Int) : Rat)) 3))]) (M' := [(b44, .cells (ivC y42.1 (encQ y42.2.2.1) y42.2.1 (encQ y42.2.2.2)) 38 (0, 0)), (b7, .cells (ratC y6 (encQ (meanV ([(y1, (encQ ((1 : Int) : Rat))), (y3, (encQ (((-1) : Int) : Rat)))] : List PR) ((1 : Int) : Rat) ((2 : Int) : Rat)))) 27 (0, 0)), (b2, .cells (ratC y1 (encQ ((1 : Int) : Rat))) 27 (0, 0))]) k_ ?_
              refine RD.bat k_ [(13, none)] [2, 3, 4, 5] [] (L' := [13, 12, 11, 10, 9, 8, 7, 6, 4, 3, 5, 2, 1, 0]) (l' := [(2, pt b7), (3, .int .i64 (meanE ([(y1, (encQ ((1 : Int) : Rat))), (y3, (encQ (((-1) : Int) : Rat)))] : List PR).length ((1 : Int) : Rat) ((2 : Int) : Rat))), (4, pt b44), (5, .int .i64 (checkE ([((⟨saNil, saNil⟩ : RA), (⟨false, ([] : List Nat), ([] : List Nat)⟩ : Raw)), ((⟨saNil, saNil⟩ : RA), (⟨false, ([] : List Nat), ([] : List Nat)⟩ : Raw)), ((⟨saNil, saNil⟩ : RA), (⟨false, ([] : List Nat), ([] : List Nat)⟩ : Raw)), (y39, (encQ ((5 : Int) : Rat)))] : List PR).length ((1 : Int) : Rat) (((1 : Int) : Rat) / ((4 : Int) : Rat)) 3))]) k_ ?_
              refine RD.done k_ ?_
              refine KN.meet (y39, b40, y41, y42, b44) [2, 3, 4, 5] [0, 1, 2, 3, 4, 5, 6, 7, 8, 9, 10, 11, 12, 13, 14] (l2 := [(2, pt b7), (3, .int .i64 (meanE ([(y1, (encQ ((1 : Int) : Rat))), (y3, (encQ (((-1) : Int) : Rat)))] : List PR).length ((1 : Int) : Rat) ((2 : Int) : Rat))), (4, pt b44), (5, .int .i64 (checkE ([((⟨saNil, saNil⟩ : RA), (⟨false, ([] : List Nat), ([] : List Nat)⟩ : Raw)), ((⟨saNil, saNil⟩ : RA), (⟨false, ([] : List Nat), ([] : List Nat)⟩ : Raw)), ((⟨saNil, saNil⟩ : RA), (⟨false, ([] : List Nat), ([] : List Nat)⟩ : Raw)), (y39, (encQ ((5 : Int) : Rat)))] : List PR).length ((1 : Int) : Rat) (((1 : Int) : Rat) / ((4 : Int) : Rat)) 3))]) (by exact h43) k_ (by rfl) (by rfl) (by rfl)
            · skip
              refine RDi.new (i := 11) (fun b => pt b) (.cells (ivC (⟨saNil, saNil⟩ : RA) (⟨false, ([] : List Nat), ([] : List Nat)⟩ : Raw) (⟨saNil, saNil⟩ : RA) (⟨false, ([] : List Nat), ([] : List Nat)⟩ : Raw)) 38 (0, 0)) k_ k_ k_ (fun w => by kernel_rfl) (fun b45 => ?_)
              refine RD.call (i := 7) (m19_Scale_c (⟨some ⟨b40, 0, none⟩, 4⟩ : SA) ([((⟨saNil, saNil⟩ : RA), (⟨false, ([] : List Nat), ([] : List Nat)⟩ : Raw)), ((⟨saNil, saNil⟩ : RA), (⟨false, ([] : List Nat), ([] : List Nat)⟩ : Raw)), ((⟨saNil, saNil⟩ : RA), (⟨false, ([] : List Nat), ([] : List Nat)⟩ : Raw)), (y39, (encQ ((5 : Int) : Rat)))] : List PR) y1 ((1 : Int) : Rat) y41 (((1 : Int) : Rat) / ((4 : Int) : Rat)) 3 y_l19_awake y_l19_awake y_l19_awake y_l19_awake y_l19_awake) [0, 12, 4] k_ k_ k_ k_ k_ rfl (fun y46 h47 => ?_)
              refine RD.bat k_ [(8, none), (9, none), (10, none)] [2, 3, 4, 25, 26] [] (L' := [10, 9, 8, 7, 11, 6, 4, 3, 5, 2, 1, 0]) (l' := [(2, pt b7), (3, .int .i64 (meanE ([(y1, (encQ ((1 : Int) : Rat))), (y3, (encQ (((-1) : Int) : Rat)))] : List PR).length ((1 : Int) : Rat) ((2 : Int) : Rat))), (4, pt b45), (25, .agg (ivC y46.1 (encQ y46.2.2.1) y46.2.1 (encQ y46.2.2.2))), (26, .int .i64 (checkE ([((⟨saNil, saNil⟩ : RA), (⟨false, ([] : List Nat), ([] : List Nat)⟩ : Raw)), ((⟨saNil, saNil⟩ : RA), (⟨false, ([] : List Nat), ([] : List Nat)⟩ : Raw)), ((⟨saNil, saNil⟩ : RA), (⟨false, ([] : List Nat), ([] : List Nat)⟩ : Raw)), (y39, (encQ ((5 : Int) : Rat)))] : List PR).length ((1 : Int) : Rat) (((1 : Int) : Rat) / ((4 : Int) : Rat)) 3))]) k_ ?_
              refine RD.last (i := 12) (some 0) [2, 3, 4, 26] [b45, b45, b45, b45, b45, b45] k_ k_ k_ (l' := [(2, pt b7), (3, .int .i64 (meanE ([(y1, (encQ ((1 : Int) : Rat))), (y3, (encQ (((-1) : Int) : Rat)))] : List PR).length ((1 : Int) : Rat) ((2 : Int) : Rat))), (4, pt b45), (26, .int .i64 (checkE ([((⟨saNil, saNil⟩ : RA), (⟨false, ([] : List Nat), ([] : List Nat)⟩ : Raw)), ((⟨saNil, saNil⟩ : RA), (⟨false, ([] : List Nat), ([] : List Nat)⟩ : Raw)), ((⟨saNil, saNil⟩ : RA), (⟨false, ([] : List Nat), ([] : List Nat)⟩ : Raw)), (y39, (encQ ((5 : Int) : Rat)))] : List PR).length ((1 : Int) : Rat) (((1 : Int) : Rat) / ((4 : Int) : Rat)) 3))]) (M' := [(b45, .cells (ivC y46.1 (encQ y46.2.2.1) y46.2.1 (encQ y46.2.2.2)) 38 (0, 0)), (b7, .cells (ratC y6 (encQ (meanV ([(y1, (encQ ((1 : Int) : Rat))), (y3, (encQ (((-1) : Int) : Rat)))] : List PR) ((1 : Int) : Rat) ((2 : Int) : Rat)))) 27 (0, 0)), (b2, .cells (ratC y1 (encQ ((1 : Int) : Rat))) 27 (0, 0))]) k_ ?_
              refine RD.bat k_ [(13, none)] [2, 3, 4, 5] [] (L' := [13, 12, 10, 9, 8, 7, 11, 6, 4, 3, 5, 2, 1, 0]) (l' := [(2, pt b7), (3, .int .i64 (meanE ([(y1, (encQ ((1 : Int) : Rat))), (y3, (encQ (((-1) : Int) : Rat)))] : List PR).length ((1 : Int) : Rat) ((2 : Int) : Rat))), (4, pt b45), (5, .int .i64 (checkE ([((⟨saNil, saNil⟩ : RA), (⟨false, ([] : List Nat), ([] : List Nat)⟩ : Raw)), ((⟨saNil, saNil⟩ : RA), (⟨false, ([] : List Nat), ([] : List Nat)⟩ : Raw)), ((⟨saNil, saNil⟩ : RA), (⟨false, ([] : List Nat), ([] : List Nat)⟩ : Raw)), (y39, (encQ ((5 : Int) : Rat)))] : List PR).length ((1 : Int) : Rat) (((1 : Int) : Rat) / ((4 : Int) : Rat)) 3))]) k_ ?_
              refine RD.done k_ ?_
              refine KN.meet (y39, b40, y41, y46, b45) [2, 3, 4, 5] [0, 1, 2, 3, 4, 5, 6, 7, 8, 9, 10, 11, 12, 13, 14] (l2 := [(2, pt b7), (3, .int .i64 (meanE ([(y1, (encQ ((1 : Int) : Rat))), (y3, (encQ (((-1) : Int) : Rat)))] : List PR).length ((1 : Int) : Rat) ((2 : Int) : Rat))), (4, pt b45), (5, .int .i64 (checkE ([((⟨saNil, saNil⟩ : RA), (⟨false, ([] : List Nat), ([] : List Nat)⟩ : Raw)), ((⟨saNil, saNil⟩ : RA), (⟨false, ([] : List Nat), ([] : List Nat)⟩ : Raw)), ((⟨saNil, saNil⟩ : RA), (⟨false, ([] : List Nat), ([] : List Nat)⟩ : Raw)), (y39, (encQ ((5 : Int) : Rat)))] : List PR).length ((1 : Int) : Rat) (((1 : Int) : Rat) / ((4 : Int) : Rat)) 3))]) (by exact h47) k_ (by rfl) (by rfl) (by rfl)
          · skip
            refine RDi.new (i := 11) (fun b => pt b) (.cells (ivC (⟨saNil, saNil⟩ : RA) (⟨false, ([] : List Nat), ([] : List Nat)⟩ : Raw) (⟨saNil, saNil⟩ : RA) (⟨false, ([] : List Nat), ([] : List Nat)⟩ : Raw)) 38 (0, 0)) k_ k_ k_ (fun w => by kernel_rfl) (fun b48 => ?_)
            refine RD.call (i := 6) (r03_Fraction 1 4 y_l19_awake y_l19_awake y_l19_awake y_l19_awake y_l19_awake) [] k_ k_ k_ k_ k_ rfl (fun y49 _ => ?_)
            refine RD.share 1 rfl rfl k_ ?_
            refine RD.also (fRat (⟨saNil, saNil⟩ : RA) (⟨false, ([] : List Nat), ([] : List Nat)⟩ : Raw)) (fun w h => ⟨fU_nil w, fU_nil w⟩) k_ ?_
            refine RD.also (allRat ([((⟨saNil, saNil⟩ : RA), (⟨false, ([] : List Nat), ([] : List Nat)⟩ : Raw)), ((⟨saNil, saNil⟩ : RA), (⟨false, ([] : List Nat), ([] : List Nat)⟩ : Raw)), ((⟨saNil, saNil⟩ : RA), (⟨false, ([] : List Nat), ([] : List Nat)⟩ : Raw)), (y39, (encQ ((5 : Int) : Rat)))] : List PR)) (fun w h => allRat_cons (h _ (.head _)) (allRat_cons (h _ (.head _)) (allRat_cons (h _ (.head _)) (allRat_cons (h _ (.tail _ ((.tail _ ((.tail _ ((.head _)))))))) (allRat_nil _))))) k_ ?_
            refine RD.also (fRats (⟨some ⟨b40, 0, none⟩, 4⟩ : SA) ([((⟨saNil, saNil⟩ : RA), (⟨false, ([] : List Nat), ([] : List Nat)⟩ : Raw)), ((⟨saNil, saNil⟩ : RA), (⟨false, ([] : List Nat), ([] : List Nat)⟩ : Raw)), ((⟨saNil, saNil⟩ : RA), (⟨false, ([] : List Nat), ([] : List Nat)⟩ : Raw)), (y39, (encQ ((5 : Int) : Rat)))] : List PR)) (fun w h => fRats_own (h _ (.tail _ ((.tail _ ((.head _)))))) (h _ (.head _)) x_ x_) k_ ?_
            refine RD.turn 21 (v := .slice (some ⟨b40, 0, none⟩) 4 4) (v' := sl (⟨some ⟨b40, 0, none⟩, 4⟩ : SA) ([((⟨saNil, saNil⟩ : RA), (⟨false, ([] : List Nat), ([] : List Nat)⟩ : Raw)), ((⟨saNil, saNil⟩ : RA), (⟨false, ([] : List Nat), ([] : List Nat)⟩ : Raw)), ((⟨saNil, saNil⟩ : RA), (⟨false, ([] : List Nat), ([] : List Nat)⟩ : Raw)), (y39, (encQ ((5 : Int) : Rat)))] : List PR).length) k_ (sl_eq x_) ?_
            refine RD.call (i := 7) (m19_Scale_c (⟨some ⟨b40, 0, none⟩, 4⟩ : SA) ([((⟨saNil, saNil⟩ : RA), (⟨false, ([] : List Nat), ([] : List Nat)⟩ : Raw)), ((⟨saNil, saNil⟩ : RA), (⟨false, ([] : List Nat), ([] : List Nat)⟩ : Raw)), ((⟨saNil, saNil⟩ : RA), (⟨false, ([] : List Nat), ([] : List Nat)⟩ : Raw)), (y39, (encQ ((5 : Int) : Rat)))] : List PR) y1 ((1 : Int) : Rat) y49 (((1 : Int) : Rat) / ((4 : Int) : Rat)) 3 y_l19_awake y_l19_awake y_l19_awake y_l19_awake y_l19_awake) [0, 12, 4] k_ k_ k_ k_ k_ rfl (fun y50 h51 => ?_)
            refine RD.bat k_ [(8, none), (9, none), (10, none)] [2, 3, 4, 25, 26] [] (L' := [10, 9, 8, 7, 6, 11, 4, 3, 5, 2, 1, 0]) (l' := [(2, pt b7), (3, .int .i64 (meanE ([(y1, (encQ ((1 : Int) : Rat))), (y3, (encQ (((-1) : Int) : Rat)))] : List PR).length ((1 : Int) : Rat) ((2 : Int) : Rat))), (4, pt b48), (25, .agg (ivC y50.1 (encQ y50.2.2.1) y50.2.1 (encQ y50.2.2.2))), (26, .int .i64 (checkE ([((⟨saNil, saNil⟩ : RA), (⟨false, ([] : List Nat), ([] : List Nat)⟩ : Raw)), ((⟨saNil, saNil⟩ : RA), (⟨false, ([] : List Nat), ([] : List Nat)⟩ : Raw)), ((⟨saNil, saNil⟩ : RA), (⟨false, ([] : List Nat), ([] : List Nat)⟩ : Raw)), (y39, (encQ ((5 : Int) : Rat)))] : List PR).length ((1 : Int) : Rat) (((1 : Int) : Rat) / ((4 : Int) : Rat)) 3))]) k_ ?_
            refine RD.last (i := 12) (some 0) [2, 3, 4, 26] [b48, b48, b48, b48, b48, b48] k_ k_ k_ (l' := [(2, pt b7), (3, .int .i64 (meanE ([(y1, (encQ ((1 : Int) : Rat))), (y3, (encQ (((-1) : Int) : Rat)))] : List PR).length ((1 : Int) : Rat) ((2 : Int) : Rat))), (4, pt b48), (26, .int .i64 (checkE ([((⟨saNil, saNil⟩ : RA), (⟨false, ([] : List Nat), ([] : List Nat)⟩ : Raw)), ((⟨saNil, saNil⟩ : RA), (⟨false, ([] : List Nat), ([] : List Nat)⟩ : Raw)), ((⟨saNil, saNil⟩ : RA), (⟨false, ([] : List Nat), ([] : List Nat)⟩ : Raw)), (y39, (encQ ((5 : Int) : Rat)))] : List PR).length ((1 : Int) : Rat) (((1 : Int) : Rat) / ((4 : Int) : Rat)) 3))]) (M' := [(b48, .cells (ivC y50.1 (encQ y50.2.2.1) y50.2.1 (encQ y50.2.2.2)) 38 (0, 0)), (b7, .cells (ratC y6 (encQ (meanV ([(y1, (encQ ((1 : Int) : Rat))), (y3, (encQ (((-1) : Int) : Rat)))] : List PR) ((1 : Int) : Rat) ((2 : Int) : Rat)))) 27 (0, 0)), (b2, .cells (ratC y1 (encQ ((1 : Int) : Rat))) 27 (0, 0))]) k_ ?_
            refine RD.bat k_ [(13, none)] [2, 3, 4, 5] [] (L' := [13, 12, 10, 9, 8, 7, 6, 11, 4, 3, 5, 2, 1, 0]) (l' := [(2, pt b7), (3, .int .i64 (meanE ([(y1, (encQ ((1 : Int) : Rat))), (y3, (encQ (((-1) : Int) : Rat)))] : List PR).length ((1 : Int) : Rat) ((2 : Int) : Rat))), (4, pt b48), (5, .int .i64 (checkE ([((⟨saNil, saNil⟩ : RA), (⟨false, ([] : List Nat), ([] : List Nat)⟩ : Raw)), ((⟨saNil, saNil⟩ : RA), (⟨false, ([] : List Nat), ([] : List Nat)⟩ : Raw)), ((⟨saNil, saNil⟩ : RA), (⟨false, ([] : List Nat), ([] : List Nat)⟩ : Raw)), (y39, (encQ ((5 : Int) : Rat)))] : List PR).length ((1 : Int) : Rat) (((1 : Int) : Rat) / ((4 : Int) : Rat)) 3))]) k_ ?_
            refine RD.done k_ ?_
            refine KN.meet (y39, b40, y49, y50, b48) [2, 3, 4, 5] [0, 1, 2, 3, 4, 5, 6, 7, 8, 9, 10, 11, 12, 13, 14] (l2 := [(2, pt b7), (3, .int .i64 (meanE ([(y1, (encQ ((1 : Int) : Rat))), (y3, (encQ (((-1) : Int) : Rat)))] : List PR).length ((1 : Int) : Rat) ((2 : Int) : Rat))), (4, pt b48), (5, .int .i64 (checkE ([((⟨saNil, saNil⟩ : RA), (⟨false, ([] : List Nat), ([] : List Nat)⟩ : Raw)), ((⟨saNil, saNil⟩ : RA), (⟨false, ([] : List Nat), ([] : List Nat)⟩ : Raw)), ((⟨saNil, saNil⟩ : RA), (⟨false, ([] : List Nat), ([] : List Nat)⟩ : Raw)), (y39, (encQ ((5 : Int) : Rat)))] : List PR).length ((1 : Int) : Rat) (((1 : Int) : Rat) / ((4 : Int) : Rat)) 3))]) (by exact h51) k_ (by rfl) (by rfl) (by rfl)
        · skip
          refine RDi.call (i := 6) (r03_Fraction 1 4 y_l19_awake y_l19_awake y_l19_awake y_l19_awake y_l19_awake) [] k_ k_ k_ k_ rfl (fun y52 _ => ?_)
          refine RD.forkL (is := [4, 11]) k_ rfl k_ ⟨?_, ?_, trivial⟩
          · skip
            refine RDi.new (i := 4) (fun b => .slice (some ⟨b, 0, none⟩) 4 4) (.cells (encR ([((⟨saNil, saNil⟩ : RA), (⟨false, ([] : List Nat), ([] : List Nat)⟩ : Raw)), ((⟨saNil, saNil⟩ : RA), (⟨false, ([] : List Nat), ([] : List Nat)⟩ : Raw)), ((⟨saNil, saNil⟩ : RA), (⟨false, ([] : List Nat), ([] : List Nat)⟩ : Raw)), (y39, (encQ ((5 : Int) : Rat)))] : List PR)) 27 (0, 0)) k_ k_ k_ (fun w => by kernel_rfl) (fun b53 => ?_)
            refine RD.share 0 rfl rfl k_ ?_
            refine RD.also (fRat (⟨saNil, saNil⟩ : RA) (⟨false, ([] : List Nat), ([] : List Nat)⟩ : Raw)) (fun w h => ⟨fU_nil w, fU_nil w⟩) k_ ?_
            refine RD.also (allRat ([((⟨saNil, saNil⟩ : RA), (⟨false, ([] : List Nat), ([] : List Nat)⟩ : Raw)), ((⟨saNil, saNil⟩ : RA), (⟨false, ([] : List Nat), ([] : List Nat)⟩ : Raw)), ((⟨saNil, saNil⟩ : RA), (⟨false, ([] : List Nat), ([] : List Nat)⟩ : Raw)), (y39, (encQ ((5 : Int) : Rat)))] : List PR)) (fun w h => allRat_cons (h _ (.head _)) (allRat_cons (h _ (.head _)) (allRat_cons (h _ (.head _)) (allRat_cons (h _ (.tail _ ((.tail _ ((.tail _ ((.head _)))))))) (allRat_nil _))))) k_ ?_
            refine RD.also (fRats (⟨some ⟨b53, 0, none⟩, 4⟩ : SA) ([((⟨saNil, saNil⟩ : RA), (⟨false, ([] : List Nat), ([] : List Nat)⟩ : Raw)), ((⟨saNil, saNil⟩ : RA), (⟨false, ([] : List Nat), ([] : List Nat)⟩ : Raw)), ((⟨saNil, saNil⟩ : RA), (⟨false, ([] : List Nat), ([] : List Nat)⟩ : Raw)), (y39, (encQ ((5 : Int) : Rat)))] : List PR)) (fun w h => fRats_own (h _ (.tail _ ((.tail _ ((.head _)))))) (h _ (.head _)) x_ x_) k_ ?_
            refine RD.turn 21 (v := .slice (some ⟨b53, 0, none⟩) 4 4) (v' := sl (⟨some ⟨b53, 0, none⟩, 4⟩ : SA) ([((⟨saNil, saNil⟩ : RA), (⟨false, ([] : List Nat), ([] : List Nat)⟩ : Raw)), ((⟨saNil, saNil⟩ : RA), (⟨false, ([] : List Nat), ([] : List Nat)⟩ : Raw)), ((⟨saNil, saNil⟩ : RA), (⟨false, ([] : List Nat), ([] : List Nat)⟩ : Raw)), (y39, (encQ ((5 : Int) : Rat)))] : List PR).length) k_ (sl_eq x_) ?_
            refine RD.forkL (is := [7, 11]) k_ rfl k_ ⟨?_, ?_, trivial⟩
            · skip
              refine RDi.call (i := 7) (m19_Scale_c (⟨some ⟨b53, 0, none⟩, 4⟩ : SA) ([((⟨saNil, saNil⟩ : RA), (⟨false, ([] : List Nat), ([] : List Nat)⟩ : Raw)), ((⟨saNil, saNil⟩ : RA), (⟨false, ([] : List Nat), ([] : List Nat)⟩ : Raw)), ((⟨saNil, saNil⟩ : RA), (⟨false, ([] : List Nat), ([] : List Nat)⟩ : Raw)), (y39, (encQ ((5 : Int) : Rat)))] : List PR) y1 ((1 : Int) : Rat) y52 (((1 : Int) : Rat) / ((4 : Int) : Rat)) 3 y_l19_awake y_l19_awake y_l19_awake y_l19_awake y_l19_awake) [0, 12, 4] k_ k_ k_ k_ rfl (fun y54 h55 => ?_)
              refine RD.bat k_ [(8, none), (9, none), (10, none)] [2, 3, 25, 26] [] (L' := [10, 9, 8, 7, 4, 6, 3, 5, 2, 1, 0]) (l' := [(2, pt b7), (3, .int .i64 (meanE ([(y1, (encQ ((1 : Int) : Rat))), (y3, (encQ (((-1) : Int) : Rat)))] : List PR).length ((1 : Int) : Rat) ((2 : Int) : Rat))), (25, .agg (ivC y54.1 (encQ y54.2.2.1) y54.2.1 (encQ y54.2.2.2))), (26, .int .i64 (checkE ([((⟨saNil, saNil⟩ : RA), (⟨false, ([] : List Nat), ([] : List Nat)⟩ : Raw)), ((⟨saNil, saNil⟩ : RA), (⟨false, ([] : List Nat), ([] : List Nat)⟩ : Raw)), ((⟨saNil, saNil⟩ : RA), (⟨false, ([] : List Nat), ([] : List Nat)⟩ : Raw)), (y39, (encQ ((5 : Int) : Rat)))] : List PR).length ((1 : Int) : Rat) (((1 : Int) : Rat) / ((4 : Int) : Rat)) 3))]) k_ ?_
              refine RD.new (i := 11) (fun b => pt b) (.cells (ivC (⟨saNil, saNil⟩ : RA) (⟨false, ([] : List Nat), ([] : List Nat)⟩ : Raw) (⟨saNil, saNil⟩ : RA) (⟨false, ([] : List Nat), ([] : List Nat)⟩ : Raw)) 38 (0, 0)) k_ k_ k_ k_ (fun w => by kernel_rfl) (fun b56 => ?_)
              refine RD.last (i := 12) (some 0) [2, 3, 4, 26] [b56, b56, b56, b56, b56, b56] k_ k_ k_ (l' := [(2, pt b7), (3, .int .i64 (meanE ([(y1, (encQ ((1 : Int) : Rat))), (y3, (encQ (((-1) : Int) : Rat)))] : List PR).length ((1 : Int) : Rat) ((2 : Int) : Rat))), (4, pt b56), (26, .int .i64 (checkE ([((⟨saNil, saNil⟩ : RA), (⟨false, ([] : List Nat), ([] : List Nat)⟩ : Raw)), ((⟨saNil, saNil⟩ : RA), (⟨false, ([] : List Nat), ([] : List Nat)⟩ : Raw)), ((⟨saNil, saNil⟩ : RA), (⟨false, ([] : List Nat), ([] : List Nat)⟩ : Raw)), (y39, (encQ ((5 : Int) : Rat)))] : List PR).length ((1 : Int) : Rat) (((1 : Int) : Rat) / ((4 : Int) : Rat)) 3))]) (M' := [(b56, .cells (ivC y54.1 (encQ y54.2.2.1) y54.2.1 (encQ y54.2.2.2)) 38 (0, 0)), (b7, .cells (ratC y6 (encQ (meanV ([(y1, (encQ ((1 : Int) : Rat))), (y3, (encQ (((-1) : Int) : Rat)))] : List PR) ((1 : Int) : Rat) ((2 : Int) : Rat)))) 27 (0, 0)), (b2, .cells (ratC y1 (encQ ((1 : Int) : Rat))) 27 (0, 0))]) k_ ?_
              refine RD.bat k_ [(13, none)] [2, 3, 4, 5] [] (L' := [13, 12, 11, 10, 9, 8, 7, 4, 6, 3, 5, 2, 1, 0]) (l' := [(2, pt b7), (3, .int .i64 (meanE ([(y1, (encQ ((1 : Int) : Rat))), (y3, (encQ (((-1) : Int) : Rat)))] : List PR).length ((1 : Int) : Rat) ((2 : Int) : Rat))), (4, pt b56), (5, .int .i64 (checkE ([((⟨saNil, saNil⟩ : RA), (⟨false, ([] : List Nat), ([] : List Nat)⟩ : Raw)), ((⟨saNil, saNil⟩ : RA), (⟨false, ([] : List Nat), ([] : List Nat)⟩ : Raw)), ((⟨saNil, saNil⟩ : RA), (⟨false, ([] : List Nat), ([] : List Nat)⟩ : Raw)), (y39, (encQ ((5 : Int) : Rat)))] : List PR).length ((1 : Int) : Rat) (((1 : Int) : Rat) / ((4 : Int) : Rat)) 3))]) k_ ?_
              refine RD.done k_ ?_
              refine KN.meet (y39, b53, y52, y54, b56) [2, 3, 4, 5] [0, 1, 2, 3, 4, 5, 6, 7, 8, 9, 10, 11, 12, 13, 14] (l2 := [(2, pt b7), (3, .int .i64 (meanE ([(y1, (encQ ((1 : Int) : Rat))), (y3, (encQ (((-1) : Int) : Rat)))] : List PR).length ((1 : Int) : Rat) ((2 : Int) : Rat))), (4, pt b56), (5, .int .i64 (checkE ([((⟨saNil, saNil⟩ : RA), (⟨false, ([] : List Nat), ([] : List Nat)⟩ : Raw)), ((⟨saNil, saNil⟩ : RA), (⟨false, ([] : List Nat), ([] : List Nat)⟩ : Raw)), ((⟨saNil, saNil⟩ : RA), (⟨false, ([] : List Nat), ([] : List Nat)⟩ : Raw)), (y39, (encQ ((5 : Int) : Rat)))] : List PR).length ((1 : Int) : Rat) (((1 : Int) : Rat) / ((4 : Int) : Rat)) 3))]) (by exact h55) k_ (by rfl) (by rfl) (by rfl)
            · skip
              refine RDi.new (i := 11) (fun b => pt b) (.cells (ivC (⟨saNil, saNil⟩ : RA) (⟨false, ([] : List Nat), ([] : List Nat)⟩ : Raw) (⟨saNil, saNil⟩ : RA) (⟨false, ([] : List Nat), ([] : List Nat)⟩ : Raw)) 38 (0, 0)) k_ k_ k_ (fun w => by kernel_rfl) (fun b57 => ?_)
              refine RD.call (i := 7) (m19_Scale_c (⟨some ⟨b53, 0, none⟩, 4⟩ : SA) ([((⟨saNil, saNil⟩ : RA), (⟨false, ([] : List Nat), ([] : List Nat)⟩ : Raw)), ((⟨saNil, saNil⟩ : RA), (⟨false, ([] : List Nat), ([] : List Nat)⟩ : Raw)), ((⟨saNil, saNil⟩ : RA), (⟨false, ([] : List Nat), ([] : List Nat)⟩ : Raw)), (y39, (encQ ((5 : Int) : Rat)))] : List PR) y1 ((1 : Int) : Rat) y52 (((1 : Int) : Rat) / ((4 : Int) : Rat)) 3 y_l19_awake y_l19_awake y_l19_awake y_l19_awake y_l19_awake) [0, 12, 4] k_ k_ k_ k_ k_ rfl (fun y58 h59 => ?_)
              refine RD.bat k_ [(8, none), (9, none), (10, none)] [2, 3, 4, 25, 26] [] (L' := [10, 9, 8, 7, 11, 4, 6, 3, 5, 2, 1, 0]) (l' := [(2, pt b7), (3, .int .i64 (meanE ([(y1, (encQ ((1 : Int) : Rat))), (y3, (encQ (((-1) : Int) : Rat)))] : List PR).length ((1 : Int) : Rat) ((2 : Int) : Rat))), (4, pt b57), (25, .agg (ivC y58.1 (encQ y58.2.2.1) y58.2.1 (encQ y58.2.2.2))), (26, .int .i64 (checkE ([((⟨saNil, saNil⟩ : RA), (⟨false, ([] : List Nat), ([] : List Nat)⟩ : Raw)), ((⟨saNil, saNil⟩ : RA), (⟨false, ([] : List Nat), ([] : List Nat)⟩ : Raw)), ((⟨saNil, saNil⟩ : RA), (⟨false, ([] : List Nat), ([] : List Nat)⟩ : Raw)), (y39, (encQ ((5 : Int) : Rat)))] : List PR).length ((1 : Int) : Rat) (((1 : Int) : Rat) / ((4 : Int) : Rat)) 3))]) k_ ?_
              refine RD.last (i := 12) (some 0) [2, 3, 4, 26] [b57, b57, b57, b57, b57, b57] k_ k_ k_ (l' := [(2, pt b7), (3, .int .i64 (meanE ([(y1, (encQ ((1 : Int) : Rat))), (y3, (encQ (((-1) : Int) : Rat)))] : List PR).length ((1 : Int) : Rat) ((2 : Int) : Rat))), (4, pt b57), (26, .int .i64 (checkE ([((⟨saNil, saNil⟩ : RA), (⟨false, ([] : List Nat), ([] : List Nat)⟩ : Raw)), ((⟨saNil, saNil⟩ : RA), (⟨false, ([] : List Nat), ([] : List Nat)⟩ : Raw)), ((⟨saNil, saNil⟩ : RA), (⟨false, ([] : List Nat), ([] : List Nat)⟩ : Raw)), (y39, (encQ ((5 : Int) : Rat)))] : List PR).length ((1 : Int) : Rat) (((1 : Int) : Rat) / ((4 : Int) : Rat)) 3))]) (M' := [(b57, .cells (ivC y58.1 (encQ y58.2.2.1) y58.2.1 (encQ y58.2.2.2)) 38 (0, 0)), (b7, .cells (ratC y6 (encQ (meanV ([(y1, (encQ ((1 : Int) : Rat))), (y3, (encQ (((-1) : Int) : Rat)))] : List PR) ((1 : Int) : Rat) ((2 : Int) : Rat)))) 27 (0, 0)), (b2, .cells (ratC y1 (encQ ((1 : Int) : Rat))) 27 (0, 0))]) k_ ?_
              refine RD.bat k_ [(13, none)] [2, 3, 4, 5] [] (L' := [13, 12, 10, 9, 8, 7, 11, 4, 6, 3, 5, 2, 1, 0]) (l' := [(2, pt b7), (3, .int .i64 (meanE ([(y1, (encQ ((1 : Int) : Rat))), (y3, (encQ (((-1) : Int) : Rat)))] : List PR).length ((1 : Int) : Rat) ((2 : Int) : Rat))), (4, pt b57), (5, .int .i64 (checkE ([((⟨saNil, saNil⟩ : RA), (⟨false, ([] : List Nat), ([] : List Nat)⟩ : Raw)), ((⟨saNil, saNil⟩ : RA), (⟨false, ([] : List Nat), ([] : List Nat)⟩ : Raw)), ((⟨saNil, saNil⟩ : RA), (⟨false, ([] : List Nat), ([] : List Nat)⟩ : Raw)), (y39, (encQ ((5 : Int) : Rat)))] : List PR).length ((1 : Int) : Rat) (((1 : Int) : Rat) / ((4 : Int) : Rat)) 3))]) k_ ?_
              refine RD.done k_ ?_
              refine KN.meet (y39, b53, y52, y58, b57) [2, 3, 4, 5] [0, 1, 2, 3, 4, 5, 6, 7, 8, 9, 10, 11, 12, 13, 14] (l2 := [(2, pt b7), (3, .int .i64 (meanE ([(y1, (encQ ((1 : Int) : Rat))), (y3, (encQ (((-1) : Int) : Rat)))] : List PR).length ((1 : Int) : Rat) ((2 : Int) : Rat))), (4, pt b57), (5, .int .i64 (checkE ([((⟨saNil, saNil⟩ : RA), (⟨false, ([] : List Nat), ([] : List Nat)⟩ : Raw)), ((⟨saNil, saNil⟩ : RA), (⟨false, ([] : List Nat), ([] : List Nat)⟩ : Raw)), ((⟨saNil, saNil⟩ : RA), (⟨false, ([] : List Nat), ([] : List Nat)⟩ : Raw)), (y39, (encQ ((5 : Int) : Rat)))] : List PR).length ((1 : Int) : Rat) (((1 : Int) : Rat) / ((4 : Int) : Rat)) 3))]) (by exact h59) k_ (by rfl) (by rfl) (by rfl)
          · skip
            refine RDi.new (i := 11) (fun b => pt b) (.cells (ivC (⟨saNil, saNil⟩ : RA) (⟨false, ([] : List Nat), ([] : List Nat)⟩ : Raw) (⟨saNil, saNil⟩ : RA) (⟨false, ([] : List Nat), ([] : List Nat)⟩ : Raw)) 38 (0, 0)) k_ k_ k_ (fun w => by kernel_rfl) (fun b60 => ?_)
            refine RD.new (i := 4) (fun b => .slice (some ⟨b, 0, none⟩) 4 4) (.cells (encR ([((⟨saNil, saNil⟩ : RA), (⟨false, ([] : List Nat), ([] : List Nat)⟩ : Raw)), ((⟨saNil, saNil⟩ : RA), (⟨false, ([] : List Nat), ([] : List Nat)⟩ : Raw)), ((⟨saNil, saNil⟩ : RA), (⟨false, ([] : List Nat), ([] : List Nat)⟩ : Raw)), (y39, (encQ ((5 : Int) : Rat)))] : List PR)) 27 (0, 0)) k_ k_ k_ k_ (fun w => by kernel_rfl) (fun b61 => ?_)
            refine RD.share 0 rfl rfl k_ ?_
            refine RD.also (fRat (⟨saNil, saNil⟩ : RA) (⟨false, ([] : List Nat), ([] : List Nat)⟩ : Raw)) (fun w h => ⟨fU_nil w, fU_nil w⟩) k_ ?_
            refine RD.also (allRat ([((⟨saNil, saNil⟩ : RA), (⟨false, ([] : List Nat), ([] : List Nat)⟩ : Raw)), ((⟨saNil, saNil⟩ : RA), (⟨false, ([] : List Nat), ([] : List Nat)⟩ : Raw)), ((⟨saNil, saNil⟩ : RA), (⟨false, ([] : List Nat), ([] : List Nat)⟩ : Raw)), (y39, (encQ ((5 : Int) : Rat)))] : List PR)) (fun w h => allRat_cons (h _ (.head _)) (allRat_cons (h _ (.head _)) (allRat_cons (h _ (.head _)) (allRat_cons (h _ (.tail _ ((.tail _ ((.tail _ ((.head _)))))))) (allRat_nil _))))) k_ ?_
            refine RD.also (fRats (⟨some ⟨b61, 0, none⟩, 4⟩ : SA) ([((⟨saNil, saNil⟩ : RA), (⟨false, ([] : List Nat), ([] : List Nat)⟩ : Raw)), ((⟨saNil, saNil⟩ : RA), (⟨false, ([] : List Nat), ([] : List Nat)⟩ : Raw)), ((⟨saNil, saNil⟩ : RA), (⟨false, ([] : List Nat), ([] : List Nat)⟩ : Raw)), (y39, (encQ ((5 : Int) : Rat)))] : List PR)) (fun w h => fRats_own (h _ (.tail _ ((.tail _ ((.head _)))))) (h _ (.head _)) x_ x_) k_ ?_
            refine RD.turn 21 (v := .slice (some ⟨b61, 0, none⟩) 4 4) (v' := sl (⟨some ⟨b61, 0, none⟩, 4⟩ : SA) ([((⟨saNil, saNil⟩ : RA), (⟨false, ([] : List Nat), ([] : List Nat)⟩ : Raw)), ((⟨saNil, saNil⟩ : RA), (⟨false, ([] : List Nat), ([] : List Nat)⟩ : Raw)), ((⟨saNil, saNil⟩ : RA), (⟨false, ([] : List Nat), ([] : List Nat)⟩ : Raw)), (y39, (encQ ((5 : Int) : Rat)))] : List PR).length) k_ (sl_eq x_) ?_
            refine RD.call (i := 7) (m19_Scale_c (⟨some ⟨b61, 0, none⟩, 4⟩ : SA) ([((⟨saNil, saNil⟩ : RA), (⟨false, ([] : List Nat), ([] : List Nat)⟩ : Raw)), ((⟨saNil, saNil⟩ : RA), (⟨false, ([] : List Nat), ([] : List Nat)⟩ : Raw)), ((⟨saNil, saNil⟩ : RA), (⟨false, ([] : List Nat), ([] : List Nat)⟩ : Raw)), (y39, (encQ ((5 : Int) : Rat)))] : List PR) y1 ((1 : Int) : Rat) y52 (((1 : Int) : Rat) / ((4 : Int) : Rat)) 3 y_l19_awake y_l19_awake y_l19_awake y_l19_awake y_l19_awake) [0, 12, 4] k_ k_ k_ k_ k_ rfl (fun y62 h63 => ?_)
            refine RD.bat k_ [(8, none), (9, none), (10, none)] [2, 3, 4, 25, 26] [] (L' := [10, 9, 8, 7, 4, 11, 6, 3, 5, 2, 1, 0]) (l' := [(2, pt b7), (3, .int .i64 (meanE ([(y1, (encQ ((1 : Int) : Rat))), (y3, (encQ (((-1) : Int) : Rat)))] : List PR).length ((1 : Int) : Rat) ((2 : Int) : Rat))), (4, pt b60), (25, .agg (ivC y62.1 (encQ y62.2.2.1) y62.2.1 (encQ y62.2.2.2))), (26, .int .i64 (checkE ([((⟨saNil, saNil⟩ : RA), (⟨false, ([] : List Nat), ([] : List Nat)⟩ : Raw)), ((⟨saNil, saNil⟩ : RA), (⟨false, ([] : List Nat), ([] : List Nat)⟩ : Raw)), ((⟨saNil, saNil⟩ : RA), (⟨false, ([] : List Nat), ([] : List Nat)⟩ : Raw)), (y39, (encQ ((5 : Int) : Rat)))] : List PR).length ((1 : Int) : Rat) (((1 : Int) : Rat) / ((4 : Int) : Rat)) 3))]) k_ ?_
            refine RD.last (i := 12) (some 0) [2, 3, 4, 26] [b60, b60, b60, b60, b60, b60] k_ k_ k_ (l' := [(2, pt b7), (3, .int .i64 (meanE ([(y1, (encQ ((1 : Int) : Rat))), (y3, (encQ (((-1) : Int) : Rat)))] : List PR).length ((1 : Int) : Rat) ((2 : Int) : Rat))), (4, pt b60), (26, .int .i64 (checkE ([((⟨saNil, saNil⟩ : RA), (⟨false, ([] : List Nat), ([] : List Nat)⟩ : Raw)), ((⟨saNil, saNil⟩ : RA), (⟨false, ([] : List Nat), ([] : List Nat)⟩ : Raw)), ((⟨saNil, saNil⟩ : RA), (⟨false, ([] : List Nat), ([] : List Nat)⟩ : Raw)), (y39, (encQ ((5 : Int) : Rat)))] : List PR).length ((1 : Int) : Rat) (((1 : Int) : Rat) / ((4 : Int) : Rat)) 3))]) (M' := [(b60, .cells (ivC y62.1 (encQ y62.2.2.1) y62.2.1 (encQ y62.2.2.2)) 38 (0, 0)), (b7, .cells (ratC y6 (encQ (meanV ([(y1, (encQ ((1 : Int) : Rat))), (y3, (encQ (((-1) : Int) : Rat)))] : List PR) ((1 : Int) : Rat) ((2 : Int) : Rat)))) 27 (0, 0)), (b2, .cells (ratC y1 (encQ ((1 : Int) : Rat))) 27 (0, 0))]) k_ ?_
            refine RD.bat k_ [(13, none)] [2, 3, 4, 5] [] (L' := [13, 12, 10, 9, 8, 7, 4, 11, 6, 3, 5, 2, 1, 0]) (l' := [(2, pt b7), (3, .int .i64 (meanE ([(y1, (encQ ((1 : Int) : Rat))), (y3, (encQ (((-1) : Int) : Rat)))] : List PR).length ((1 : Int) : Rat) ((2 : Int) : Rat))), (4, pt b60), (5, .int .i64 (checkE ([((⟨saNil, saNil⟩ : RA), (⟨false, ([] : List Nat), ([] : List Nat)⟩ : Raw)), ((⟨saNil, saNil⟩ : RA), (⟨false, ([] : List Nat), ([] : List Nat)⟩ : Raw)), ((⟨saNil, saNil⟩ : RA), (⟨false, ([] : List Nat), ([] : List Nat)⟩ : Raw)), (y39, (encQ ((5 : Int) : Rat)))] : List PR).length ((1 : Int) : Rat) (((1 : Int) : Rat) / ((4 : Int) : Rat)) 3))]) k_ ?_
            refine RD.done k_ ?_
            refine KN.meet (y39, b61, y52, y62, b60) [2, 3, 4, 5] [0, 1, 2, 3, 4, 5, 6, 7, 8, 9, 10, 11, 12, 13, 14] (l2 := [(2, pt b7), (3, .int .i64 (meanE ([(y1, (encQ ((1 : Int) : Rat))), (y3, (encQ (((-1) : Int) : Rat)))] : List PR).length ((1 : Int) : Rat) ((2 : Int) : Rat))), (4, pt b60), (5, .int .i64 (checkE ([((⟨saNil, saNil⟩ : RA), (⟨false, ([] : List Nat), ([] : List Nat)⟩ : Raw)), ((⟨saNil, saNil⟩ : RA), (⟨false, ([] : List Nat), ([] : List Nat)⟩ : Raw)), ((⟨saNil, saNil⟩ : RA), (⟨false, ([] : List Nat), ([] : List Nat)⟩ : Raw)), (y39, (encQ ((5 : Int) : Rat)))] : List PR).length ((1 : Int) : Rat) (((1 : Int) : Rat) / ((4 : Int) : Rat)) 3))]) (by exact h63) k_ (by rfl) (by rfl) (by rfl)
        · skip
          refine RDi.new (i := 11) (fun b => pt b) (.cells (ivC (⟨saNil, saNil⟩ : RA) (⟨false, ([] : List Nat), ([] : List Nat)⟩ : Raw) (⟨saNil, saNil⟩ : RA) (⟨false, ([] : List Nat), ([] : List Nat)⟩ : Raw)) 38 (0, 0)) k_ k_ k_ (fun w => by kernel_rfl) (fun b64 => ?_)
          refine RD.forkL (is := [4, 6]) k_ rfl k_ ⟨?_, ?_, trivial⟩
          · skip
            refine RDi.new (i := 4) (fun b => .slice (some ⟨b, 0, none⟩) 4 4) (.cells (encR ([((⟨saNil, saNil⟩ : RA), (⟨false, ([] : List Nat), ([] : List Nat)⟩ : Raw)), ((⟨saNil, saNil⟩ : RA), (⟨false, ([] : List Nat), ([] : List Nat)⟩ : Raw)), ((⟨saNil, saNil⟩ : RA), (⟨false, ([] : List Nat), ([] : List Nat)⟩ : Raw)), (y39, (encQ ((5 : Int) : Rat)))] : List PR)) 27 (0, 0)) k_ k_ k_ (fun w => by kernel_rfl) (fun b65 => ?_)
            refine RD.call (i := 6) (r03_Fraction 1 4 y_l19_awake y_l19_awake y_l19_awake y_l19_awake y_l19_awake) [] k_ k_ k_ k_ k_ rfl (fun y66 _ => ?_)
            refine RD.share 0 rfl rfl k_ ?_
            refine RD.also (fRat (⟨saNil, saNil⟩ : RA) (⟨false, ([] : List Nat), ([] : List Nat)⟩ : Raw)) (fun w h => ⟨fU_nil w, fU_nil w⟩) k_ ?_
            refine RD.also (allRat ([((⟨saNil, saNil⟩ : RA), (⟨false, ([] : List Nat), ([] : List Nat)⟩ : Raw)), ((⟨saNil, saNil⟩ : RA), (⟨false, ([] : List Nat), ([] : List Nat)⟩ : Raw)), ((⟨saNil, saNil⟩ : RA), (⟨false, ([] : List Nat), ([] : List Nat)⟩ : Raw)), (y39, (encQ ((5 : Int) : Rat)))] : List PR)) (fun w h => allRat_cons (h _ (.head _)) (allRat_cons (h _ (.head _)) (allRat_cons (h _ (.head _)) (allRat_cons (h _ (.tail _ ((.tail _ ((.tail _ ((.head _)))))))) (allRat_nil _))))) k_ ?_
            refine RD.also (fRats (⟨some ⟨b65, 0, none⟩, 4⟩ : SA) ([((⟨saNil, saNil⟩ : RA), (⟨false, ([] : List Nat), ([] : List Nat)⟩ : Raw)), ((⟨saNil, saNil⟩ : RA), (⟨false, ([] : List Nat), ([] : List Nat)⟩ : Raw)), ((⟨saNil, saNil⟩ : RA), (⟨false, ([] : List Nat), ([] : List Nat)⟩ : Raw)), (y39, (encQ ((5 : Int) : Rat)))] : List PR)) (fun w h => fRats_own (h _ (.tail _ ((.tail _ ((.head _)))))) (h _ (.head _)) x_ x_) k_ ?_
            refine RD.turn 21 (v := .slice (some ⟨b65, 0, none⟩) 4 4) (v' := sl (⟨some ⟨b65, 0, none⟩, 4⟩ : SA) ([((⟨saNil, saNil⟩ : RA), (⟨false, ([] : List Nat), ([] : List Nat)⟩ : Raw)), ((⟨saNil, saNil⟩ : RA), (⟨false, ([] : List Nat), ([] : List Nat)⟩ : Raw)), ((⟨saNil, saNil⟩ : RA), (⟨false, ([] : List Nat), ([] : List Nat)⟩ : Raw)), (y39, (encQ ((5 : Int) : Rat)))] : List PR).length) k_ (sl_eq x_) ?_
            refine RD.call (i := 7) (m19_Scale_c (⟨some ⟨b65, 0, none⟩, 4⟩ : SA) ([((⟨saNil, saNil⟩ : RA), (⟨false, ([] : List Nat), ([] : List Nat)⟩ : Raw)), ((⟨saNil, saNil⟩ : RA), (⟨false, ([] : List Nat), ([] : List Nat)⟩ : Raw)), ((⟨saNil, saNil⟩ : RA), (⟨false, ([] : List Nat), ([] : List Nat)⟩ : Raw)), (y39, (encQ ((5 : Int) : Rat)))] : List PR) y1 ((1 : Int) : Rat) y66 (((1 : Int) : Rat) / ((4 : Int) : Rat)) 3 y_l19_awake y_l19_awake y_l19_awake y_l19_awake y_l19_awake) [0, 12, 4] k_ k_ k_ k_ k_ rfl (fun y67 h68 => ?_)
            refine RD.bat k_ [(8, none), (9, none), (10, none)] [2, 3, 4, 25, 26] [] (L' := [10, 9, 8, 7, 6, 4, 11, 3, 5, 2, 1, 0]) (l' := [(2, pt b7), (3, .int .i64 (meanE ([(y1, (encQ ((1 : Int) : Rat))), (y3, (encQ (((-1) : Int) : Rat)))] : List PR).length ((1 : Int) : Rat) ((2 : Int) : Rat))), (4, pt b64), (25, .agg (ivC y67.1 (encQ y67.2.2.1) y67.2.1 (encQ y67.2.2.2))), (26, .int .i64 (checkE ([((⟨saNil, saNil⟩ : RA), (⟨false, ([] : List Nat), ([] : List Nat)⟩ : Raw)), ((⟨saNil, saNil⟩ : RA), (⟨false, ([] : List Nat), ([] : List Nat)⟩ : Raw)), ((⟨saNil, saNil⟩ : RA), (⟨false, ([] : List Nat), ([] : List Nat)⟩ : Raw)), (y39, (encQ ((5 : Int) : Rat)))] : List PR).length ((1 : Int) : Rat) (((1 : Int) : Rat) / ((4 : Int) : Rat)) 3))]) k_ ?_
            refine RD.last (i := 12) (some 0) [2, 3, 4, 26] [b64, b64, b64, b64, b64, b64] k_ k_ k_ (l' := [(2, pt b7), (3, .int .i64 (meanE ([(y1, (encQ ((1 : Int) : Rat))), (y3, (encQ (((-1) : Int) : Rat)))] : List PR).length ((1 : Int) : Rat) ((2 : Int) : Rat))), (4, pt b64), (26, .int .i64 (checkE ([((⟨saNil, saNil⟩ : RA), (⟨false, ([] : List Nat), ([] : List Nat)⟩ : Raw)), ((⟨saNil, saNil⟩ : RA), (⟨false, ([] : List Nat), ([] : List Nat)⟩ : Raw)), ((⟨saNil, saNil⟩ : RA), (⟨false, ([] : List Nat), ([] : List Nat)⟩ : Raw)), (y39, (encQ ((5 : Int) : Rat)))] : List PR).length ((1 : Int) : Rat) (((1 : Int) : Rat) / ((4 : Int) : Rat)) 3))]) (M' := [(b64, .cells (ivC y67.1 (encQ y67.2.2.1) y67.2.1 (encQ y67.2.2.2)) 38 (0, 0)), (b7, .cells (ratC y6 (encQ (meanV ([(y1, (encQ ((1 : Int) : Rat))), (y3, (encQ (((-1) : Int) : Rat)))] : List PR) ((1 : Int) : Rat) ((2 : Int) : Rat)))) 27 (0, 0)), (b2, .cells (ratC y1 (encQ ((1 : Int) : Rat))) 27 (0, 0))]) k_ ?_
            refine RD.bat k_ [(13, none)] [2, 3, 4, 5] [] (L' := [13, 12, 10, 9, 8, 7, 6, 4, 11, 3, 5, 2, 1, 0]) (l' := [(2, pt b7), (3, .int .i64 (meanE ([(y1, (encQ ((1 : Int) : Rat))), (y3, (encQ (((-1) : Int) : Rat)))] : List PR).length ((1 : Int) : Rat) ((2 : Int) : Rat))), (4, pt b64), (5, .int .i64 (checkE ([((⟨saNil, saNil⟩ : RA), (⟨false, ([] : List Nat), ([] : List Nat)⟩ : Raw)), ((⟨saNil, saNil⟩ : RA), (⟨false, ([] : List Nat), ([] : List Nat)⟩ : Raw)), ((⟨saNil, saNil⟩ : RA), (⟨false, ([] : List Nat), ([] : List Nat)⟩ : Raw)), (y39, (encQ ((5 : Int) : Rat)))] : List PR).length ((1 : Int) : Rat) (((1 : Int) : Rat) / ((4 : Int) : Rat)) 3))]) k_ ?_
            refine RD.done k_ ?_
            refine KN.meet (y39, b65, y66, y67, b64) [2, 3, 4, 5] [0, 1, 2, 3, 4, 5, 6, 7, 8, 9, 10, 11, 12, 13, 14] (l2 := [(2, pt b7), (3, .int .i64 (meanE ([(y1, (encQ ((1 : Int) : Rat))), (y3, (encQ (((-1) : Int) : Rat)))] : List PR).length ((1 : Int) : Rat) ((2 : Int) : Rat))), (4, pt b64), (5, .int .i64 (checkE ([((⟨saNil, saNil⟩ : RA), (⟨false, ([] : List Nat), ([] : List Nat)⟩ : Raw)), ((⟨saNil, saNil⟩ : RA), (⟨false, ([] : List Nat), ([] : List Nat)⟩ : Raw)), ((⟨saNil, saNil⟩ : RA), (⟨false, ([] : List Nat), ([] : List Nat)⟩ : Raw)), (y39, (encQ ((5 : Int) : Rat)))] : List PR).length ((1 : Int) : Rat) (((1 : Int) : Rat) / ((4 : Int) : Rat)) 3))]) (by exact h68) k_ (by rfl) (by rfl) (by rfl)
          · skip
            refine RDi.call (i := 6) (r03_Fraction 1 4 y_l19_awake y_l19_awake y_l19_awake y_l19_awake y_l19_awake) [] k_ k_ k_ k_ rfl (fun y69 _ => ?_)
            refine RD.new (i := 4) (fun b => .slice (some ⟨b, 0, none⟩) 4 4) (.cells (encR ([((⟨saNil, saNil⟩ : RA), (⟨false, ([] : List Nat), ([] : List Nat)⟩ : Raw)), ((⟨saNil, saNil⟩ : RA), (⟨false, ([] : List Nat), ([] : List Nat)⟩ : Raw)), ((⟨saNil, saNil⟩ : RA), (⟨false, ([] : List Nat), ([] : List Nat)⟩ : Raw)), (y39, (encQ ((5 : Int) : Rat)))] : List PR)) 27 (0, 0)) k_ k_ k_ k_ (fun w => by kernel_rfl) (fun b70 => ?_)
            refine RD.share 0 rfl rfl k_ ?_
            refine RD.also (fRat (⟨saNil, saNil⟩ : RA) (⟨false, ([] : List Nat), ([] : List Nat)⟩ : Raw)) (fun w h => ⟨fU_nil w, fU_nil w⟩) k_ ?_
            refine RD.also (allRat ([((⟨saNil, saNil⟩ : RA), (⟨false, ([] : List Nat), ([] : List Nat)⟩ : Raw)), ((⟨saNil, saNil⟩ : RA), (⟨false, ([] : List Nat), ([] : List Nat)⟩ : Raw)), ((⟨saNil, saNil⟩ : RA), (⟨false, ([] : List Nat), ([] : List Nat)⟩ : Raw)), (y39, (encQ ((5 : Int) : Rat)))] : List PR)) (fun w h => allRat_cons (h _ (.head _)) (allRat_cons (h _ (.head _)) (allRat_cons (h _ (.head _)) (allRat_cons (h _ (.tail _ ((.tail _ ((.tail _ ((.head _)))))))) (allRat_nil _))))) k_ ?_
            refine RD.also (fRats (⟨some ⟨b70, 0, none⟩, 4⟩ : SA) ([((⟨saNil, saNil⟩ : RA), (⟨false, ([] : List Nat), ([] : List Nat)⟩ : Raw)), ((⟨saNil, saNil⟩ : RA), (⟨false, ([] : List Nat), ([] : List Nat)⟩ : Raw)), ((⟨saNil, saNil⟩ : RA), (⟨false, ([] : List Nat), ([] : List Nat)⟩ : Raw)), (y39, (encQ ((5 : Int) : Rat)))] : List PR)) (fun w h => fRats_own (h _ (.tail _ ((.tail _ ((.head _)))))) (h _ (.head _)) x_ x_) k_ ?_
            refine RD.turn 21 (v := .slice (some ⟨b70, 0, none⟩) 4 4) (v' := sl (⟨some ⟨b70, 0, none⟩, 4⟩ : SA) ([((⟨saNil, saNil⟩ : RA), (⟨false, ([] : List Nat), ([] : List Nat)⟩ : Raw)), ((⟨saNil, saNil⟩ : RA), (⟨false, ([] : List Nat), ([] : List Nat)⟩ : Raw)), ((⟨saNil, saNil⟩ : RA), (⟨false, ([] : List Nat), ([] : List Nat)⟩ : Raw)), (y39, (encQ ((5 : Int) : Rat)))] : List PR).length) k_ (sl_eq x_) ?_
            refine RD.call (i := 7) (m19_Scale_c (⟨some ⟨b70, 0, none⟩, 4⟩ : SA) ([((⟨saNil, saNil⟩ : RA), (⟨false, ([] : List Nat), ([] : List Nat)⟩ : Raw)), ((⟨saNil, saNil⟩ : RA), (⟨false, ([] : List Nat), ([] : List Nat)⟩ : Raw)), ((⟨saNil, saNil⟩ : RA), (⟨false, ([] : List Nat), ([] : List Nat)⟩ : Raw)), (y39, (encQ ((5 : Int) : Rat)))] : List PR) y1 ((1 : Int) : Rat) y69 (((1 : Int) : Rat) / ((4 : Int) : Rat)) 3 y_l19_awake y_l19_awake y_l19_awake y_l19_awake y_l19_awake) [0, 12, 4] k_ k_ k_ k_ k_ rfl (fun y71 h72 => ?_)
            refine RD.bat k_ [(8, none), (9, none), (10, none)] [2, 3, 4, 25, 26] [] (L' := [10, 9, 8, 7, 4, 6, 11, 3, 5, 2, 1, 0]) (l' := [(2, pt b7), (3, .int .i64 (meanE ([(y1, (encQ ((1 : Int) : Rat))), (y3, (encQ (((-1) : Int) : Rat)))] : List PR).length ((1 : Int) : Rat) ((2 : Int) : Rat))), (4, pt b64), (25, .agg (ivC y71.1 (encQ y71.2.2.1) y71.2.1 (encQ y71.2.2.2))), (26, .int .i64 (checkE ([((⟨saNil, saNil⟩ : RA), (⟨false, ([] : List Nat), ([] : List Nat)⟩ : Raw)), ((⟨saNil, saNil⟩ : RA), (⟨false, ([] : List Nat), ([] : List Nat)⟩ : Raw)), ((⟨saNil, saNil⟩ : RA), (⟨false, ([] : List Nat), ([] : List Nat)⟩ : Raw)), (y39, (encQ ((5 : Int) : Rat)))] : List PR).length ((1 : Int) : Rat) (((1 : Int) : Rat) / ((4 : Int) : Rat)) 3))]) k_ ?_
            refine RD.last (i := 12) (some 0) [2, 3, 4, 26] [b64, b64, b64, b64, b64, b64] k_ k_ k_ (l' := [(2, pt b7), (3, .int .i64 (meanE ([(y1, (encQ ((1 : Int) : Rat))), (y3, (encQ (((-1) : Int) : Rat)))] : List PR).length ((1 : Int) : Rat) ((2 : Int) : Rat))), (4, pt b64), (26, .int .i64 (checkE ([((⟨saNil, saNil⟩ : RA), (⟨false, ([] : List Nat), ([] : List Nat)⟩ : Raw)), ((⟨saNil, saNil⟩ : RA), (⟨false, ([] : List Nat), ([] : List Nat)⟩ : Raw)), ((⟨saNil, saNil⟩ : RA), (⟨false, ([] : List Nat), ([] : List Nat)⟩ : Raw)), (y39, (encQ ((5 : Int) : Rat)))] : List PR).length ((1 : Int) : Rat) (((1 : Int) : Rat) / ((4 : Int) : Rat)) 3))]) (M' := [(b64, .cells (ivC y71.1 (encQ y71.2.2.1) y71.2.1 (encQ y71.2.2.2)) 38 (0, 0)), (b7, .cells (ratC y6 (encQ (meanV ([(y1, (encQ ((1 : Int) : Rat))), (y3, (encQ (((-1) : Int) : Rat)))] : List PR) ((1 : Int) : Rat) ((2 : Int) : Rat)))) 27 (0, 0)), (b2, .cells (ratC y1 (encQ ((1 : Int) : Rat))) 27 (0, 0))]) k_ ?_
            refine RD.bat k_ [(13, none)] [2, 3, 4, 5] [] (L' := [13, 12, 10, 9, 8, 7, 4, 6, 11, 3, 5, 2, 1, 0]) (l' := [(2, pt b7), (3, .int .i64 (meanE ([(y1, (encQ ((1 : Int) : Rat))), (y3, (encQ (((-1) : Int) : Rat)))] : List PR).length ((1 : Int) : Rat) ((2 : Int) : Rat))), (4, pt b64), (5, .int .i64 (checkE ([((⟨saNil, saNil⟩ : RA), (⟨false, ([] : List Nat), ([] : List Nat)⟩ : Raw)), ((⟨saNil, saNil⟩ : RA), (⟨false, ([] : List Nat), ([] : List Nat)⟩ : Raw)), ((⟨saNil, saNil⟩ : RA), (⟨false, ([] : List Nat), ([] : List Nat)⟩ : Raw)), (y39, (encQ ((5 : Int) : Rat)))] : List PR).length ((1 : Int) : Rat) (((1 : Int) : Rat) / ((4 : Int) : Rat)) 3))]) k_ ?_
            refine RD.done k_ ?_
            refine KN.meet (y39, b70, y69, y71, b64) [2, 3, 4, 5] [0, 1, 2, 3, 4, 5, 6, 7, 8, 9, 10, 11, 12, 13, 14] (l2 := [(2, pt b7), (3, .int .i64 (meanE ([(y1, (encQ ((1 : Int) : Rat))), (y3, (encQ (((-1) : Int) : Rat)))] : List PR).length ((1 : Int) : Rat) ((2 : Int) : Rat))), (4, pt b64), (5, .int .i64 (checkE ([((⟨saNil, saNil⟩ : RA), (⟨false, ([] : List Nat), ([] : List Nat)⟩ : Raw)), ((⟨saNil, saNil⟩ : RA), (⟨false, ([] : List Nat), ([] : List Nat)⟩ : Raw)), ((⟨saNil, saNil⟩ : RA), (⟨false, ([] : List Nat), ([] : List Nat)⟩ : Raw)), (y39, (encQ ((5 : Int) : Rat)))] : List PR).length ((1 : Int) : Rat) (((1 : Int) : Rat) / ((4 : Int) : Rat)) 3))]) (by exact h72) k_ (by rfl) (by rfl) (by rfl)
      · skip
        refine RDi.new (i := 11) (fun b => pt b) (.cells (ivC (⟨saNil, saNil⟩ : RA) (⟨false, ([] : List Nat), ([] : List Nat)⟩ : Raw) (⟨saNil, saNil⟩ : RA) (⟨false, ([] : List Nat), ([] : List Nat)⟩ : Raw)) 38 (0, 0)) k_ k_ k_ (fun w => by kernel_rfl) (fun b73 => ?_)
        refine RD.call (i := 3) (r03_FromInt 5 y_l19_awake y_l19_awake) [] k_ k_ k_ k_ k_ rfl (fun y74 _ => ?_)
        refine RD.forkL (is := [4, 6]) k_ rfl k_ ⟨?_, ?_, trivial⟩
        · skip
          refine RDi.new (i := 4) (fun b => .slice (some ⟨b, 0, none⟩) 4 4) (.cells (encR ([((⟨saNil, saNil⟩ : RA), (⟨false, ([] : List Nat), ([] : List Nat)⟩ : Raw)), ((⟨saNil, saNil⟩ : RA), (⟨false, ([] : List Nat), ([] : List Nat)⟩ : Raw)), ((⟨saNil, saNil⟩ : RA), (⟨false, ([] : List Nat), ([] : List Nat)⟩ : Raw)), (y74, (encQ ((5 : Int) : Rat)))] : List PR)) 27 (0, 0)) k_ k_ k_ (fun w => by kernel_rfl) (fun b75 => ?_)
          refine RD.call (i := 6) (r03_Fraction 1 4 y_l19_awake y_l19_awake y_l19_awake y_l19_awake y_l19_awake) [] k_ k_ k_ k_ k_ rfl (fun y76 _ => ?_)
          refine RD.share 0 rfl rfl k_ ?_
          refine RD.also (fRat (⟨saNil, saNil⟩ : RA) (⟨false, ([] : List Nat), ([] : List Nat)⟩ : Raw)) (fun w h => ⟨fU_nil w, fU_nil w⟩) k_ ?_
          refine RD.also (allRat ([((⟨saNil, saNil⟩ : RA), (⟨false, ([] : List Nat), ([] : List Nat)⟩ : Raw)), ((⟨saNil, saNil⟩ : RA), (⟨false, ([] : List Nat), ([] : List Nat)⟩ : Raw)), ((⟨saNil, saNil⟩ : RA), (⟨false, ([] : List Nat), ([] : List Nat)⟩ : Raw)), (y74, (encQ ((5 : Int) : Rat)))] : List PR)) (fun w h => allRat_cons (h _ (.head _)) (allRat_cons (h _ (.head _)) (allRat_cons (h _ (.head _)) (allRat_cons (h _ (.tail _ ((.tail _ ((.tail _ ((.head _)))))))) (allRat_nil _))))) k_ ?_
          refine RD.also (fRats (⟨some ⟨b75, 0, none⟩, 4⟩ : SA) ([((⟨saNil, saNil⟩ : RA), (⟨false, ([] : List Nat), ([] : List Nat)⟩ : Raw)), ((⟨saNil, saNil⟩ : RA), (⟨false, ([] : List Nat), ([] : List Nat)⟩ : Raw)), ((⟨saNil, saNil⟩ : RA), (⟨false, ([] : List Nat), ([] : List Nat)⟩ : Raw)), (y74, (encQ ((5 : Int) : Rat)))] : List PR)) (fun w h => fRats_own (h _ (.tail _ ((.tail _ ((.head _)))))) (h _ (.head _)) x_ x_) k_ ?_
          refine RD.turn 21 (v := .slice (some ⟨b75, 0, none⟩) 4 4) (v' := sl (⟨some ⟨b75, 0, none⟩, 4⟩ : SA) ([((⟨saNil, saNil⟩ : RA), (⟨false, ([] : List Nat), ([] : List Nat)⟩ : Raw)), ((⟨saNil, saNil⟩ : RA), (⟨false, ([] : List Nat), ([] : List Nat)⟩ : Raw)), ((⟨saNil, saNil⟩ : RA), (⟨false, ([] : List Nat), ([] : List Nat)⟩ : Raw)), (y74, (encQ ((5 : Int) : Rat)))] : List PR).length) k_ (sl_eq x_) ?_
          refine RD.call (i := 7) (m19_Scale_c (⟨some ⟨b75, 0, none⟩, 4⟩ : SA) ([((⟨saNil, saNil⟩ : RA), (⟨false, ([] : List Nat), ([] : List Nat)⟩ : Raw)), ((⟨saNil, saNil⟩ : RA), (⟨false, ([] : List Nat), ([] : List Nat)⟩ : Raw)), ((⟨saNil, saNil⟩ : RA), (⟨false, ([] : List Nat), ([] : List Nat)⟩ : Raw)), (y74, (encQ ((5 : Int) : Rat)))] : List PR) y1 ((1 : Int) : Rat) y76 (((1 : Int) : Rat) / ((4 : Int) : Rat)) 3 y_l19_awake y_l19_awake y_l19_awake y_l19_awake y_l19_awake) [0, 12, 4] k_ k_ k_ k_ k_ rfl (fun y77 h78 => ?_)
          refine RD.bat k_ [(8, none), (9, none), (10, none)] [2, 3, 4, 25, 26] [] (L' := [10, 9, 8, 7, 6, 4, 3, 11, 5, 2, 1, 0]) (l' := [(2, pt b7), (3, .int .i64 (meanE ([(y1, (encQ ((1 : Int) : Rat))), (y3, (encQ (((-1) : Int) : Rat)))] : List PR).length ((1 : Int) : Rat) ((2 : Int) : Rat))), (4, pt b73), (25, .agg (ivC y77.1 (encQ y77.2.2.1) y77.2.1 (encQ y77.2.2.2))), (26, .int .i64 (checkE ([((⟨saNil, saNil⟩ : RA), (⟨false, ([] : List Nat), ([] : List Nat)⟩ : Raw)), ((⟨saNil, saNil⟩ : RA), (⟨false, ([] : List Nat), ([] : List Nat)⟩ : Raw)), ((⟨saNil, saNil⟩ : RA), (⟨false, ([] : List Nat), ([] : List Nat)⟩ : Raw)), (y74, (encQ ((5 : Int) : Rat)))] : List PR).length ((1 : Int) : Rat) (((1 : Int) : Rat) / ((4 : Int) : Rat)) 3))]) k_ ?_
          refine RD.last (i := 12) (some 0) [2, 3, 4, 26] [b73, b73, b73, b73, b73, b73] k_ k_ k_ (l' := [(2, pt b7), (3, .int .i64 (meanE ([(y1, (encQ ((1 : Int) : Rat))), (y3, (encQ (((-1) : Int) : Rat)))] : List PR).length ((1 : Int) : Rat) ((2 : Int) : Rat))), (4, pt b73), (26, .int .i64 (checkE ([((⟨saNil, saNil⟩ : RA), (⟨false, ([] : List Nat), ([] : List Nat)⟩ : Raw)), ((⟨saNil, saNil⟩ : RA), (⟨false, ([] : List Nat), ([] : List Nat)⟩ : Raw)), ((⟨saNil, saNil⟩ : RA), (⟨false, ([] : List Nat), ([] : List Nat)⟩ : Raw)), (y74, (encQ ((5 : Int) : Rat)))] : List PR).length ((1 : Int) : Rat) (((1 : Int) : Rat) / ((4 : Int) : Rat)) 3))]) (M' := [(b73, .cells (ivC y77.1 (encQ y77.2.2.1) y77.2.1 (encQ y77.2.2.2)) 38 (0, 0)), (b7, .cells (ratC y6 (encQ (meanV ([(y1, (encQ ((1 : Int) : Rat))), (y3, (encQ (((-1) : Int) : Rat)))] : List PR) ((1 : Int) : Rat) ((2 : Int) : Rat)))) 27 (0, 0)), (b2, .cells (ratC y1 (encQ ((1 : Int) : Rat))) 27 (0, 0))]) k_ ?_
          refine RD.bat k_ [(13, none)] [2, 3, 4, 5] [] (L' := [13, 12, 10, 9, 8, 7, 6, 4, 3, 11, 5, 2, 1, 0]) (l' := [(2, pt b7), (3, .int .i64 (meanE ([(y1, (encQ ((1 : Int) : Rat))), (y3, (encQ (((-1) : Int) : Rat)))] : List PR).length ((1 : Int) : Rat) ((2 : Int) : Rat))), (4, pt b73), (5, .int .i64 (checkE ([((⟨saNil, saNil⟩ : RA), (⟨false, ([] : List Nat), ([] : List Nat)⟩ : Raw)), ((⟨saNil, saNil⟩ : RA), (⟨false, ([] : List Nat), ([] : List Nat)⟩ : Raw)), ((⟨saNil, saNil⟩ : RA), (⟨false, ([] : List Nat), ([] : List Nat)⟩ : Raw)), (y74, (encQ ((5 : Int) : Rat)))] : List PR).length ((1 : Int) : Rat) (((1 : Int) : Rat) / ((4 : Int) : Rat)) 3))]) k_ ?_
          refine RD.done k_ ?_
          refine KN.meet (y74, b75, y76, y77, b73) [2, 3, 4, 5] [0, 1, 2, 3, 4, 5, 6, 7, 8, 9, 10, 11, 12, 13, 14] (l2 := [(2, pt b7), (3, .int .i64 (meanE ([(y1, (encQ ((1 : Int) : Rat))), (y3, (encQ (((-1) : Int) : Rat)))] : List PR).length ((1 : Int) : Rat) ((2 : Int) : Rat))), (4, pt b73), (5, .int .i64 (checkE ([((⟨saNil, saNil⟩ : RA), (⟨false, ([] : List Nat), ([] : List Nat)⟩ : Raw)), ((⟨saNil, saNil⟩ : RA), (⟨false, ([] : List Nat), ([] : List Nat)⟩ : Raw)), ((⟨saNil, saNil⟩ : RA), (⟨false, ([] : List Nat), ([] : List Nat)⟩ : Raw)), (y74, (encQ ((5 : Int) : Rat)))] : List PR).length ((1 : Int) : Rat) (((1 : Int) : Rat) / ((4 : Int) : Rat)) 3))]) (by exact h78) k_ (by rfl) (by rfl) (by rfl)
        · skip
          refine RDi.call (i := 6) (r03_Fraction 1 4 y_l19_awake y_l19_awake y_l19_awake y_l19_awake y_l19_awake) [] k_ k_ k_ k_ rfl (fun y79 _ => ?_)
          refine RD.new (i := 4) (fun b => .slice (some ⟨b, 0, none⟩) 4 4) (.cells (encR ([((⟨saNil, saNil⟩ : RA), (⟨false, ([] : List Nat), ([] : List Nat)⟩ : Raw)), ((⟨saNil, saNil⟩ : RA), (⟨false, ([] : List Nat), ([] : List Nat)⟩ : Raw)), ((⟨saNil, saNil⟩ : RA), (⟨false, ([] : List Nat), ([] : List Nat)⟩ : Raw)), (y74, (encQ ((5 : Int) : Rat)))] : List PR)) 27 (0, 0)) k_ k_ k_ k_ (fun w => by kernel_rfl) (fun b80 => ?_)
          refine RD.share 0 rfl rfl k_ ?_
          refine RD.also (fRat (⟨saNil, saNil⟩ : RA) (⟨false, ([] : List Nat), ([] : List Nat)⟩ : Raw)) (fun w h => ⟨fU_nil w, fU_nil w⟩) k_ ?_
          refine RD.also (allRat ([((⟨saNil, saNil⟩ : RA), (⟨false, ([] : List Nat), ([] : List Nat)⟩ : Raw)), ((⟨saNil, saNil⟩ : RA), (⟨false, ([] : List Nat), ([] : List Nat)⟩ : Raw)), ((⟨saNil, saNil⟩ : RA), (⟨false, ([] : List Nat), ([] : List Nat)⟩ : Raw)), (y74, (encQ ((5 : Int) : Rat)))] : List PR)) (fun w h => allRat_cons (h _ (.head _)) (allRat_cons (h _ (.head _)) (allRat_cons (h _ (.head _)) (allRat_cons (h _ (.tail _ ((.tail _ ((.tail _ ((.head _)))))))) (allRat_nil _))))) k_ ?_
          refine RD.also (fRats (⟨some ⟨b80, 0, none⟩, 4⟩ : SA) ([((⟨saNil, saNil⟩ : RA), (⟨false, ([] : List Nat), ([] : List Nat)⟩ : Raw)), ((⟨saNil, saNil⟩ : RA), (⟨false, ([] : List Nat), ([] : List Nat)⟩ : Raw)), ((⟨saNil, saNil⟩ : RA), (⟨false, ([] : List Nat), ([] : List Nat)⟩ : Raw)), (y74, (encQ ((5 : Int) : Rat)))] : List PR)) (fun w h => fRats_own (h _ (.tail _ ((.tail _ ((.head _)))))) (h _ (.head _)) x_ x_) k_ ?_
          refine RD.turn 21 (v := .slice (some ⟨b80, 0, none⟩) 4 4) (v' := sl (⟨some ⟨b80, 0, none⟩, 4⟩ : SA) ([((⟨saNil, saNil⟩ : RA), (⟨false, ([] : List Nat), ([] : List Nat)⟩ : Raw)), ((⟨saNil, saNil⟩ : RA), (⟨false, ([] : List Nat), ([] : List Nat)⟩ : Raw)), ((⟨saNil, saNil⟩ : RA), (⟨false, ([] : List Nat), ([] : List Nat)⟩ : Raw)), (y74, (encQ ((5 : Int) : Rat)))] : List PR).length) k_ (sl_eq x_) ?_
          refine RD.call (i := 7) (m19_Scale_c (⟨some ⟨b80, 0, none⟩, 4⟩ : SA) ([((⟨saNil, saNil⟩ : RA), (⟨false, ([] : List Nat), ([] : List Nat)⟩ : Raw)), ((⟨saNil, saNil⟩ : RA), (⟨false, ([] : List Nat), ([] : List Nat)⟩ : Raw)), ((⟨saNil, saNil⟩ : RA), (⟨false, ([] : List Nat), ([] : List Nat)⟩ : Raw)), (y74, (encQ ((5 : Int) : Rat)))] : List PR) y1 ((1 : Int) : Rat) y79 (((1 : Int) : Rat) / ((4 : Int) : Rat)) 3 y_l19_awake y_l19_awake y_l19_awake y_l19_awake y_l19_awake) [0, 12, 4] k_ k_ k_ k_ k_ rfl (fun y81 h82 => ?_)
          refine RD.bat k_ [(8, none), (9, none), (10, none)] [2, 3, 4, 25, 26] [] (L' := [10, 9, 8, 7, 4, 6, 3, 11, 5, 2, 1, 0]) (l' := [(2, pt b7), (3, .int .i64 (meanE ([(y1, (encQ ((1 : Int) : Rat))), (y3, (encQ (((-1) : Int) : Rat)))] : List PR).length ((1 : Int) : Rat) ((2 : Int) : Rat))), (4, pt b73), (25, .agg (ivC y81.1 (encQ y81.2.2.1) y81.2.1 (encQ y81.2.2.2))), (26, .int .i64 (checkE ([((⟨saNil, saNil⟩ : RA), (⟨false, ([] : List Nat), ([] : List Nat)⟩ : Raw)), ((⟨saNil, saNil⟩ : RA), (⟨false, ([] : List Nat), ([] : List Nat)⟩ : Raw)), ((⟨saNil, saNil⟩ : RA), (⟨false, ([] : List Nat), ([] : List Nat)⟩ : Raw)), (y74, (encQ ((5 : Int) : Rat)))] : List PR).length ((1 : Int) : Rat) (((1 : Int) : Rat) / ((4 : Int) : Rat)) 3))]) k_ ?_
          refine RD.last (i := 12) (some 0) [2, 3, 4, 26] [b73, b73, b73, b73, b73, b73] k_ k_ k_ (l' := [(2, pt b7), (3, .int .i64 (meanE ([(y1, (encQ ((1 : Int) : Rat))), (y3, (encQ (((-1) : Int) : Rat)))] : List PR).length ((1 : Int) : Rat) ((2 : Int) : Rat))), (4, pt b73), (26, .int .i64 (checkE ([((⟨saNil, saNil⟩ : RA), (⟨false, ([] : List Nat), ([] : List Nat)⟩ : Raw)), ((⟨saNil, saNil⟩ : RA), (⟨false, ([] : List Nat), ([] : List Nat)⟩ : Raw)), ((⟨saNil, saNil⟩ : RA), (⟨false, ([] : List Nat), ([] : List Nat)⟩ : Raw)), (y74, (encQ ((5 : Int) : Rat)))] : List PR).length ((1 : Int) : Rat) (((1 : Int) : Rat) / ((4 : Int) : Rat)) 3))]) (M' := [(b73, .cells (ivC y81.1 (encQ y81.2.2.1) y81.2.1 (encQ y81.2.2.2)) 38 (0, 0)), (b7, .cells (ratC y6 (encQ (meanV ([(y1, (encQ ((1 : Int) : Rat))), (y3, (encQ (((-1) : Int) : Rat)))] : List PR) ((1 : Int) : Rat) ((2 : Int) : Rat)))) 27 (0, 0)), (b2, .cells (ratC y1 (encQ ((1 : Int) : Rat))) 27 (0, 0))]) k_ ?_
          refine RD.bat k_ [(13, none)] [2, 3, 4, 5] [] (L' := [13, 12, 10, 9, 8, 7, 4, 6, 3, 11, 5, 2, 1, 0]) (l' := [(2, pt b7), (3, .int .i64 (meanE ([(y1, (encQ ((1 : Int) : Rat))), (y3, (encQ (((-1) : Int) : Rat)))] : List PR).length ((1 : Int) : Rat) ((2 : Int) : Rat))), (4, pt b73), (5, .int .i64 (checkE ([((⟨saNil, saNil⟩ : RA), (⟨false, ([] : List Nat), ([] : List Nat)⟩ : Raw)), ((⟨saNil, saNil⟩ : RA), (⟨false, ([] : List Nat), ([] : List Nat)⟩ : Raw)), ((⟨saNil, saNil⟩ : RA), (⟨false, ([] : List Nat), ([] : List Nat)⟩ : Raw)), (y74, (encQ ((5 : Int) : Rat)))] : List PR).length ((1 : Int) : Rat) (((1 : Int) : Rat) / ((4 : Int) : Rat)) 3))]) k_ ?_
          refine RD.done k_ ?_
          refine KN.meet (y74, b80, y79, y81, b73) [2, 3, 4, 5] [0, 1, 2, 3, 4, 5, 6, 7, 8, 9, 10, 11, 12, 13, 14] (l2 := [(2, pt b7), (3, .int .i64 (meanE ([(y1, (encQ ((1 : Int) : Rat))), (y3, (encQ (((-1) : Int) : Rat)))] : List PR).length ((1 : Int) : Rat) ((2 : Int) : Rat))), (4, pt b73), (5, .int .i64 (checkE ([((⟨saNil, saNil⟩ : RA), (⟨false, ([] : List Nat), ([] : List Nat)⟩ : Raw)), ((⟨saNil, saNil⟩ : RA), (⟨false, ([] : List Nat), ([] : List Nat)⟩ : Raw)), ((⟨saNil, saNil⟩ : RA), (⟨false, ([] : List Nat), ([] : List Nat)⟩ : Raw)), (y74, (encQ ((5 : Int) : Rat)))] : List PR).length ((1 : Int) : Rat) (((1 : Int) : Rat) / ((4 : Int) : Rat)) 3))]) (by exact h82) k_ (by rfl) (by rfl) (by rfl)
    · skip
      intro x83 hx84
      obtain ⟨y39, b40, y41, y42, b44⟩ := x83
      replace hx84 : (ScaleR (vals ([((⟨saNil, saNil⟩ : RA), (⟨false, ([] : List Nat), ([] : List Nat)⟩ : Raw)), ((⟨saNil, saNil⟩ : RA), (⟨false, ([] : List Nat), ([] : List Nat)⟩ : Raw)), ((⟨saNil, saNil⟩ : RA), (⟨false, ([] : List Nat), ([] : List Nat)⟩ : Raw)), (y39, (encQ ((5 : Int) : Rat)))] : List PR)) ([((⟨saNil, saNil⟩ : RA), (⟨false, ([] : List Nat), ([] : List Nat)⟩ : Raw)), ((⟨saNil, saNil⟩ : RA), (⟨false, ([] : List Nat), ([] : List Nat)⟩ : Raw)), ((⟨saNil, saNil⟩ : RA), (⟨false, ([] : List Nat), ([] : List Nat)⟩ : Raw)), (y39, (encQ ((5 : Int) : Rat)))] : List PR).length ((1 : Int) : Rat) (((1 : Int) : Rat) / ((4 : Int) : Rat)) 3 y42.2.2.1 y42.2.2.2) := hx84
      have h43 := hx84
      refine J.seq ?_
      refine J.regD k_ [] ?_
      refine RD.bat k_ [(0, none), (1, none), (2, none)] [2, 4, 5, 29] [] (L' := [2, 1, 0]) (l' := [(2, pt b7), (4, pt b44), (5, .int .i64 (checkE ([((⟨saNil, saNil⟩ : RA), (⟨false, ([] : List Nat), ([] : List Nat)⟩ : Raw)), ((⟨saNil, saNil⟩ : RA), (⟨false, ([] : List Nat), ([] : List Nat)⟩ : Raw)), ((⟨saNil, saNil⟩ : RA), (⟨false, ([] : List Nat), ([] : List Nat)⟩ : Raw)), (y39, (encQ ((5 : Int) : Rat)))] : List PR).length ((1 : Int) : Rat) (((1 : Int) : Rat) / ((4 : Int) : Rat)) 3)), (29, .bool (((meanE ([(y1, (encQ ((1 : Int) : Rat))), (y3, (encQ (((-1) : Int) : Rat)))] : List PR).length ((1 : Int) : Rat) ((2 : Int) : Rat)) : Int) == 0))]) k_ ?_
      refine RD.split (t := 29) (((meanE ([(y1, (encQ ((1 : Int) : Rat))), (y3, (encQ (((-1) : Int) : Rat)))] : List PR).length ((1 : Int) : Rat) ((2 : Int) : Rat)) : Int) == 0) k_ (fun c85 => ?_) (fun c85 => ?_)
      · skip
        replace c85 := eq_of_beq c85
        refine RD.bat k_ [(3, none), (4, none), (5, none), (6, none)] [2, 4, 33] [] (L' := [6, 5, 4, 3, 2, 1, 0]) (l' := [(2, pt b7), (4, pt b44), (33, .bool (((checkE ([((⟨saNil, saNil⟩ : RA), (⟨false, ([] : List Nat), ([] : List Nat)⟩ : Raw)), ((⟨saNil, saNil⟩ : RA), (⟨false, ([] : List Nat), ([] : List Nat)⟩ : Raw)), ((⟨saNil, saNil⟩ : RA), (⟨false, ([] : List Nat), ([] : List Nat)⟩ : Raw)), (y39, (encQ ((5 : Int) : Rat)))] : List PR).length ((1 : Int) : Rat) (((1 : Int) : Rat) / ((4 : Int) : Rat)) 3) : Int) == 0))]) k_ ?_
        refine RD.split (t := 33) (((checkE ([((⟨saNil, saNil⟩ : RA), (⟨false, ([] : List Nat), ([] : List Nat)⟩ : Raw)), ((⟨saNil, saNil⟩ : RA), (⟨false, ([] : List Nat), ([] : List Nat)⟩ : Raw)), ((⟨saNil, saNil⟩ : RA), (⟨false, ([] : List Nat), ([] : List Nat)⟩ : Raw)), (y39, (encQ ((5 : Int) : Rat)))] : List PR).length ((1 : Int) : Rat) (((1 : Int) : Rat) / ((4 : Int) : Rat)) 3) : Int) == 0) k_ (fun c86 => ?_) (fun c86 => ?_)
        · skip
          replace c86 := eq_of_beq c86
          refine RD.bat k_ [(7, some 1)] [4, 33, 34] [b7, b7, b7] (L' := [7, 6, 5, 4, 3, 2, 1, 0]) (l' := [(4, pt b44), (33, .bool true), (34, ratV y6 (encQ (meanV ([(y1, (encQ ((1 : Int) : Rat))), (y3, (encQ (((-1) : Int) : Rat)))] : List PR) ((1 : Int) : Rat) ((2 : Int) : Rat))))]) k_ ?_
          refine RD.call (i := 8) (r03_Fraction 7 8 y_l19_awake y_l19_awake y_l19_awake y_l19_awake y_l19_awake) [] k_ k_ k_ k_ k_ rfl (fun y87 _ => ?_)
          refine RD.call (i := 9) (r03_Same y6 (encQ (meanV ([(y1, (encQ ((1 : Int) : Rat))), (y3, (encQ (((-1) : Int) : Rat)))] : List PR) ((1 : Int) : Rat) ((2 : Int) : Rat))) y87 (encQ (((7 : Int) : Rat) / ((8 : Int) : Rat)))) [9, 0] k_ k_ k_ k_ k_ rfl (fun y88 _ => ?_)
          refine RD.bat k_ [(10, none), (11, none)] [4, 38] [] (L' := [11, 10, 9, 8, 7, 6, 5, 4, 3, 2, 1, 0]) (l' := [(4, pt b44), (38, .bool (decide ((encQ (meanV ([(y1, (encQ ((1 : Int) : Rat))), (y3, (encQ (((-1) : Int) : Rat)))] : List PR) ((1 : Int) : Rat) ((2 : Int) : Rat))) = (encQ (((7 : Int) : Rat) / ((8 : Int) : Rat))))))]) k_ ?_
          refine RD.split (t := 38) (decide ((encQ (meanV ([(y1, (encQ ((1 : Int) : Rat))), (y3, (encQ (((-1) : Int) : Rat)))] : List PR) ((1 : Int) : Rat) ((2 : Int) : Rat))) = (encQ (((7 : Int) : Rat) / ((8 : Int) : Rat))))) k_ (fun c89 => ?_) (fun c89 => ?_)
          · skip
            replace c89 := of_decide_eq_true c89
            refine RD.bat k_ [(12, some 0), (13, none)] [38, 39, 40] [b44, b44, b44, b44, b44, b44] (L' := [13, 12, 11, 10, 9, 8, 7, 6, 5, 4, 3, 2, 1, 0]) (l' := [(38, .bool true), (39, .agg (ivC y42.1 (encQ y42.2.2.1) y42.2.1 (encQ y42.2.2.2))), (40, .agg (ivC (⟨saNil, saNil⟩ : RA) (⟨false, ([] : List Nat), ([] : List Nat)⟩ : Raw) (⟨saNil, saNil⟩ : RA) (⟨false, ([] : List Nat), ([] : List Nat)⟩ : Raw)))]) k_ ?_
            refine RD.call (i := 14) (r04_Same y42.1 (encQ y42.2.2.1) y42.2.1 (encQ y42.2.2.2) ⟨saNil, saNil⟩ ⟨false, ([] : List Nat), ([] : List Nat)⟩ ⟨saNil, saNil⟩ ⟨false, ([] : List Nat), ([] : List Nat)⟩) [1, 2, 5, 5] k_ k_ k_ k_ k_ rfl (fun y90 _ => ?_)
            refine RD.bat k_ [(15, none), (16, none)] [43] [] (L' := [16, 15, 14, 13, 12, 11, 10, 9, 8, 7, 6, 5, 4, 3, 2, 1, 0]) (l' := [(43, .bool (decide ((encQ y42.2.2.1) = (⟨false, ([] : List Nat), ([] : List Nat)⟩ : Raw)) && decide ((encQ y42.2.2.2) = (⟨false, ([] : List Nat), ([] : List Nat)⟩ : Raw))))]) k_ ?_
            refine RD.split (t := 43) ((decide ((encQ y42.2.2.1) = (⟨false, ([] : List Nat), ([] : List Nat)⟩ : Raw)) && decide ((encQ y42.2.2.2) = (⟨false, ([] : List Nat), ([] : List Nat)⟩ : Raw)))) k_ (fun c91 => ?_) (fun c91 => ?_)
            · skip
              refine RD.call (i := 17) (r03_Fraction 1 2 y_l19_awake y_l19_awake y_l19_awake y_l19_awake y_l19_awake) [] k_ k_ k_ k_ k_ rfl (fun y92 _ => ?_)
              refine RD.call (i := 18) (m19_Rho_c y92 (((1 : Int) : Rat) / ((2 : Int) : Rat)) y_l19_awake y_l19_awake) [0] k_ k_ k_ k_ k_ rfl (fun y93 _ => ?_)
              refine RD.call (i := 19) (r03_Fraction 7 8 y_l19_awake y_l19_awake y_l19_awake y_l19_awake y_l19_awake) [] k_ k_ k_ k_ k_ rfl (fun y94 _ => ?_)
              refine RD.call (i := 20) (r03_Same y93 (encQ (rhoQ (((1 : Int) : Rat) / ((2 : Int) : Rat)))) y94 (encQ (((7 : Int) : Rat) / ((8 : Int) : Rat)))) [1, 0] k_ k_ k_ k_ k_ rfl (fun y95 _ => ?_)
              refine RD.bat k_ [(21, none), (22, none)] [0] [] (L' := [22, 21, 20, 19, 18, 17, 16, 15, 14, 13, 12, 11, 10, 9, 8, 7, 6, 5, 4, 3, 2, 1, 0]) (l' := [(0, .bool (decide ((encQ (rhoQ (((1 : Int) : Rat) / ((2 : Int) : Rat)))) = (encQ (((7 : Int) : Rat) / ((8 : Int) : Rat))))))]) k_ ?_
              refine RD.done k_ ?_
              refine KN.next ?_
              have e_1 : true = (decide ((encQ (rhoQ (((1 : Int) : Rat) / ((2 : Int) : Rat)))) = (encQ (((7 : Int) : Rat) / ((8 : Int) : Rat))))) := by exact (decide_eq_true (congrArg encQ aw_r)).symm
              refine J.ret (KR.ret (v := .bool (decide ((encQ (rhoQ (((1 : Int) : Rat) / ((2 : Int) : Rat)))) = (encQ (((7 : Int) : Rat) / ((8 : Int) : Rat)))))) (()) [none] [] [] k_ v1_ (trivial) v1_)
            · skip
              exact absurd c91 (by obtain ⟨e1, e2⟩ := aw_i ‹ScaleR _ _ _ _ _ _ _› (aw_s _ _ _ _ _ rfl); simp [e1, e2])
          · skip
            replace c89 := of_decide_eq_false c89
            exact absurd c89 (by exact fun h => h (congrArg encQ (aw_m _ _)))
        · skip
          replace c86 := ne_of_beq_false c86
          exact absurd c86 (by exact fun h => h aw_c)
      · skip
        replace c85 := ne_of_beq_false c85
        exact absurd c85 (by exact fun h => h aw_e)
end Go.Proofs.YtegnonhgildhoaaGreat.E
namespace Go.Proofs.YtegnonhgildhoaaGreat.E
open Go Go.RowKit
set_option linter.unusedVariables false
set_option linter.unusedSimpArgs false
end Go.Proofs.YtegnonhgildhoaaGreat.E
namespace Go.Proofs.YtegnonhgildhoaaGreat.E
open Go Go.RowKit
set_option linter.unusedVariables false
set_option linter.unusedSimpArgs false
theorem ScaleR.cases' {x : Nat → Rat} {n : Nat} {c b : Rat} {bits : Int} {lo hi : Rat} (h : ScaleR x n c b bits lo hi) (he : checkE n c b bits = 0) : (shareN x n ≤ b ∧ lo = 0 ∧ hi = 0) ∨ (b < shareN x n ∧ ScaleOk x n c b bits lo hi) := by
  unfold ScaleR at h
  by_cases hs : shareN x n ≤ b
  · rw [if_pos (.inr hs)] at h; exact .inl ⟨hs, h⟩
  · rw [if_neg (by simp [he, hs])] at h; exact .inr ⟨Rat.not_le.1 hs, h⟩
theorem least_zero {x : Nat → Rat} {n : Nat} {c b : Rat} : atLeastB x n c b 0 = true := by unfold atLeastB; simp
theorem least_ok {x : Nat → Rat} {n : Nat} {c b v : Rat} (hs : b < shareN x n) (h : b ≤ meanN x n c v) : atLeastB x n c b v = true := by
  unfold atLeastB nullB
  split
  · rfl
  · simp [Rat.not_le.2 hs, Rat.not_lt.2 h]
end Go.Proofs.YtegnonhgildhoaaGreat.E
namespace Go.Proofs.YtegnonhgildhoaaGreat.E
open Go Go.RowKit
set_option linter.unusedVariables false
set_option linter.unusedSimpArgs false
def cQ (c : Int) : Rat := ((1 + c % 9 : Int) : Rat) / ((2 : Int) : Rat)
theorem Q_num {v : Int} : Q 64 (numQ v) := by
  have h1 := emod_b (k := v) (n := 61) (by decide)
  have h2 := emod_b (k := Int.tdiv v 61) (n := 4) (by decide)
  exact ((Q_int (v := v % 61 - 30) (by omega)).div (Q_int (v := 1 + Int.tdiv v 61 % 4) (by omega))).le (by decide)
theorem Q_c {v : Int} : Q 64 (cQ v) := by
  have h1 := emod_b (k := v) (n := 9) (by decide)
  exact ((Q_int (v := 1 + v % 9) (by omega)).div (Q_int (v := 2) (by decide))).le (by decide)
theorem Q_lev {v : Int} : Q 64 (levQ v) := by
  have h1 := emod_b (k := v) (n := 11) (by decide)
  exact ((Q_int (v := 1 + v % 11) (by omega)).div (Q_int (v := 12) (by decide))).le (by decide)
theorem cast_pos {v : Int} (h : 0 < v) : (0 : Rat) < (v : Rat) := by
  have : ((0 : Int) : Rat) < (v : Rat) := Rat.intCast_lt_intCast.2 h
  simpa using this
theorem cQ_pos (v : Int) : 0 < cQ v := by
  have h1 := emod_b (k := v) (n := 9) (by decide)
  unfold cQ; rw [Rat.div_def]
  exact Rat.mul_pos (cast_pos (by omega)) (Rat.inv_pos.2 (cast_pos (by decide)))
theorem lev_in (v : Int) : 0 < levQ v ∧ levQ v < 1 := by
  have h1 := emod_b (k := v) (n := 11) (by decide)
  unfold levQ
  constructor
  · rw [Rat.div_def]
    exact Rat.mul_pos (cast_pos (by omega)) (Rat.inv_pos.2 (cast_pos (by decide)))
  · rw [Rat.div_lt_iff (cast_pos (by decide))]
    have : ((1 + v % 11 : Int) : Rat) < ((12 : Int) : Rat) := Rat.intCast_lt_intCast.2 (by omega)
    grind
theorem check_made {n : Nat} {c b bits : Int} (h0 : 0 < n) (h1 : n ≤ 1024) (t0 : 0 ≤ bits) (t1 : bits ≤ 128) : checkE n (cQ c) (levQ b) bits = 0 := by
  have hl := lev_in b
  have hs : sizeE n = 0 := by unfold sizeE; rw [if_neg (by omega), if_neg (by omega)]
  unfold checkE
  rw [if_neg (by simp [hs]), if_pos ⟨cQ_pos c, hl.1, hl.2, t0, t1⟩]
theorem RQ_made {ps : List PR} {f : Nat → Int} (h : ∀ j, j < ps.length → (ps.getD j pr0).2 = encQ (numQ (f j))) : ∀ i, i < ps.length → RQ 64 (ps.getD i pr0).2 := fun i hi => by
  rw [h i hi]; exact RQ_enc Q_num
theorem l19_constants (c : Int) (b : Int) : Spec Tryz.prog 24 #[.int .i64 c, .int .i64 b] [] (ι := RA × RA) (fun y => .tuple #[ratV y.1 (encQ (cQ c)), ratV y.2 (encQ (levQ b))]) (fun y => True) (fun y => [fRat y.1 (encQ (cQ c)), fRat y.2 (encQ (levQ b))]) := by
  refine Spec.of_body _ (fn := Tryz.f24) k_ rfl k_ (fun X w0 => ?_)
  have h9 := emod_b (k := c) (n := 9) (by decide)
  refine J.sreg ?_
  refine RN.new (fun b => pt b) (.cells (ratC (⟨saNil, saNil⟩ : RA) (⟨false, ([] : List Nat), ([] : List Nat)⟩ : Raw)) 27 (0, 0)) k_ k_ (fun w => by kernel_rfl) (fun b1 => ?_)
  refine RN.new (fun b => pt b) (.cells (ratC (⟨saNil, saNil⟩ : RA) (⟨false, ([] : List Nat), ([] : List Nat)⟩ : Raw)) 27 (0, 0)) k_ k_ (fun w => by kernel_rfl) (fun b2 => ?_)
  refine RN.fin k_ ?_
  refine J.sreg ?_
  refine RN.bq (no 1) [1, 4, 5, 6] [] (k' := 1) (l' := [(1, .int .i64 b), (4, pt b1), (5, pt b2), (6, .int .i64 c)]) k_ ?_
  refine RN.call (made_Mod c 9 y_ y_) [] k_ k_ k_ rfl (fun y3 _ => ?_)
  refine RN.bq (no 1) [1, 4, 5, 8] [] (k' := 3) (l' := [(1, .int .i64 b), (4, pt b1), (5, pt b2), (8, .int .i64 (IntKind.i64.wrap (1 + (c % 9))))]) k_ ?_
  rw [show IntKind.i64.wrap (1 + (c % 9)) = (1 + (c % 9)) from by rw [IntKind.wrap_i64]; omega]
  refine RN.call (r03_Fraction (1 + (c % 9)) 2 y_ y_ y_ y_ y_) [] k_ k_ k_ rfl (fun y4 _ => ?_)
  refine RN.bq (no 1) [4, 5, 9, 10] [] (k' := 5) (l' := [(4, pt b1), (5, pt b2), (9, ratV y4 (encQ ((((1 + (c % 9)) : Int) : Rat) / ((2 : Int) : Rat)))), (10, .int .i64 b)]) k_ ?_
  refine RN.call (made_Level b) [] k_ k_ k_ rfl (fun y5 _ => ?_)
  refine RN.bat [some 1, some 0] [4, 5] [b2, b2, b2, b1, b1, b1] (k' := 8) (l' := [(4, pt b1), (5, pt b2)]) (M' := [(b2, .cells (ratC y5 (encQ (levQ b))) 27 (0, 0)), (b1, .cells (ratC y4 (encQ ((((1 + (c % 9)) : Int) : Rat) / ((2 : Int) : Rat)))) 27 (0, 0))]) k_ ?_
  refine RN.fin k_ ?_
  have e_1 : (encQ (cQ c)) = (encQ ((((1 + (c % 9)) : Int) : Rat) / ((2 : Int) : Rat))) := by rfl
  refine J.ret (KR.ret (v := .tuple #[ratV y4 (encQ ((((1 + (c % 9)) : Int) : Rat) / ((2 : Int) : Rat))), ratV y5 (encQ (levQ b))]) (⟨y4, y5⟩) [some 1, some 0] [1, 0] [b1, b1, b1, b2, b2, b2] k_ v1_ (trivial) v1_)
end Go.Proofs.YtegnonhgildhoaaGreat.E
namespace Go.Proofs.YtegnonhgildhoaaGreat.E
open Go Go.RowKit
set_option linter.unusedVariables false
set_option linter.unusedSimpArgs false
def growQ (f g : Nat → Int) (j : Nat) : Rat := absQ (numQ (f j)) + absQ (numQ (g j))
theorem abs_nn (q : Rat) : 0 ≤ absQ q := by unfold absQ; split <;> grind
theorem abs_sq (q : Rat) : absQ q * absQ q = q * q := by unfold absQ; split <;> grind
theorem grow_sq (f g : Nat → Int) (j : Nat) : numQ (f j) * numQ (f j) ≤ growQ f g j * growQ f g j := by
  have h1 := abs_nn (numQ (f j)); have h2 := abs_nn (numQ (g j)); have h3 := abs_sq (numQ (f j))
  have h4 := Rat.mul_nonneg h1 h2
  have h5 := Rat.mul_nonneg h2 h2
  unfold growQ
  grind
theorem Q_abs {k : Nat} {q : Rat} (h : Q k q) : Q k (absQ q) := by unfold absQ; split; exact h.neg; exact h
theorem Q_num4 {v : Int} : Q 5 (numQ v) := by
  have h1 := emod_b (k := v) (n := 61) (by decide)
  have h2 := emod_b (k := Int.tdiv v 61) (n := 4) (by decide)
  exact ((Q_int (v := v % 61 - 30) (by omega)).div (Q_int (v := 1 + Int.tdiv v 61 % 4) (by omega)))
theorem Q_grow (f g : Nat → Int) (j : Nat) : Q 64 (growQ f g j) := ((Q_abs Q_num4).add (Q_abs Q_num4)).le (by decide)
theorem RQ_grow {ps : List PR} {f g : Nat → Int} (h : ∀ j, j < ps.length → (ps.getD j pr0).2 = encQ (growQ f g j)) : ∀ i, i < ps.length → RQ 64 (ps.getD i pr0).2 := fun i hi => by
  rw [h i hi]; exact RQ_enc (Q_grow f g i)
theorem vals_of {ps : List PR} {f : Nat → Rat} (h : ∀ j, j < ps.length → (ps.getD j pr0).2 = encQ (f j)) : ∀ i, i < ps.length → vals ps i = f i := fun i hi => by
  unfold vals; rw [h i hi, qv_encQ]
/-- Residuals that have grown have no smaller scale. -/
theorem grows {ps qs : List PR} {f g : Nat → Int} {c b lo hi lo' hi' : Rat} (hp : ∀ j, j < ps.length → (ps.getD j pr0).2 = encQ (numQ (f j))) (hq : ∀ j, j < qs.length → (qs.getD j pr0).2 = encQ (growQ f g j)) (hl : qs.length = ps.length)
    (h1 : ScaleR (vals ps) ps.length c b 10 lo hi) (h2 : ScaleR (vals qs) qs.length c b 10 lo' hi') (he : checkE ps.length c b 10 = 0) : ¬ hi' < lo ∧ atLeastB (vals qs) qs.length c b lo = true := by
  obtain ⟨n0, n1, c0, b0, b1, t0, t1⟩ := checkE_0 he
  have key : ∀ s, 0 < s → meanN (vals ps) ps.length c s ≤ meanN (vals qs) qs.length c s := fun s hs => by
    rw [hl]
    refine mean_grows (Rat.mul_pos c0 hs) (fun i hi => ?_)
    rw [vals_of hp i hi, vals_of (f := growQ f g) hq i (by omega)]
    exact grow_sq f g i
  rcases h1.cases' he with ⟨hs, rfl, rfl⟩ | ⟨hs, h⟩
  · refine ⟨?_, least_zero⟩
    rcases h2.cases' (by rw [hl]; exact he) with ⟨_, rfl, rfl⟩ | ⟨_, h'⟩
    · exact Rat.lt_irrefl
    · have := h'.pos; have := h'.lt; grind
  · have ha : b < meanN (vals qs) qs.length c lo := by have := key lo h.pos; have := h.above; grind
    have hb : b < shareN (vals qs) qs.length := by have := mean_le_share (x := vals qs) (n := qs.length) (c := c) (s := lo); grind
    refine ⟨?_, least_ok hb (Rat.le_of_lt ha)⟩
    rcases h2.cases' (by rw [hl]; exact he) with ⟨h3, _, _⟩ | ⟨_, h'⟩
    · grind
    · have := above_lt c0 (rlt_trans h'.pos h'.lt) ha h'.below
      grind
theorem getB_num {xs : List Int} (h : ∀ z ∈ xs, -9223372036854775808 ≤ z ∧ z < 9223372036854775808) (i : Nat) : -9223372036854775808 ≤ xs.getD i 0 ∧ xs.getD i 0 < 9223372036854775808 := by
  rcases Nat.lt_or_ge i xs.length with h1 | h1
  · exact h _ (getI_mem h1)
  · rw [getI_ge h1]; decide
theorem y_l19_Grows {p : Prop} (h : p := by first | assumption | exact Lb_toL _ | omega | (simp; done) | first | exact hyqQ | exact hr | exact hm | exact Q.le Q_c (by decide) | exact Q.le Q_lev (by decide) | exact RQ_enc (Q.le Q_c (by decide)) | exact RQ_enc (Q.le Q_lev (by decide)) | exact hps6 | exact hqs6 | exact hps6' _ (by omega) | exact (hm _ (getI_mem ‹_›)).1 | exact (getB_num hm _).1 | exact (getB_num hm _).2 | exact Q.le Q_num4 (by decide) | exact Q.le (Q_abs Q_num4) (by decide) | exact Q.le hq.1 (by decide) | exact Q.le hq'.2 (by decide) | exact Q.le (hq'.2.sub hq.1) (by decide) | exact cQ_pos _ | omega) : p := h
set_option maxHeartbeats 2000000 in
theorem l19_Grows (s : SA) (raw : List Int) (t : SA) (more : List Int) (c : Int) (b : Int) (hr : ∀ z ∈ raw, -9223372036854775808 ≤ z ∧ z < 9223372036854775808) (hm : ∀ z ∈ more, -9223372036854775808 ≤ z ∧ z < 9223372036854775808) : Spec Tryz.prog 5 #[sl s raw.length, sl t more.length, .int .i64 c, .int .i64 b] [fI s raw, fI t more] (ι := Unit) (fun y => .bool true) (fun y => True) (fun y => []) := by
  refine Spec.of_body _ (fn := Tryz.f5) k_ rfl k_ (fun X w0 => ?_)
  refine J.fact (φ := raw.length ≤ 140737488355328) (fun w h => by have := (h _ (.head _)).1; omega) (fun hl1 => ?_)
  refine J.fact (φ := more.length ≤ 140737488355328) (fun w h => by have := (h _ (.tail _ ((.head _)))).1; omega) (fun hl2 => ?_)
  refine J.sreg ?_
  refine RN.bq (no 1) [0, 1, 2, 3] [] (k' := 1) (l' := [(0, sl s raw.length), (1, sl t more.length), (2, .int .i64 c), (3, .int .i64 b)]) k_ ?_
  refine RN.fin k_ ?_
  refine J.sreg ?_
  refine RN.bq (no 1) [1, 2, 3, 18] [] (k' := 1) (l' := [(1, sl t more.length), (2, .int .i64 c), (3, .int .i64 b), (18, sl s raw.length)]) k_ ?_
  refine RN.call (made_Numbers s raw 6 y_l19_Grows y_l19_Grows) [0] k_ k_ k_ rfl (fun yl h3 => ?_)
  have hlen := h3
  have hps6 := RQ_made hlen.2
  have hps6' := fun i hi => (hps6 i hi).le (by decide : 64 ≤ 268435456)
  refine RN.bq (no 1) [1, 2, 3, 9] [] (k' := 3) (l' := [(1, sl t more.length), (2, .int .i64 c), (3, .int .i64 b), (9, sl yl.1 yl.2.length)]) k_ ?_
  refine RN.fin k_ ?_
  refine J.seq ?_
  refine J.sreg ?_
  refine RN.bq (no 3) [1, 2, 3, 9, 22] [] (k' := 3) (l' := [(1, sl t more.length), (2, .int .i64 c), (3, .int .i64 b), (9, sl yl.1 yl.2.length), (22, .bool ((((yl.2.length : Nat) : Int) : Int) == 0))]) k_ ?_
  refine RN.fin k_ ?_
  refine J.cond ((((yl.2.length : Nat) : Int) : Int) == 0) k_ (fun c4 => ?_) (fun c4 => ?_)
  · skip
    replace c4 := eq_of_beq c4
    refine J.sreg ?_
    refine RN.call (l19_awake) [] k_ k_ k_ rfl (fun y5 _ => ?_)
    refine RN.bq (no 1) [8] [] (k' := 2) (l' := [(8, .bool true)]) k_ ?_
    refine RN.fin k_ ?_
    refine J.ret (KR.next (KR.ret (v := .bool true) (()) [none] [] [] k_ rfl (trivial) rfl))
  · skip
    replace c4 := ne_of_beq_false c4
    have hch := check_made (c := c) (b := b) (n := yl.2.length) (bits := 10) (by omega) (by omega) (by decide) (by decide)
    refine J.skip ?_
    refine KN.next ?_
    refine J.sreg ?_
    refine RN.bq (no 2) [1, 9, 25, 26] [] (k' := 2) (l' := [(1, sl t more.length), (9, sl yl.1 yl.2.length), (25, .int .i64 c), (26, .int .i64 b)]) k_ ?_
    refine RN.call (l19_constants c b) [] k_ k_ k_ rfl (fun y6 _ => ?_)
    refine RN.bq (no 3) [1, 9, 28, 29] [] (k' := 6) (l' := [(1, sl t more.length), (9, sl yl.1 yl.2.length), (28, ratV y6.1 (encQ (cQ c))), (29, ratV y6.2 (encQ (levQ b)))]) k_ ?_
    refine RN.new (fun b => pt b) (.cells (ratC (⟨saNil, saNil⟩ : RA) (⟨false, ([] : List Nat), ([] : List Nat)⟩ : Raw)) 27 (0, 0)) k_ k_ (fun w => by kernel_rfl) (fun b7 => ?_)
    refine RN.new (fun b => pt b) (.cells (ratC (⟨saNil, saNil⟩ : RA) (⟨false, ([] : List Nat), ([] : List Nat)⟩ : Raw)) 27 (0, 0)) k_ k_ (fun w => by kernel_rfl) (fun b8 => ?_)
    refine RN.bat [some 1, some 0] [1, 9, 10, 11] [b8, b8, b8, b7, b7, b7] (k' := 10) (l' := [(1, sl t more.length), (9, sl yl.1 yl.2.length), (10, pt b7), (11, pt b8)]) (M' := [(b8, .cells (ratC y6.2 (encQ (levQ b))) 27 (0, 0)), (b7, .cells (ratC y6.1 (encQ (cQ c))) 27 (0, 0))]) k_ ?_
    refine RN.fin k_ ?_
    refine J.sreg ?_
    refine RN.bq (no 1) [1, 9, 10, 11, 12] [] (k' := 1) (l' := [(1, sl t more.length), (9, sl yl.1 yl.2.length), (10, pt b7), (11, pt b8), (12, .slice none 0 0)]) k_ ?_
    refine RN.fin k_ ?_
    refine J.seq ?_
    refine J.sreg ?_
    refine RN.bq (no 1) [1, 9, 10, 11, 12, 13] [] (k' := 1) (l' := [(1, sl t more.length), (9, sl yl.1 yl.2.length), (10, pt b7), (11, pt b8), (12, .slice none 0 0), (13, .int .i64 0)]) k_ ?_
    refine RN.fin k_ ?_
    refine J.block ?_
    refine J.also (allRat ([] : List PR)) (fun w h => allRat_nil w) ?_
    refine J.loop (ι := (Option GB) × (List PR) × (Nat)) (fun x => x.2.2 ≤ yl.2.length ∧ gOk 3 x.1 x.2.1.length ∧ x.2.1.length = x.2.2 ∧ ∀ j, j < x.2.1.length → (x.2.1.getD j pr0).2 = encQ (growQ (fun j => raw.getD j 0) (fun j => more.getD j 0) j)) (fun x => yl.2.length - x.2.2) (fun x => [(1, sl t more.length), (9, sl yl.1 yl.2.length), (10, pt b7), (11, pt b8), (12, sl (glS x.1) x.2.1.length), (13, .int .i64 ((x.2.2 : Nat) : Int))]) (fun x => [(b8, .cells (ratC y6.2 (encQ (levQ b))) 27 (0, 0)), (b7, .cells (ratC y6.1 (encQ (cQ c))) 27 (0, 0))] ++ (glM x.1 (encR x.2.1) 27 ++ ([]))) (fun x => [allRat x.2.1, fRat y6.1 (encQ (cQ c)), fRat y6.2 (encQ (levQ b)), fRats yl.1 yl.2, fI s raw, fI t more]) (none, ([] : List PR), 0) [1, 9, 10, 11, 12, 13] [0, 1, 2, 3, 4, 5] (⟨Nat.zero_le _, rfl, rfl, nil_get⟩) k_ (by first | rfl | (simp only [encQ_zero]; done) | (simp only [encQ_zero]; rfl)) (by rfl) (fun x9 hI => ?_)
    obtain ⟨go, out, i⟩ := x9
    replace hI : i ≤ yl.2.length ∧ gOk 3 go out.length ∧ out.length = i ∧ ∀ j, j < out.length → (out.getD j pr0).2 = encQ (growQ (fun j => raw.getD j 0) (fun j => more.getD j 0) j) := hI
    obtain ⟨hI1, hI2, hI3, hI4⟩ := hI
    refine J.seq ?_
    refine J.sreg ?_
    refine RN.bq (no 4) [1, 9, 10, 11, 12, 13, 33] [] (k' := 4) (l' := [(1, sl t more.length), (9, sl yl.1 yl.2.length), (10, pt b7), (11, pt b8), (12, sl (glS go) out.length), (13, .int .i64 ((i : Nat) : Int)), (33, .bool (decide (((i : Nat) : Int) < ((yl.2.length : Nat) : Int))))]) k_ ?_
    refine RN.fin k_ ?_
    refine J.cond (decide (((i : Nat) : Int) < ((yl.2.length : Nat) : Int))) k_ (fun c10 => ?_) (fun c10 => ?_)
    · skip
      replace c10 := of_decide_eq_true c10
      have hyq : qv ((yl.2.getD i pr0).2) = numQ (raw.getD i 0) := by rw [hlen.2 i (by omega), qv_encQ]
      have hyqQ : Q 268435456 (absQ (qv ((yl.2.getD i pr0).2))) := by rw [hyq]; exact Q.le (Q_abs Q_num4) (by decide)
      refine J.skip ?_
      refine KN.next ?_
      refine J.seq ?_
      refine J.block ?_
      refine J.regN ?_
      refine RN.bq (no 3) [1, 9, 10, 11, 13, 36, 37, 38] [] (k' := 3) (l' := [(1, sl t more.length), (9, sl yl.1 yl.2.length), (10, pt b7), (11, pt b8), (13, .int .i64 ((i : Nat) : Int)), (36, sl (glS go) out.length), (37, sl yl.1 yl.2.length), (38, .int .i64 ((i : Nat) : Int))]) k_ ?_
      refine RN.val _ k_ k_ (q_ridx (t := 22) (x := (.tmp 37)) (ix := (.tmp 38)) (K := .i64) (i0 := ((i : Nat) : Int)) (m := i) (e := 27) 3 rfl k_ k_ k_ k_ k_ (by omega) x_) ?_
      refine RN.val _ k_ k_ (q_rload (T := 27) (x := (.tmp 39)) (m := i) (s := yl.1) (ps := yl.2) 3 rfl k_ k_ k_ k_ x_) ?_
      refine RN.also (fRat ((yl.2.getD i pr0).1) ((yl.2.getD i pr0).2)) (fun w h => rat_of (h _ (.tail _ ((.tail _ ((.tail _ ((.head _)))))))) x_) ?_
      refine RN.call (r03_Abs ((yl.2.getD i pr0).1) ((yl.2.getD i pr0).2) y_l19_Grows) [0] k_ k_ k_ rfl (fun y11 _ => ?_)
      refine RN.bq (no 2) [1, 9, 10, 11, 13, 36, 41, 42, 43] [] (k' := 8) (l' := [(1, sl t more.length), (9, sl yl.1 yl.2.length), (10, pt b7), (11, pt b8), (13, .int .i64 ((i : Nat) : Int)), (36, sl (glS go) out.length), (41, ratV y11 (encQ (absQ (qv ((yl.2.getD i pr0).2))))), (42, sl t more.length), (43, .int .i64 ((i : Nat) : Int))]) k_ ?_
      refine RN.call (made_At t more i) [7] k_ k_ k_ rfl (fun y12 _ => ?_)
      refine RN.call (made_Number (more.getD i 0) y_l19_Grows y_l19_Grows) [] k_ k_ k_ rfl (fun y13 _ => ?_)
      refine RN.call (r03_Abs_c y13 (numQ (more.getD i 0)) y_l19_Grows) [0] k_ k_ k_ rfl (fun y14 _ => ?_)
      refine RN.call (r03_Add_c y11 (absQ (qv ((yl.2.getD i pr0).2))) y14 (absQ (numQ (more.getD i 0))) y_l19_Grows y_l19_Grows) [2, 0] k_ k_ k_ rfl (fun y15 _ => ?_)
      refine RN.new (fun b => .slice (some ⟨b, 0, none⟩) 1 1) (.cells (encR ([(y15, (encQ ((absQ (qv ((yl.2.getD i pr0).2))) + (absQ (numQ (more.getD i 0))))))] : List PR)) 27 (0, 0)) k_ k_ (fun w => by kernel_rfl) (fun b16 => ?_)
      refine RN.also (allRat ([(y15, (encQ ((absQ (qv ((yl.2.getD i pr0).2))) + (absQ (numQ (more.getD i 0))))))] : List PR)) (fun w h => allRat_cons (h _ (.head _)) (allRat_nil _)) ?_
      refine RN.ot k_ k_ (ot_rapp (z := .agg #[.bool false, .slice none 0 0, .slice none 0 0]) (T := 22) (e := 27) (by_ := 56) (mi := 0) (b := b16) (k := 1) (c := 1) (x := (.tmp 36)) (y := (.tmp 48)) (go := go) (xs := out) (ys := ([(y15, (encQ ((absQ (qv ((yl.2.getD i pr0).2))) + (absQ (numQ (more.getD i 0))))))] : List PR)) [(b16, .cells (encR ([(y15, (encQ ((absQ (qv ((yl.2.getD i pr0).2))) + (absQ (numQ (more.getD i 0))))))] : List PR)) 27 (0, 0)), (b8, .cells (ratC y6.2 (encQ (levQ b))) 27 (0, 0)), (b7, .cells (ratC y6.1 (encQ (cQ c))) 27 (0, 0))] ([]) rfl rfl k_ k_ k_ k_ k_ k_ rfl rfl (by first | decide | exact Nat.zero_lt_one | simp) (by assumption) x_ x_) (fun g17 hg18 => ?_)
      refine RN.also (allRat (out ++ ([(y15, (encQ ((absQ (qv ((yl.2.getD i pr0).2))) + (absQ (numQ (more.getD i 0))))))] : List PR))) (fun w h => allRat_app (h _ (.tail _ ((.tail _ ((.tail _ ((.tail _ ((.tail _ ((.tail _ ((.head _)))))))))))))) (h _ (.head _))) ?_
      refine RN.dropM 0 rfl ?_
      refine RN.bq (no 1) [1, 9, 10, 11, 12, 13] [] (k' := 15) (l' := [(1, sl t more.length), (9, sl yl.1 yl.2.length), (10, pt b7), (11, pt b8), (12, sl (glS (some g17)) (out ++ ([(y15, (encQ ((absQ (qv ((yl.2.getD i pr0).2))) + (absQ (numQ (more.getD i 0))))))] : List PR)).length), (13, .int .i64 ((i : Nat) : Int))]) k_ ?_
      refine RN.done k_ ?_
      refine KN.blk ?_
      refine KN.next ?_
      refine J.regN ?_
      refine RN.bq (no 2) [1, 9, 10, 11, 12, 35] [] (k' := 2) (l' := [(1, sl t more.length), (9, sl yl.1 yl.2.length), (10, pt b7), (11, pt b8), (12, sl (glS (some g17)) (out ++ ([(y15, (encQ ((absQ (qv ((yl.2.getD i pr0).2))) + (absQ (numQ (more.getD i 0))))))] : List PR)).length), (35, .int .i64 (IntKind.i64.wrap (((i : Nat) : Int) + 1)))]) k_ ?_
      rw [show IntKind.i64.wrap (((i : Nat) : Int) + 1) = ((i + 1 : Nat) : Int) from by rw [IntKind.wrap_i64]; omega]
      refine RN.bq (no 1) [1, 9, 10, 11, 12, 13] [] (k' := 3) (l' := [(1, sl t more.length), (9, sl yl.1 yl.2.length), (10, pt b7), (11, pt b8), (12, sl (glS (some g17)) (out ++ ([(y15, (encQ ((absQ (qv ((yl.2.getD i pr0).2))) + (absQ (numQ (more.getD i 0))))))] : List PR)).length), (13, .int .i64 ((i + 1 : Nat) : Int))]) k_ ?_
      refine RN.done k_ ?_
      refine KN.roundE (some g17, out ++ ([(y15, (encQ ((absQ (qv ((yl.2.getD i pr0).2))) + (absQ (numQ (more.getD i 0))))))] : List PR), i + 1) [1, 9, 10, 11, 12, 13] [0, 8, 9, 10, 11, 12] (l2 := [(1, sl t more.length), (9, sl yl.1 yl.2.length), (10, pt b7), (11, pt b8), (12, sl (glS (some g17)) (out ++ ([(y15, (encQ ((absQ (qv ((yl.2.getD i pr0).2))) + (absQ (numQ (more.getD i 0))))))] : List PR)).length), (13, .int .i64 ((i + 1 : Nat) : Int))]) (by (try dsimp only); omega) (by (try dsimp only); exact ⟨by omega, by assumption, by simp; omega, snoc_get hI4 (by rw [hI3]; unfold growQ; rw [hyq])⟩) k_ (by rfl) (by rfl) (by rfl)
    · skip
      replace c10 := of_decide_eq_false c10
      have hqs6 := RQ_grow hI4
      refine J.exit (KX.next (KX.next (KX.hit ?_)))
      refine KN.next ?_
      refine J.sreg ?_
      refine RN.bq [none, some 1, some 0] [10, 11, 12, 51, 52, 53] [b8, b8, b8, b7, b7, b7] (k' := 3) (l' := [(10, pt b7), (11, pt b8), (12, sl (glS go) out.length), (51, sl yl.1 yl.2.length), (52, ratV y6.1 (encQ (cQ c))), (53, ratV y6.2 (encQ (levQ b)))]) k_ ?_
      refine RN.call (m19_Scale_c yl.1 yl.2 y6.1 (cQ c) y6.2 (levQ b) 10 y_l19_Grows y_l19_Grows y_l19_Grows y_l19_Grows y_l19_Grows) [3, 1, 2] k_ k_ k_ rfl (fun ys h19 => ?_)
      have hsc := h19
      have hq := hsc.Q
      refine RN.bq (no 3) [10, 11, 12, 55, 56] [] (k' := 7) (l' := [(10, pt b7), (11, pt b8), (12, sl (glS go) out.length), (55, .agg (ivC ys.1 (encQ ys.2.2.1) ys.2.1 (encQ ys.2.2.2))), (56, .int .i64 (checkE yl.2.length (cQ c) (levQ b) 10))]) k_ ?_
      refine RN.new (fun b => pt b) (.cells (ivC (⟨saNil, saNil⟩ : RA) (⟨false, ([] : List Nat), ([] : List Nat)⟩ : Raw) (⟨saNil, saNil⟩ : RA) (⟨false, ([] : List Nat), ([] : List Nat)⟩ : Raw)) 38 (0, 0)) k_ k_ (fun w => by kernel_rfl) (fun b20 => ?_)
      refine RN.bat [some 0, none] [10, 11, 12, 14, 15] [b20, b20, b20, b20, b20, b20] (k' := 10) (l' := [(10, pt b7), (11, pt b8), (12, sl (glS go) out.length), (14, pt b20), (15, .int .i64 (checkE yl.2.length (cQ c) (levQ b) 10))]) (M' := [(b20, .cells (ivC ys.1 (encQ ys.2.2.1) ys.2.1 (encQ ys.2.2.2)) 38 (0, 0)), (b8, .cells (ratC y6.2 (encQ (levQ b))) 27 (0, 0)), (b7, .cells (ratC y6.1 (encQ (cQ c))) 27 (0, 0))] ++ (glM go (encR out) 27 ++ ([]))) k_ ?_
      refine RN.fin k_ ?_
      refine J.sreg ?_
      refine RN.bq [none, some 2, some 1] [10, 11, 12, 14, 15, 58, 59, 60] [b8, b8, b8, b7, b7, b7] (k' := 3) (l' := [(10, pt b7), (11, pt b8), (12, sl (glS go) out.length), (14, pt b20), (15, .int .i64 (checkE yl.2.length (cQ c) (levQ b) 10)), (58, sl (glS go) out.length), (59, ratV y6.1 (encQ (cQ c))), (60, ratV y6.2 (encQ (levQ b)))]) k_ ?_
      refine RN.shareG [(b20, .cells (ivC ys.1 (encQ ys.2.2.1) ys.2.1 (encQ ys.2.2.2)) 38 (0, 0)), (b8, .cells (ratC y6.2 (encQ (levQ b))) 27 (0, 0)), (b7, .cells (ratC y6.1 (encQ (cQ c))) 27 (0, 0))] ([]) rfl (fRats (glS go) out) (fun w hb h => fRats_gl hb (h _ (.tail _ ((.tail _ ((.head _)))))) (by assumption) x_) ?_
      refine RN.call (m19_Scale_c (glS go) out y6.1 (cQ c) y6.2 (levQ b) 10 y_l19_Grows y_l19_Grows y_l19_Grows y_l19_Grows y_l19_Grows) [0, 4, 5] k_ k_ k_ rfl (fun yt h21 => ?_)
      have hsc' := h21
      have hq' := hsc'.Q
      obtain ⟨hG1, hG2⟩ := grows hlen.2 hI4 (by omega) hsc hsc' hch
      refine RN.bq (no 3) [10, 11, 12, 14, 15, 62, 63] [] (k' := 7) (l' := [(10, pt b7), (11, pt b8), (12, sl (glS go) out.length), (14, pt b20), (15, .int .i64 (checkE yl.2.length (cQ c) (levQ b) 10)), (62, .agg (ivC yt.1 (encQ yt.2.2.1) yt.2.1 (encQ yt.2.2.2))), (63, .int .i64 (checkE out.length (cQ c) (levQ b) 10))]) k_ ?_
      refine RN.new (fun b => pt b) (.cells (ivC (⟨saNil, saNil⟩ : RA) (⟨false, ([] : List Nat), ([] : List Nat)⟩ : Raw) (⟨saNil, saNil⟩ : RA) (⟨false, ([] : List Nat), ([] : List Nat)⟩ : Raw)) 38 (0, 0)) k_ k_ (fun w => by kernel_rfl) (fun b22 => ?_)
      refine RN.bat [some 0, none] [10, 11, 12, 14, 15, 16, 17] [b22, b22, b22, b22, b22, b22] (k' := 10) (l' := [(10, pt b7), (11, pt b8), (12, sl (glS go) out.length), (14, pt b20), (15, .int .i64 (checkE yl.2.length (cQ c) (levQ b) 10)), (16, pt b22), (17, .int .i64 (checkE out.length (cQ c) (levQ b) 10))]) (M' := [(b22, .cells (ivC yt.1 (encQ yt.2.2.1) yt.2.1 (encQ yt.2.2.2)) 38 (0, 0)), (b20, .cells (ivC ys.1 (encQ ys.2.2.1) ys.2.1 (encQ ys.2.2.2)) 38 (0, 0)), (b8, .cells (ratC y6.2 (encQ (levQ b))) 27 (0, 0)), (b7, .cells (ratC y6.1 (encQ (cQ c))) 27 (0, 0))]) k_ ?_
      refine RN.fin k_ ?_
      refine J.sreg ?_
      refine RN.call (l19_awake) [] k_ k_ k_ rfl (fun y23 _ => ?_)
      refine RN.bq (no 5) [10, 11, 12, 14, 16, 17, 69] [] (k' := 6) (l' := [(10, pt b7), (11, pt b8), (12, sl (glS go) out.length), (14, pt b20), (16, pt b22), (17, .int .i64 (checkE out.length (cQ c) (levQ b) 10)), (69, .bool (((checkE yl.2.length (cQ c) (levQ b) 10) : Int) == 0))]) k_ ?_
      refine RN.split 69 (((checkE yl.2.length (cQ c) (levQ b) 10) : Int) == 0) k_ (fun c24 => ?_) (fun c24 => ?_)
      · skip
        replace c24 := eq_of_beq c24
        refine RN.bq (no 4) [10, 11, 12, 14, 16, 73] [] (k' := 10) (l' := [(10, pt b7), (11, pt b8), (12, sl (glS go) out.length), (14, pt b20), (16, pt b22), (73, .bool (((checkE out.length (cQ c) (levQ b) 10) : Int) == 0))]) k_ ?_
        refine RN.split 73 (((checkE out.length (cQ c) (levQ b) 10) : Int) == 0) k_ (fun c25 => ?_) (fun c25 => ?_)
        · skip
          replace c25 := eq_of_beq c25
          refine RN.bq [none, some 0, none, some 1] [10, 11, 12, 14, 73, 75, 77] [b20, b20, b20, b22, b22, b22] (k' := 14) (l' := [(10, pt b7), (11, pt b8), (12, sl (glS go) out.length), (14, pt b20), (73, .bool true), (75, ratV yt.2.1 (encQ yt.2.2.2)), (77, ratV ys.1 (encQ ys.2.2.1))]) k_ ?_
          refine RN.call (r03_Less_c yt.2.1 yt.2.2.2 ys.1 ys.2.2.1 y_l19_Grows y_l19_Grows y_l19_Grows) [1, 3] k_ k_ k_ rfl (fun y26 _ => ?_)
          refine RN.bq (no 3) [10, 11, 12, 14, 81] [] (k' := 18) (l' := [(10, pt b7), (11, pt b8), (12, sl (glS go) out.length), (14, pt b20), (81, .bool (!(decide (yt.2.2.2 < ys.2.2.1))))]) k_ ?_
          refine RN.split 81 (!(decide (yt.2.2.2 < ys.2.2.1))) k_ (fun c27 => ?_) (fun c27 => ?_)
          · skip
            replace c27 := of_decide_eq_false ((Bool.not_eq_true' _).mp c27)
            refine RN.bq [none, some 3, some 2, none, some 1] [81, 82, 83, 84, 86] [b20, b20, b20, b8, b8, b8, b7, b7, b7] (k' := 23) (l' := [(81, .bool true), (82, sl (glS go) out.length), (83, ratV y6.1 (encQ (cQ c))), (84, ratV y6.2 (encQ (levQ b))), (86, ratV ys.1 (encQ ys.2.2.1))]) k_ ?_
            refine RN.call (r19_AtLeast_c (glS go) out y6.1 (cQ c) y6.2 (levQ b) ys.1 ys.2.2.1 y_l19_Grows y_l19_Grows y_l19_Grows y_l19_Grows y_l19_Grows y_l19_Grows y_l19_Grows y_l19_Grows y_l19_Grows) [2, 6, 7, 3] k_ k_ k_ rfl (fun y28 _ => ?_)
            refine RN.bq (no 2) [8] [] (k' := 26) (l' := [(8, .bool (atLeastB (vals out) out.length (cQ c) (levQ b) ys.2.2.1))]) k_ ?_
            refine RN.fin k_ ?_
            have e_1 : true = (atLeastB (vals out) out.length (cQ c) (levQ b) ys.2.2.1) := by first | rfl | exact hG2.symm
            refine J.ret (KR.ret (v := .bool (atLeastB (vals out) out.length (cQ c) (levQ b) ys.2.2.1)) (()) [none] [] [] k_ v1_ (trivial) v1_)
          · skip
            replace c27 := of_decide_eq_true ((Bool.not_eq_false' _).mp c27)
            exact absurd c27 (by simp [hG1])
        · skip
          replace c25 := ne_of_beq_false c25
          exact absurd c25 (by exact fun h => h (by rw [show out.length = yl.2.length from by omega]; exact hch))
      · skip
        replace c24 := ne_of_beq_false c24
        exact absurd c24 (by exact fun h => h hch)
end Go.Proofs.YtegnonhgildhoaaGreat.E
