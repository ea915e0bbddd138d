import Derived.Test.YtegnonhgildhoaaGreatM19
import Derived.Test.YtegnonhgildhoaaGreatEC
import Derived.Test.YtegnonhgildhoaaGreatP1
namespace Go.Proofs.YtegnonhgildhoaaGreat.E
open Go Go.RowKit
set_option linter.unusedVariables false
set_option linter.unusedSimpArgs false
def checkE (n : Nat) (c b : Rat) (bits : Int) : Int := if sizeE n ≠ 0 then sizeE n else if 0 < c ∧ 0 < b ∧ b < 1 ∧ 0 ≤ bits ∧ bits ≤ 128 then 0 else 1
theorem checkE_size {n : Nat} {c b : Rat} {bits : Int} (h : sizeE n ≠ 0) : checkE n c b bits = sizeE n := if_pos h
theorem cmpQ_ge {x y : Rat} : cmpQ x y ≥ 0 ↔ ¬ x < y := by rw [← cmpQ_lt]; omega
theorem cmpQ_le {x y : Rat} : cmpQ x y ≤ 0 ↔ ¬ y < x := by rw [← cmpQ_gt]; omega
theorem y_m19_Check {p : Prop} (h : p := by first | assumption | exact Lb_toL _ | omega | (simp; done) | first | exact RQ_enc Q1 | exact Q.le Q1 (by decide)) : p := h
theorem m19_Check (s : SA) (ps : List PR) (p : RA) (c : Raw) (u : RA) (b : Raw) (bits : Int) (hc : RQ 268435456 c) (hb : RQ 268435456 b) : Spec Tryz.prog 54 #[sl s ps.length, ratV p c, ratV u b, .int .i64 bits] [fRats s ps, fRat p c, fRat u b] (ι := Unit) (fun y => .int .i64 (checkE ps.length (qv c) (qv b) bits)) (fun y => True) (fun y => []) := by
  refine Spec.of_body _ (fn := Tryz.f54) k_ rfl k_ (fun X w0 => ?_)
  refine J.fact (φ := ps.length ≤ 140737488355328) (fun w h => by have := (h _ (.head _)).1; omega) (fun hl1 => ?_)
  refine J.fact (φ := c.mag.length ≤ 140737488355328 ∧ c.den.length ≤ 140737488355328) (fun w h => by have h1 := (h _ (.tail _ ((.head _)))).1.1; have h2 := (h _ (.tail _ ((.head _)))).2.1; omega) (fun hl2 => ?_)
  refine J.fact (φ := b.mag.length ≤ 140737488355328 ∧ b.den.length ≤ 140737488355328) (fun w h => by have h1 := (h _ (.tail _ ((.tail _ ((.head _)))))).1.1; have h2 := (h _ (.tail _ ((.tail _ ((.head _)))))).2.1; omega) (fun hl3 => ?_)
  refine J.sreg ?_
  refine RN.new (fun b => pt b) (.cells (ratC p c) 27 (0, 0)) k_ k_ (fun w => by kernel_rfl) (fun b4 => ?_)
  refine RN.new (fun b => pt b) (.cells (ratC u b) 27 (0, 0)) k_ k_ (fun w => by kernel_rfl) (fun b5 => ?_)
  refine RN.bq (no 1) [0, 3, 5, 6] [] (k' := 3) (l' := [(0, sl s ps.length), (3, .int .i64 bits), (5, pt b4), (6, pt b5)]) k_ ?_
  refine RN.fin k_ ?_
  refine J.seq ?_
  refine J.sreg ?_
  refine RN.bq (no 1) [3, 5, 6, 10] [] (k' := 1) (l' := [(3, .int .i64 bits), (5, pt b4), (6, pt b5), (10, sl s ps.length)]) k_ ?_
  refine RN.call (m19_size s ps) [0] k_ k_ k_ rfl (fun y6 _ => ?_)
  refine RN.bq (no 1) [3, 5, 6, 9] [] (k' := 3) (l' := [(3, .int .i64 bits), (5, pt b4), (6, pt b5), (9, .int .i64 (sizeE ps.length))]) k_ ?_
  refine RN.fin k_ ?_
  refine J.sreg ?_
  refine RN.bq (no 2) [3, 5, 6, 9, 13] [] (k' := 2) (l' := [(3, .int .i64 bits), (5, pt b4), (6, pt b5), (9, .int .i64 (sizeE ps.length)), (13, .bool (((sizeE ps.length) : Int) != 0))]) k_ ?_
  refine RN.fin k_ ?_
  refine J.cond (((sizeE ps.length) : Int) != 0) k_ (fun c7 => ?_) (fun c7 => ?_)
  · skip
    replace c7 := bne_iff_ne.1 c7
    have h0 : sizeE ps.length ≠ 0 := by simpa using c7
    refine J.sreg ?_
    refine RN.bq (no 2) [8] [] (k' := 2) (l' := [(8, .int .i64 (sizeE ps.length))]) k_ ?_
    refine RN.fin k_ ?_
    have e_1 : (checkE ps.length (qv c) (qv b) bits : Int) = (sizeE ps.length : Int) := by first | exact checkE_size h0 | (unfold checkE; rw [if_neg (by omega)]; simp_all [cmpQ_ge, Rat.not_lt, Rat.not_le]; done) | (unfold checkE; rw [if_neg (by omega)]; simp_all [cmpQ_ge, Rat.not_lt, Rat.not_le]; grind)
    refine J.ret (KR.next (KR.ret (v := .int .i64 (sizeE ps.length)) (()) [none] [] [] k_ v1_ (trivial) v1_))
  · skip
    replace c7 := bne_eq_false_iff_eq.1 c7
    have h0 : sizeE ps.length = 0 := by simpa using c7
    refine J.skip ?_
    refine KN.next ?_
    refine J.seq ?_
    refine J.seq ?_
    refine J.regD k_ [] ?_
    refine RD.bat k_ [(0, some 1)] [3, 6, 15] [b4, b4, b4] (L' := [0]) (l' := [(3, .int .i64 bits), (6, pt b5), (15, ratV p c)]) k_ ?_
    refine RD.call (i := 1) (m19_positive p c y_m19_Check) [1] k_ k_ k_ k_ k_ rfl (fun y8 _ => ?_)
    refine RD.bat k_ [(2, none), (3, none)] [3, 6, 18] [] (L' := [3, 2, 1, 0]) (l' := [(3, .int .i64 bits), (6, pt b5), (18, .bool (!(decide (0 < (qv c)))))]) k_ ?_
    refine RD.split (t := 18) (!(decide (0 < (qv c)))) k_ (fun c9 => ?_) (fun c9 => ?_)
    · skip
      replace c9 := of_decide_eq_false ((Bool.not_eq_true' _).mp c9)
      refine RD.bat k_ [(4, none), (5, none), (6, none), (7, none), (8, none), (9, none), (10, none), (11, none), (12, none), (13, none), (14, none), (15, none), (16, none), (17, none), (18, none), (19, none), (20, none), (21, none)] [36] [] (L' := [21, 20, 19, 18, 17, 16, 15, 14, 13, 12, 11, 10, 9, 8, 7, 6, 5, 4, 3, 2, 1, 0]) (l' := [(36, .bool true)]) k_ ?_
      refine RD.done k_ ?_
      refine KN.next ?_
      refine J.condT k_ ?_
      refine J.sreg ?_
      refine RN.bq (no 1) [8] [] (k' := 1) (l' := [(8, .int .i64 1)]) k_ ?_
      refine RN.fin k_ ?_
      have e_1 : (checkE ps.length (qv c) (qv b) bits : Int) = (1 : Int) := by first | exact checkE_size h0 | (unfold checkE; rw [if_neg (by omega)]; simp_all [cmpQ_ge, Rat.not_lt, Rat.not_le]; done) | (unfold checkE; rw [if_neg (by omega)]; simp_all [cmpQ_ge, Rat.not_lt, Rat.not_le]; grind)
      refine J.ret (KR.next (KR.ret (v := .int .i64 1) (()) [none] [] [] k_ v1_ (trivial) v1_))
    · skip
      replace c9 := of_decide_eq_true ((Bool.not_eq_false' _).mp c9)
      refine RD.bat k_ [(4, some 0)] [3, 6, 18, 19] [b5, b5, b5] (L' := [4, 3, 2, 1, 0]) (l' := [(3, .int .i64 bits), (6, pt b5), (18, .bool false), (19, ratV u b)]) k_ ?_
      refine RD.call (i := 5) (m19_positive u b y_m19_Check) [2] k_ k_ k_ k_ k_ rfl (fun y10 _ => ?_)
      refine RD.bat k_ [(6, none), (7, none), (8, none)] [3, 6, 23] [] (L' := [8, 7, 6, 5, 4, 3, 2, 1, 0]) (l' := [(3, .int .i64 bits), (6, pt b5), (23, .bool (!(decide (0 < (qv b)))))]) k_ ?_
      refine RD.split (t := 23) (!(decide (0 < (qv b)))) k_ (fun c11 => ?_) (fun c11 => ?_)
      · skip
        replace c11 := of_decide_eq_false ((Bool.not_eq_true' _).mp c11)
        refine RD.bat k_ [(9, none), (10, none), (11, none), (12, none), (13, none), (14, none), (15, none), (16, none), (17, none), (18, none), (19, none), (20, none), (21, none)] [36] [] (L' := [21, 20, 19, 18, 17, 16, 15, 14, 13, 12, 11, 10, 9, 8, 7, 6, 5, 4, 3, 2, 1, 0]) (l' := [(36, .bool true)]) k_ ?_
        refine RD.done k_ ?_
        refine KN.next ?_
        refine J.condT k_ ?_
        refine J.sreg ?_
        refine RN.bq (no 1) [8] [] (k' := 1) (l' := [(8, .int .i64 1)]) k_ ?_
        refine RN.fin k_ ?_
        have e_1 : (checkE ps.length (qv c) (qv b) bits : Int) = (1 : Int) := by first | exact checkE_size h0 | (unfold checkE; rw [if_neg (by omega)]; simp_all [cmpQ_ge, Rat.not_lt, Rat.not_le]; done) | (unfold checkE; rw [if_neg (by omega)]; simp_all [cmpQ_ge, Rat.not_lt, Rat.not_le]; grind)
        refine J.ret (KR.next (KR.ret (v := .int .i64 1) (()) [none] [] [] k_ v1_ (trivial) v1_))
      · skip
        replace c11 := of_decide_eq_true ((Bool.not_eq_false' _).mp c11)
        refine RD.bat k_ [(9, some 0)] [3, 23, 24] [b5, b5, b5] (L' := [9, 8, 7, 6, 5, 4, 3, 2, 1, 0]) (l' := [(3, .int .i64 bits), (23, .bool false), (24, ratV u b)]) k_ ?_
        refine RD.call (i := 10) (m19_one) [] k_ k_ k_ k_ k_ rfl (fun y12 _ => ?_)
        refine RD.call (i := 11) (rational_Compare_c2 u b y12 (1 : Rat) y_m19_Check y_m19_Check) [3, 0] k_ k_ k_ k_ k_ rfl (fun y13 _ => ?_)
        refine RD.bat k_ [(12, none), (13, none), (14, none)] [3, 29] [] (L' := [14, 13, 12, 11, 10, 9, 8, 7, 6, 5, 4, 3, 2, 1, 0]) (l' := [(3, .int .i64 bits), (29, .bool (decide ((cmpQ (qv b) (1 : Rat)) ≥ 0)))]) k_ ?_
        refine RD.split (t := 29) (decide ((cmpQ (qv b) (1 : Rat)) ≥ 0)) k_ (fun c14 => ?_) (fun c14 => ?_)
        · skip
          replace c14 := of_decide_eq_true c14
          refine RD.bat k_ [(15, none), (16, none), (17, none), (18, none), (19, none), (20, none), (21, none)] [36] [] (L' := [21, 20, 19, 18, 17, 16, 15, 14, 13, 12, 11, 10, 9, 8, 7, 6, 5, 4, 3, 2, 1, 0]) (l' := [(36, .bool true)]) k_ ?_
          refine RD.done k_ ?_
          refine KN.next ?_
          refine J.condT k_ ?_
          refine J.sreg ?_
          refine RN.bq (no 1) [8] [] (k' := 1) (l' := [(8, .int .i64 1)]) k_ ?_
          refine RN.fin k_ ?_
          have e_1 : (checkE ps.length (qv c) (qv b) bits : Int) = (1 : Int) := by first | exact checkE_size h0 | (unfold checkE; rw [if_neg (by omega)]; simp_all [cmpQ_ge, Rat.not_lt, Rat.not_le]; done) | (unfold checkE; rw [if_neg (by omega)]; simp_all [cmpQ_ge, Rat.not_lt, Rat.not_le]; grind)
          refine J.ret (KR.next (KR.ret (v := .int .i64 1) (()) [none] [] [] k_ v1_ (trivial) v1_))
        · skip
          replace c14 := of_decide_eq_false c14
          refine RD.bat k_ [(15, none), (16, none), (17, none), (18, none)] [3, 33] [] (L' := [18, 17, 16, 15, 14, 13, 12, 11, 10, 9, 8, 7, 6, 5, 4, 3, 2, 1, 0]) (l' := [(3, .int .i64 bits), (33, .bool (decide (bits < 0)))]) k_ ?_
          refine RD.split (t := 33) (decide (bits < 0)) k_ (fun c15 => ?_) (fun c15 => ?_)
          · skip
            replace c15 := of_decide_eq_true c15
            refine RD.bat k_ [(19, none), (20, none), (21, none)] [36] [] (L' := [21, 20, 19, 18, 17, 16, 15, 14, 13, 12, 11, 10, 9, 8, 7, 6, 5, 4, 3, 2, 1, 0]) (l' := [(36, .bool true)]) k_ ?_
            refine RD.done k_ ?_
            refine KN.next ?_
            refine J.condT k_ ?_
            refine J.sreg ?_
            refine RN.bq (no 1) [8] [] (k' := 1) (l' := [(8, .int .i64 1)]) k_ ?_
            refine RN.fin k_ ?_
            have e_1 : (checkE ps.length (qv c) (qv b) bits : Int) = (1 : Int) := by first | exact checkE_size h0 | (unfold checkE; rw [if_neg (by omega)]; simp_all [cmpQ_ge, Rat.not_lt, Rat.not_le]; done) | (unfold checkE; rw [if_neg (by omega)]; simp_all [cmpQ_ge, Rat.not_lt, Rat.not_le]; grind)
            refine J.ret (KR.next (KR.ret (v := .int .i64 1) (()) [none] [] [] k_ v1_ (trivial) v1_))
          · skip
            replace c15 := of_decide_eq_false c15
            refine RD.bat k_ [(19, none), (20, none), (21, none)] [36] [] (L' := [21, 20, 19, 18, 17, 16, 15, 14, 13, 12, 11, 10, 9, 8, 7, 6, 5, 4, 3, 2, 1, 0]) (l' := [(36, .bool (decide (bits > 128)))]) k_ ?_
            refine RD.done k_ ?_
            refine KN.next ?_
            refine J.cond (decide (bits > 128)) k_ (fun c16 => ?_) (fun c16 => ?_)
            · skip
              replace c16 := of_decide_eq_true c16
              refine J.sreg ?_
              refine RN.bq (no 1) [8] [] (k' := 1) (l' := [(8, .int .i64 1)]) k_ ?_
              refine RN.fin k_ ?_
              have e_1 : (checkE ps.length (qv c) (qv b) bits : Int) = (1 : Int) := by first | exact checkE_size h0 | (unfold checkE; rw [if_neg (by omega)]; simp_all [cmpQ_ge, Rat.not_lt, Rat.not_le]; done) | (unfold checkE; rw [if_neg (by omega)]; simp_all [cmpQ_ge, Rat.not_lt, Rat.not_le]; grind)
              refine J.ret (KR.next (KR.ret (v := .int .i64 1) (()) [none] [] [] k_ v1_ (trivial) v1_))
            · skip
              replace c16 := of_decide_eq_false c16
              refine J.skip ?_
              refine KN.next ?_
              refine J.sreg ?_
              refine RN.bq (no 1) [8] [] (k' := 1) (l' := [(8, .int .i64 0)]) k_ ?_
              refine RN.fin k_ ?_
              have e_1 : (checkE ps.length (qv c) (qv b) bits : Int) = (0 : Int) := by first | exact checkE_size h0 | (unfold checkE; rw [if_neg (by omega)]; simp_all [cmpQ_ge, Rat.not_lt, Rat.not_le]; done) | (unfold checkE; rw [if_neg (by omega)]; simp_all [cmpQ_ge, Rat.not_lt, Rat.not_le]; grind)
              refine J.ret (KR.ret (v := .int .i64 0) (()) [none] [] [] k_ v1_ (trivial) v1_)
theorem cnt_b (p : Nat → Bool) (n : Nat) (h : n ≤ 1024) : -9223372036854775808 ≤ ((cntN p n : Nat) : Int) ∧ ((cntN p n : Nat) : Int) < 9223372036854775808 := by have := cntN_le p n; omega
def nzP (ps : List PR) (i : Nat) : Bool := decide (vals ps i ≠ 0)
theorem share_eq (ps : List PR) (n : Nat) : shareN (vals ps) n = ((cntN (nzP ps) n : Int) : Rat) / ((n : Int) : Rat) := rfl
theorem cnt_y {ps : List PR} {i : Nat} (h : Int.sign (qv (ps.getD i pr0).2).num ≠ 0) : cntN (nzP ps) i + 1 = cntN (nzP ps) (i + 1) := by
  rw [cntN, if_pos]
  rw [nzP, decide_eq_true_eq]
  intro h0
  exact h (by unfold vals at h0; rw [h0]; rfl)
theorem cnt_n {ps : List PR} {i : Nat} (h : Int.sign (qv (ps.getD i pr0).2).num = 0) : cntN (nzP ps) i = cntN (nzP ps) (i + 1) := by
  have hn : ¬ nzP ps i = true := by
    rw [nzP, decide_eq_true_eq]
    intro h0
    exact h0 (Rat.num_eq_zero.1 (Int.sign_eq_zero_iff_zero.1 h))
  rw [cntN, if_neg hn]; rfl
theorem y_m19_share {p : Prop} (h : p := by first | assumption | exact Lb_toL _ | omega | (simp; done) | first | exact Q.le hQ1 (by decide) | exact Q.le hQ2 (by decide) | (simp; omega)) : p := h
theorem m19_share (s : SA) (ps : List PR) (hps : ∀ i, i < ps.length → RQ 64 (ps.getD i pr0).2) (hn : ps.length ≤ 1024) : Spec Tryz.prog 55 #[sl s ps.length] [fRats s ps] (ι := RA) (fun y => ratV y (encQ (shareN (vals ps) ps.length))) (fun y => True) (fun y => [fRat y (encQ (shareN (vals ps) ps.length))]) := by
  refine Spec.of_body _ (fn := Tryz.f55) k_ rfl k_ (fun X w0 => ?_)
  refine J.fact (φ := ps.length ≤ 140737488355328) (fun w h => by have := (h _ (.head _)).1; omega) (fun hl1 => ?_)
  refine J.sreg ?_
  refine RN.new (fun b => pt b) (.cells (ratC (⟨saNil, saNil⟩ : RA) (⟨false, ([] : List Nat), ([] : List Nat)⟩ : Raw)) 27 (0, 0)) k_ k_ (fun w => by kernel_rfl) (fun b2 => ?_)
  refine RN.fin k_ ?_
  refine J.sreg ?_
  refine RN.bq (no 1) [0, 2, 3] [] (k' := 1) (l' := [(0, sl s ps.length), (2, pt b2), (3, .int .i64 0)]) k_ ?_
  refine RN.fin k_ ?_
  refine J.seq ?_
  refine J.sreg ?_
  refine RN.bq (no 3) [0, 2, 3, 6, 7, 8] [] (k' := 3) (l' := [(0, sl s ps.length), (2, pt b2), (3, .int .i64 0), (6, sl s ps.length), (7, .int .i64 ((ps.length : Nat) : Int)), (8, .int .i64 0)]) k_ ?_
  refine RN.fin k_ ?_
  refine J.block ?_
  refine J.loop (ι := (Nat) × (Nat)) (fun x => x.1 ≤ ps.length ∧ x.2 = cntN (nzP ps) x.1) (fun x => ps.length - x.1) (fun x => [(0, sl s ps.length), (2, pt b2), (3, .int .i64 ((x.2 : Nat) : Int)), (6, sl s ps.length), (7, .int .i64 ((ps.length : Nat) : Int)), (8, .int .i64 ((x.1 : Nat) : Int))]) (fun x => [(b2, .cells (ratC (⟨saNil, saNil⟩ : RA) (⟨false, ([] : List Nat), ([] : List Nat)⟩ : Raw)) 27 (0, 0))]) (fun x => [fRats s ps]) (0, 0) [0, 2, 3, 6, 7, 8] [0] (⟨Nat.zero_le _, rfl⟩) k_ (by first | rfl | (simp only [encQ_zero]; done) | (simp only [encQ_zero]; rfl)) (by rfl) (fun x3 hI => ?_)
  obtain ⟨i, k⟩ := x3
  replace hI : i ≤ ps.length ∧ k = cntN (nzP ps) i := hI
  obtain ⟨hI1, hI2⟩ := hI
  have hkb := cnt_b (nzP ps) i (by omega)
  have hkle := cntN_le (nzP ps) i
  refine J.sreg ?_
  refine RN.bq (no 1) [0, 2, 3, 6, 7, 8, 9] [] (k' := 1) (l' := [(0, sl s ps.length), (2, pt b2), (3, .int .i64 ((k : Nat) : Int)), (6, sl s ps.length), (7, .int .i64 ((ps.length : Nat) : Int)), (8, .int .i64 ((i : Nat) : Int)), (9, .bool (decide (((i : Nat) : Int) < ((ps.length : Nat) : Int))))]) k_ ?_
  refine RN.fin k_ ?_
  refine J.seq ?_
  refine J.cond (decide (((i : Nat) : Int) < ((ps.length : Nat) : Int))) k_ (fun c4 => ?_) (fun c4 => ?_)
  · skip
    replace c4 := of_decide_eq_true c4
    have hxr := hps i (by omega)
    have hxb := hxr.le (by decide : 64 ≤ 268435456)
    refine J.skip ?_
    refine KN.next ?_
    refine J.seq ?_
    refine J.block ?_
    refine J.sreg ?_
    refine RN.val _ k_ k_ (q_ridx (t := 22) (x := (.tmp 6)) (ix := (.tmp 8)) (K := .i64) (i0 := ((i : Nat) : Int)) (m := i) (e := 27) 0 rfl k_ k_ k_ k_ k_ (by omega) x_) ?_
    refine RN.val _ k_ k_ (q_rload (T := 27) (x := (.tmp 10)) (m := i) (s := s) (ps := ps) 0 rfl k_ k_ k_ k_ x_) ?_
    refine RN.also (fRat ((ps.getD i pr0).1) ((ps.getD i pr0).2)) (fun w h => rat_of (h _ (.head _)) x_) ?_
    refine RN.new (fun b => pt b) (.cells (ratC (⟨saNil, saNil⟩ : RA) (⟨false, ([] : List Nat), ([] : List Nat)⟩ : Raw)) 27 (0, 0)) k_ k_ (fun w => by kernel_rfl) (fun b5 => ?_)
    refine RN.bat [some 0] [0, 2, 3, 5, 6, 7, 8] [b5, b5, b5] (k' := 4) (l' := [(0, sl s ps.length), (2, pt b2), (3, .int .i64 ((k : Nat) : Int)), (5, pt b5), (6, sl s ps.length), (7, .int .i64 ((ps.length : Nat) : Int)), (8, .int .i64 ((i : Nat) : Int))]) (M' := [(b5, .cells (ratC ((ps.getD i pr0).1) ((ps.getD i pr0).2)) 27 (0, 0)), (b2, .cells (ratC (⟨saNil, saNil⟩ : RA) (⟨false, ([] : List Nat), ([] : List Nat)⟩ : Raw)) 27 (0, 0))]) k_ ?_
    refine RN.fin k_ ?_
    refine J.sreg ?_
    refine RN.bq [some 0] [0, 2, 3, 6, 7, 8, 12] [b5, b5, b5] (k' := 1) (l' := [(0, sl s ps.length), (2, pt b2), (3, .int .i64 ((k : Nat) : Int)), (6, sl s ps.length), (7, .int .i64 ((ps.length : Nat) : Int)), (8, .int .i64 ((i : Nat) : Int)), (12, ratV ((ps.getD i pr0).1) ((ps.getD i pr0).2))]) k_ ?_
    refine RN.call (rational_Sign ((ps.getD i pr0).1) ((ps.getD i pr0).2) y_m19_share) [0] k_ k_ k_ rfl (fun y6 _ => ?_)
    refine RN.bq (no 1) [0, 2, 3, 6, 7, 8, 14] [] (k' := 3) (l' := [(0, sl s ps.length), (2, pt b2), (3, .int .i64 ((k : Nat) : Int)), (6, sl s ps.length), (7, .int .i64 ((ps.length : Nat) : Int)), (8, .int .i64 ((i : Nat) : Int)), (14, .bool (((Int.sign ((qv ((ps.getD i pr0).2)).num)) : Int) != 0))]) k_ ?_
    refine RN.fin k_ ?_
    refine J.cond (((Int.sign ((qv ((ps.getD i pr0).2)).num)) : Int) != 0) k_ (fun c7 => ?_) (fun c7 => ?_)
    · skip
      replace c7 := bne_iff_ne.1 c7
      refine J.regN ?_
      refine RN.bq (no 2) [0, 2, 6, 7, 8, 16] [] (k' := 2) (l' := [(0, sl s ps.length), (2, pt b2), (6, sl s ps.length), (7, .int .i64 ((ps.length : Nat) : Int)), (8, .int .i64 ((i : Nat) : Int)), (16, .int .i64 (IntKind.i64.wrap (((k : Nat) : Int) + 1)))]) k_ ?_
      rw [show IntKind.i64.wrap (((k : Nat) : Int) + 1) = ((k + 1 : Nat) : Int) from by rw [IntKind.wrap_i64]; omega]
      refine RN.bq (no 1) [0, 2, 3, 6, 7, 8] [] (k' := 3) (l' := [(0, sl s ps.length), (2, pt b2), (3, .int .i64 ((k + 1 : Nat) : Int)), (6, sl s ps.length), (7, .int .i64 ((ps.length : Nat) : Int)), (8, .int .i64 ((i : Nat) : Int))]) k_ ?_
      refine RN.done k_ ?_
      refine KN.blk ?_
      refine KN.next ?_
      refine J.regN ?_
      refine RN.bq (no 1) [0, 2, 3, 6, 7, 17] [] (k' := 1) (l' := [(0, sl s ps.length), (2, pt b2), (3, .int .i64 ((k + 1 : Nat) : Int)), (6, sl s ps.length), (7, .int .i64 ((ps.length : Nat) : Int)), (17, .int .i64 (IntKind.i64.wrap (((i : Nat) : Int) + 1)))]) k_ ?_
      rw [show IntKind.i64.wrap (((i : Nat) : Int) + 1) = ((i + 1 : Nat) : Int) from by rw [IntKind.wrap_i64]; omega]
      refine RN.bq (no 1) [0, 2, 3, 6, 7, 8] [] (k' := 2) (l' := [(0, sl s ps.length), (2, pt b2), (3, .int .i64 ((k + 1 : Nat) : Int)), (6, sl s ps.length), (7, .int .i64 ((ps.length : Nat) : Int)), (8, .int .i64 ((i + 1 : Nat) : Int))]) k_ ?_
      refine RN.done k_ ?_
      refine KN.dropF 1 ?_
      refine KN.roundE (i + 1, k + 1) [0, 2, 3, 6, 7, 8] [1] (l2 := [(0, sl s ps.length), (2, pt b2), (3, .int .i64 ((k + 1 : Nat) : Int)), (6, sl s ps.length), (7, .int .i64 ((ps.length : Nat) : Int)), (8, .int .i64 ((i + 1 : Nat) : Int))]) (by (try dsimp only); omega) (by (try dsimp only); exact ⟨by omega, by rw [hI2]; exact cnt_y ‹_›⟩) k_ (by rfl) (by rfl) (by rfl)
    · skip
      replace c7 := bne_eq_false_iff_eq.1 c7
      refine J.skip ?_
      refine KN.blk ?_
      refine KN.next ?_
      refine J.regN ?_
      refine RN.bq (no 1) [0, 2, 3, 6, 7, 17] [] (k' := 1) (l' := [(0, sl s ps.length), (2, pt b2), (3, .int .i64 ((k : Nat) : Int)), (6, sl s ps.length), (7, .int .i64 ((ps.length : Nat) : Int)), (17, .int .i64 (IntKind.i64.wrap (((i : Nat) : Int) + 1)))]) k_ ?_
      rw [show IntKind.i64.wrap (((i : Nat) : Int) + 1) = ((i + 1 : Nat) : Int) from by rw [IntKind.wrap_i64]; omega]
      refine RN.bq (no 1) [0, 2, 3, 6, 7, 8] [] (k' := 2) (l' := [(0, sl s ps.length), (2, pt b2), (3, .int .i64 ((k : Nat) : Int)), (6, sl s ps.length), (7, .int .i64 ((ps.length : Nat) : Int)), (8, .int .i64 ((i + 1 : Nat) : Int))]) k_ ?_
      refine RN.done k_ ?_
      refine KN.dropF 1 ?_
      refine KN.roundE (i + 1, k) [0, 2, 3, 6, 7, 8] [1] (l2 := [(0, sl s ps.length), (2, pt b2), (3, .int .i64 ((k : Nat) : Int)), (6, sl s ps.length), (7, .int .i64 ((ps.length : Nat) : Int)), (8, .int .i64 ((i + 1 : Nat) : Int))]) (by (try dsimp only); omega) (by (try dsimp only); exact ⟨by omega, by rw [hI2]; exact cnt_n ‹_›⟩) k_ (by rfl) (by rfl) (by rfl)
  · skip
    replace c4 := of_decide_eq_false c4
    have hi : i = ps.length := by omega
    subst hi
    have hQ1 := Q_int (v := ((k : Nat) : Int)) (by omega)
    have hQ2 := Q_int (v := ((ps.length : Nat) : Int)) (by omega)
    refine J.exit (KX.next (KX.next (KX.hit ?_)))
    refine KN.next ?_
    refine J.sreg ?_
    refine RN.bq (no 1) [0, 2, 18] [] (k' := 1) (l' := [(0, sl s ps.length), (2, pt b2), (18, .int .i64 ((k : Nat) : Int))]) k_ ?_
    refine RN.call (rational_FromInt ((k : Nat) : Int) y_m19_share y_m19_share) [] k_ k_ k_ rfl (fun y8 _ => ?_)
    refine RN.bq (no 2) [2, 19, 21] [] (k' := 4) (l' := [(2, pt b2), (19, ratV y8 (encQ ((((k : Nat) : Int) : Int) : Rat))), (21, .int .i64 ((ps.length : Nat) : Int))]) k_ ?_
    refine RN.call (rational_FromInt ((ps.length : Nat) : Int) y_m19_share y_m19_share) [] k_ k_ k_ rfl (fun y9 _ => ?_)
    refine RN.call (m19_quotient_c y8 ((((k : Nat) : Int) : Int) : Rat) y9 ((((ps.length : Nat) : Int) : Int) : Rat) y_m19_share y_m19_share) [1, 0] k_ k_ k_ rfl (fun y10 _ => ?_)
    refine RN.bat [some 0] [2] [b2, b2, b2] (k' := 7) (l' := [(2, pt b2)]) (M' := [(b2, .cells (ratC y10 (encQ (((((k : Nat) : Int) : Int) : Rat) / ((((ps.length : Nat) : Int) : Int) : Rat)))) 27 (0, 0))]) k_ ?_
    refine RN.fin k_ ?_
    have e_1 : (encQ (shareN (vals ps) ps.length)) = (encQ (((((k : Nat) : Int) : Int) : Rat) / ((((ps.length : Nat) : Int) : Int) : Rat))) := by rw [share_eq, ← hI2]
    refine J.ret (KR.ret (v := ratV y10 (encQ (((((k : Nat) : Int) : Int) : Rat) / ((((ps.length : Nat) : Int) : Int) : Rat)))) (y10) [some 0] [0] [b2, b2, b2] k_ v1_ (trivial) v1_)
def lenL (xs : List Nat) : Nat := if xs.length = 0 then 0 else 32 * xs.length - (32 - bl (xs.getD (xs.length - 1) 0))
theorem lenL_le (xs : List Nat) : lenL xs ≤ 32 * xs.length := by unfold lenL; split <;> omega
theorem y_m19_length {p : Prop} (h : p := by first | assumption | exact Lb_toL _ | omega | (simp; done) | exact hx.getD _) : p := h
theorem m19_length (s : SA) (xs : List Nat) (hx : Lb xs) (hl : xs.length ≤ 1073741824) : Spec Tryz.prog 90 #[sl s xs.length] [fU s xs] (ι := Unit) (fun y => .int .i64 ((lenL xs : Nat) : Int)) (fun y => True) (fun y => []) := by
  refine Spec.of_body _ (fn := Tryz.f90) k_ rfl k_ (fun X w0 => ?_)
  refine J.fact (φ := xs.length ≤ 140737488355328) (fun w h => by have := (h _ (.head _)).1; omega) (fun hl1 => ?_)
  refine J.sreg ?_
  refine RN.bq (no 1) [0] [] (k' := 1) (l' := [(0, sl s xs.length)]) k_ ?_
  refine RN.fin k_ ?_
  refine J.seq ?_
  refine J.sreg ?_
  refine RN.bq (no 3) [0, 5] [] (k' := 3) (l' := [(0, sl s xs.length), (5, .bool ((((xs.length : Nat) : Int) : Int) == 0))]) k_ ?_
  refine RN.fin k_ ?_
  refine J.cond ((((xs.length : Nat) : Int) : Int) == 0) k_ (fun c2 => ?_) (fun c2 => ?_)
  · skip
    replace c2 := eq_of_beq c2
    refine J.sreg ?_
    refine RN.bq (no 1) [2] [] (k' := 1) (l' := [(2, .int .i64 0)]) k_ ?_
    refine RN.fin k_ ?_
    have e_1 : (((lenL xs : Nat) : Int) : Int) = (0 : Int) := by unfold lenL; first | (rw [if_pos (show xs.length = 0 by omega)]; done) | (rw [if_pos (show xs.length = 0 by omega)]; rfl) | (rw [if_neg (show ¬ xs.length = 0 by omega)]; done) | (rw [if_neg (show ¬ xs.length = 0 by omega)]; rfl)
    refine J.ret (KR.next (KR.ret (v := .int .i64 0) (()) [none] [] [] k_ v1_ (trivial) v1_))
  · skip
    replace c2 := ne_of_beq_false c2
    have hbl := bl_le32 (hx.getD (xs.length - 1))
    refine J.skip ?_
    refine KN.next ?_
    refine J.sreg ?_
    refine RN.bq (no 3) [0, 8] [] (k' := 3) (l' := [(0, sl s xs.length), (8, .int .i64 (IntKind.i64.wrap (32 * ((xs.length : Nat) : Int))))]) k_ ?_
    rw [show IntKind.i64.wrap (32 * ((xs.length : Nat) : Int)) = ((32 * xs.length : Nat) : Int) from by rw [IntKind.wrap_i64]; omega]
    refine RN.bq (no 4) [8, 9, 12] [] (k' := 7) (l' := [(8, .int .i64 ((32 * xs.length : Nat) : Int)), (9, sl s xs.length), (12, .int .i64 (IntKind.i64.wrap (((xs.length : Nat) : Int) - 1)))]) k_ ?_
    rw [show IntKind.i64.wrap (((xs.length : Nat) : Int) - 1) = ((xs.length - 1 : Nat) : Int) from by rw [IntKind.wrap_i64]; omega]
    refine RN.val _ k_ k_ (q_uidx (t := 23) (x := (.tmp 9)) (ix := (.tmp 12)) (K := .i64) (i0 := ((xs.length - 1 : Nat) : Int)) (m := xs.length - 1) (e := 82) 0 rfl k_ k_ k_ k_ k_ (by omega) x_) ?_
    refine RN.val _ k_ k_ (q_uload (T := 82) (x := (.tmp 13)) (m := xs.length - 1) (s := s) (xs := xs) 0 rfl k_ k_ k_ x_) ?_
    refine RN.call (bits_LeadingZeros32 (xs.getD (xs.length - 1) 0) y_m19_length) [] k_ k_ k_ rfl (fun y3 _ => ?_)
    refine RN.bq (no 1) [16] [] (k' := 11) (l' := [(16, .int .i64 (IntKind.i64.wrap (((32 * xs.length : Nat) : Int) - ((32 - bl (xs.getD (xs.length - 1) 0) : Nat) : Int))))]) k_ ?_
    rw [show IntKind.i64.wrap (((32 * xs.length : Nat) : Int) - ((32 - bl (xs.getD (xs.length - 1) 0) : Nat) : Int)) = (((32 * xs.length) - (32 - bl (xs.getD (xs.length - 1) 0)) : Nat) : Int) from by rw [IntKind.wrap_i64]; omega]
    refine RN.bq (no 1) [2] [] (k' := 12) (l' := [(2, .int .i64 (((32 * xs.length) - (32 - bl (xs.getD (xs.length - 1) 0)) : Nat) : Int))]) k_ ?_
    refine RN.fin k_ ?_
    have e_1 : (((lenL xs : Nat) : Int) : Int) = ((((32 * xs.length) - (32 - bl (xs.getD (xs.length - 1) 0)) : Nat) : Int) : Int) := by unfold lenL; first | (rw [if_pos (show xs.length = 0 by omega)]; done) | (rw [if_pos (show xs.length = 0 by omega)]; rfl) | (rw [if_neg (show ¬ xs.length = 0 by omega)]; done) | (rw [if_neg (show ¬ xs.length = 0 by omega)]; rfl)
    refine J.ret (KR.ret (v := .int .i64 (((32 * xs.length) - (32 - bl (xs.getD (xs.length - 1) 0)) : Nat) : Int)) (()) [none] [] [] k_ v1_ (trivial) v1_)
theorem m19_length_c (s : SA) (xs' : Nat) (hl : (toL xs').length ≤ 1073741824) : Spec Tryz.prog 90 #[sl s (toL xs').length] [fU s (toL xs')] (ι := Unit) (fun y => .int .i64 ((lenL (toL xs') : Nat) : Int)) (fun y => True) (fun y => []) := by
  have H := m19_length s (toL xs') (Lb_toL _) (by first | exact hl | simpa only [nv_toL] using hl)
  first | exact H | (simp only [nv_toL, lv_toL, validU_toL] at H; exact H)
def powL (n : Nat) : List Nat := (List.replicate (n / 32 + 1) 0).set (n / 32) (2 ^ (n % 32))
theorem shl1 {m : Nat} (h : m < 32) : 2 ^ m < 4294967296 := Nat.lt_of_lt_of_eq (Nat.pow_lt_pow_right (by decide) h) (by decide)
theorem rep_succ_set (k v : Nat) : (List.replicate (k + 1) 0).set k v = List.replicate k 0 ++ [v] := by
  induction k with
  | zero => rfl
  | succ k ih => rw [List.replicate_succ, List.set_cons_succ, ih]; rfl
theorem toL_shift (k v : Nat) (hv : 0 < v) (hb : v < 4294967296) : toL (W ^ k * v) = List.replicate k 0 ++ [v] := by
  induction k with
  | zero =>
    rw [Nat.pow_zero, Nat.one_mul, toL_pos (Nat.pos_iff_ne_zero.1 hv), show v / W = 0 from Nat.div_eq_of_lt hb, toL_zero, show v % W = v from Nat.mod_eq_of_lt hb]; rfl
  | succ k ih =>
    have e : W ^ (k + 1) * v = W * (W ^ k * v) := by rw [Nat.pow_succ, Nat.mul_comm (W ^ k) W, Nat.mul_assoc]
    have hp : 0 < W ^ k * v := Nat.mul_pos (Wpos k) hv
    rw [e, toL_pos (Nat.pos_iff_ne_zero.1 (Nat.mul_pos (by decide) hp)), Nat.mul_mod_right, Nat.mul_div_cancel_left _ (by decide), ih, List.replicate_succ]; rfl
theorem powL_eq (n : Nat) : powL n = toL (2 ^ n) := by
  have e : 2 ^ n = W ^ (n / 32) * 2 ^ (n % 32) := by
    rw [show W = 2 ^ 32 from by rw [W_eq], ← Nat.pow_mul, ← Nat.pow_add, Nat.div_add_mod]
  rw [powL, rep_succ_set, e, toL_shift _ _ (Nat.pow_pos (by decide)) (shl1 (Nat.mod_lt _ (by decide)))]
theorem powL_enc (n : Nat) : (⟨false, powL n, []⟩ : Raw) = encQ (two n) := by
  rw [powL_eq, two, encQ_int]
  congr 1
theorem P2_neg {k : Int} (h : k < 0) : P2 k = 1 / two k.natAbs := by unfold P2; rw [if_pos h, show (-k).toNat = k.natAbs from by omega]
theorem P2_nn {k : Int} (h : ¬ k < 0) : P2 k = two k.natAbs := by unfold P2; rw [if_neg h, show k.toNat = k.natAbs from by omega]
theorem powQ {k : Int} (h1 : -1000000 ≤ k) (h2 : k ≤ 1000000) : Q 31251 (two k.natAbs) := Q_two (by omega)
theorem y_m19_power {p : Prop} (h : p := by first | assumption | exact Lb_toL _ | omega | (simp; done) | first | exact RQ_enc Q1 | exact Q.le Q1 (by decide) | (show RQ 268435456 ⟨false, powL k.natAbs, []⟩; rw [hpe]; exact RQ_enc (hpq.le (by decide)))) : p := h
theorem m19_power (k : Int) (h1 : -1000000 ≤ k) (h2 : k ≤ 1000000) : Spec Tryz.prog 57 #[.int .i64 k] [] (ι := RA) (fun y => ratV y (encQ (P2 k))) (fun y => True) (fun y => [fRat y (encQ (P2 k))]) := by
  refine Spec.of_body _ (fn := Tryz.f57) k_ rfl k_ (fun X w0 => ?_)
  have hn : k.natAbs ≤ 1000000 := by omega
  have hm := Nat.mod_lt k.natAbs (by decide : 0 < 32)
  have hpw := shl1 hm
  have hpq := powQ h1 h2
  have hpe := powL_enc k.natAbs
  refine J.sreg ?_
  refine RN.new (fun b => pt b) (.cells (ratC (⟨saNil, saNil⟩ : RA) (⟨false, ([] : List Nat), ([] : List Nat)⟩ : Raw)) 27 (0, 0)) k_ k_ (fun w => by kernel_rfl) (fun b1 => ?_)
  refine RN.fin k_ ?_
  refine J.sreg ?_
  refine RN.bq (no 3) [0, 2, 6, 8] [] (k' := 3) (l' := [(0, .int .i64 k), (2, pt b1), (6, .int .i64 k), (8, .int .i64 (IntKind.i64.wrap (0 - k)))]) k_ ?_
  rw [show IntKind.i64.wrap (0 - k) = (-k) from by rw [IntKind.wrap_i64]; omega]
  refine RN.bq (no 1) [0, 2, 9] [] (k' := 4) (l' := [(0, .int .i64 k), (2, pt b1), (9, .int .i64 (if (-k) > k then (-k) else k))]) k_ ?_
  rw [show (if (-k) > k then (-k) else k) = ((k.natAbs : Nat) : Int) from by split <;> omega]
  refine RN.bq (no 1) [0, 2, 3] [] (k' := 5) (l' := [(0, .int .i64 k), (2, pt b1), (3, .int .i64 ((k.natAbs : Nat) : Int))]) k_ ?_
  refine RN.fin k_ ?_
  refine J.sreg ?_
  refine RN.bq (no 2) [0, 2, 3, 11] [] (k' := 2) (l' := [(0, .int .i64 k), (2, pt b1), (3, .int .i64 ((k.natAbs : Nat) : Int)), (11, .int .i64 (IntKind.i64.wrap (Int.tdiv ((k.natAbs : Nat) : Int) 32)))]) k_ ?_
  rw [show IntKind.i64.wrap (Int.tdiv ((k.natAbs : Nat) : Int) 32) = (((k.natAbs) / 32 : Nat) : Int) from by rw [show (32 : Int) = ((32 : Nat) : Int) from rfl, tdivn, IntKind.wrap_i64]; omega]
  refine RN.bq (no 1) [0, 2, 3, 12] [] (k' := 3) (l' := [(0, .int .i64 k), (2, pt b1), (3, .int .i64 ((k.natAbs : Nat) : Int)), (12, .int .i64 (IntKind.i64.wrap ((((k.natAbs) / 32 : Nat) : Int) + 1)))]) k_ ?_
  rw [show IntKind.i64.wrap ((((k.natAbs) / 32 : Nat) : Int) + 1) = ((((k.natAbs) / 32) + 1 : Nat) : Int) from by rw [IntKind.wrap_i64]; omega]
  refine RN.make (e := 0) (m := (((k.natAbs) / 32) + 1)) (.cells (encU (List.replicate (((k.natAbs) / 32) + 1) 0)) 82 (0, 0)) k_ k_ (fun w => (q_make1 (t := 23) (m := (((k.natAbs) / 32) + 1)) (by_ := 4) (K := .i64) (K' := .i64) (n1 := ((((k.natAbs) / 32) + 1 : Nat) : Int)) (n2 := ((((k.natAbs) / 32) + 1 : Nat) : Int)) (x := (.tmp 12)) (y := (.tmp 12)) (e := 82) k_ k_ k_ (by omega) (by omega) k_ k_ rfl (by omega) (by omega) w).trans (by rw [encU_rep])) (fun b2 => ?_)
  refine RN.bq (no 1) [0, 2, 3, 4] [] (k' := 5) (l' := [(0, .int .i64 k), (2, pt b1), (3, .int .i64 ((k.natAbs : Nat) : Int)), (4, .slice (some ⟨b2, 0, none⟩) (((k.natAbs) / 32) + 1) (((k.natAbs) / 32) + 1))]) k_ ?_
  refine RN.fin k_ ?_
  refine J.sreg ?_
  refine RN.bq (no 3) [0, 2, 3, 4, 14, 16] [] (k' := 3) (l' := [(0, .int .i64 k), (2, pt b1), (3, .int .i64 ((k.natAbs : Nat) : Int)), (4, .slice (some ⟨b2, 0, none⟩) (((k.natAbs) / 32) + 1) (((k.natAbs) / 32) + 1)), (14, .slice (some ⟨b2, 0, none⟩) (((k.natAbs) / 32) + 1) (((k.natAbs) / 32) + 1)), (16, .int .i64 (IntKind.i64.wrap (Int.tdiv ((k.natAbs : Nat) : Int) 32)))]) k_ ?_
  rw [show IntKind.i64.wrap (Int.tdiv ((k.natAbs : Nat) : Int) 32) = (((k.natAbs) / 32 : Nat) : Int) from by rw [show (32 : Int) = ((32 : Nat) : Int) from rfl, tdivn, IntKind.wrap_i64]; omega]
  refine RN.bq (no 2) [0, 2, 4, 14, 16, 18] [] (k' := 5) (l' := [(0, .int .i64 k), (2, pt b1), (4, .slice (some ⟨b2, 0, none⟩) (((k.natAbs) / 32) + 1) (((k.natAbs) / 32) + 1)), (14, .slice (some ⟨b2, 0, none⟩) (((k.natAbs) / 32) + 1) (((k.natAbs) / 32) + 1)), (16, .int .i64 (((k.natAbs) / 32 : Nat) : Int)), (18, .int .i64 (Int.tmod ((k.natAbs : Nat) : Int) 32))]) k_ ?_
  rw [show Int.tmod ((k.natAbs : Nat) : Int) 32 = (((k.natAbs) % 32 : Nat) : Int) from by rw [show (32 : Int) = ((32 : Nat) : Int) from rfl, tmodn]]
  refine RN.val _ k_ k_ (q_shl (T := 82) (T' := 3) (x := (.const (.int .u32 1))) (y := (.tmp 18)) (k := .u32) (k' := .i64) (a := 1) (b := (((k.natAbs) % 32 : Nat) : Int)) (m := ((k.natAbs) % 32)) k_ k_ k_ (by omega) (by simp only [IntKind.bits]; omega)) ?_
  rw [show (IntKind.u32.wrap (1 * 2 ^ ((k.natAbs) % 32))) = ((2 ^ (k.natAbs % 32) : Nat) : Int) from by exact uw32b _ (by simp) hpw]
  refine RN.val _ k_ k_ (q_oidx (t := 23) (x := (.tmp 14)) (ix := (.tmp 16)) (b := b2) (n := (((k.natAbs) / 32) + 1)) (c := (((k.natAbs) / 32) + 1)) (K := .i64) (i0 := (((k.natAbs) / 32 : Nat) : Int)) (m := (k.natAbs) / 32) (e := 82) (sz := 1) k_ k_ k_ k_ k_ (by omega) (by omega)) ?_
  refine RN.ot k_ k_ (ot_ustore (mi := 0) (T := 82) (x := (.tmp 20)) (y := (.tmp 19)) (b := b2) (m := (k.natAbs) / 32) (xs := List.replicate (((k.natAbs) / 32) + 1) 0) (v := ((2 ^ (k.natAbs % 32) : Nat) : Int)) (v0 := 2 ^ (k.natAbs % 32)) rfl k_ k_ k_ k_ k_ (by omega) (by (simp; try omega))) (fun _ _ => ?_)
  refine RN.fin k_ ?_
  refine J.sreg ?_
  refine RN.bq (no 1) [0, 2, 21] [] (k' := 1) (l' := [(0, .int .i64 k), (2, pt b1), (21, .slice (some ⟨b2, 0, none⟩) (((k.natAbs) / 32) + 1) (((k.natAbs) / 32) + 1))]) k_ ?_
  refine RN.share 0 rfl rfl ?_
  refine RN.also (fU (⟨some ⟨b2, 0, none⟩, ((k.natAbs) / 32) + 1⟩ : SA) ((List.replicate (((k.natAbs) / 32) + 1) 0).set ((k.natAbs) / 32) (2 ^ (k.natAbs % 32)))) (fun w h => fU_own (h _ (.head _)) (by (simp; try omega)) (by (simp; try omega))) ?_
  refine RN.turn 21 (v := .slice (some ⟨b2, 0, none⟩) (((k.natAbs) / 32) + 1) (((k.natAbs) / 32) + 1)) (v' := sl (⟨some ⟨b2, 0, none⟩, ((k.natAbs) / 32) + 1⟩ : SA) ((List.replicate (((k.natAbs) / 32) + 1) 0).set ((k.natAbs) / 32) (2 ^ (k.natAbs % 32))).length) k_ (sl_eq (by (simp; try omega))) ?_
  refine RN.bq (no 2) [0, 2, 23] [] (k' := 3) (l' := [(0, .int .i64 k), (2, pt b1), (23, ratV (⟨(⟨some ⟨b2, 0, none⟩, ((k.natAbs) / 32) + 1⟩ : SA), saNil⟩ : RA) (⟨false, (List.replicate (((k.natAbs) / 32) + 1) 0).set ((k.natAbs) / 32) (2 ^ (k.natAbs % 32)), ([] : List Nat)⟩ : Raw))]) k_ ?_
  refine RN.new (fun b => pt b) (.cells (ratC (⟨saNil, saNil⟩ : RA) (⟨false, ([] : List Nat), ([] : List Nat)⟩ : Raw)) 27 (0, 0)) k_ k_ (fun w => by kernel_rfl) (fun b3 => ?_)
  refine RN.bat [some 0] [0, 2, 5] [b3, b3, b3] (k' := 5) (l' := [(0, .int .i64 k), (2, pt b1), (5, pt b3)]) (M' := [(b3, .cells (ratC (⟨(⟨some ⟨b2, 0, none⟩, ((k.natAbs) / 32) + 1⟩ : SA), saNil⟩ : RA) (⟨false, (List.replicate (((k.natAbs) / 32) + 1) 0).set ((k.natAbs) / 32) (2 ^ (k.natAbs % 32)), ([] : List Nat)⟩ : Raw)) 27 (0, 0)), (b1, .cells (ratC (⟨saNil, saNil⟩ : RA) (⟨false, ([] : List Nat), ([] : List Nat)⟩ : Raw)) 27 (0, 0))]) k_ ?_
  refine RN.fin k_ ?_
  refine J.seq ?_
  refine J.sreg ?_
  refine RN.bq (no 2) [2, 5, 25] [] (k' := 2) (l' := [(2, pt b1), (5, pt b3), (25, .bool (decide (k < 0)))]) k_ ?_
  refine RN.fin k_ ?_
  refine J.cond (decide (k < 0)) k_ (fun c4 => ?_) (fun c4 => ?_)
  · skip
    replace c4 := of_decide_eq_true c4
    refine J.seq ?_
    refine J.regD k_ [3] ?_
    refine RD.bat k_ [(1, some 0)] [2, 27] [b3, b3, b3] (L' := [1]) (l' := [(2, pt b1), (27, ratV (⟨(⟨some ⟨b2, 0, none⟩, ((k.natAbs) / 32) + 1⟩ : SA), saNil⟩ : RA) (⟨false, (List.replicate (((k.natAbs) / 32) + 1) 0).set ((k.natAbs) / 32) (2 ^ (k.natAbs % 32)), ([] : List Nat)⟩ : Raw))]) k_ ?_
    refine RD.call (i := 0) (m19_one) [] k_ k_ k_ k_ k_ rfl (fun y5 _ => ?_)
    refine RD.also (fRat (⟨(⟨some ⟨b2, 0, none⟩, ((k.natAbs) / 32) + 1⟩ : SA), saNil⟩ : RA) (⟨false, (List.replicate (((k.natAbs) / 32) + 1) 0).set ((k.natAbs) / 32) (2 ^ (k.natAbs % 32)), ([] : List Nat)⟩ : Raw)) (fun w h => ⟨(h _ (.tail _ ((.head _)))), fU_nil w⟩) k_ ?_
    refine RD.call (i := 2) (m19_quotient_c1 y5 (1 : Rat) ⟨(⟨some ⟨b2, 0, none⟩, ((k.natAbs) / 32) + 1⟩ : SA), saNil⟩ ⟨false, (List.replicate (((k.natAbs) / 32) + 1) 0).set ((k.natAbs) / 32) (2 ^ (k.natAbs % 32)), ([] : List Nat)⟩ y_m19_power y_m19_power) [1, 0] k_ k_ k_ k_ k_ rfl (fun y6 _ => ?_)
    refine RD.last (i := 3) (some 1) [2] [b1, b1, b1] k_ k_ k_ (l' := [(2, pt b1)]) (M' := [(b3, .cells (ratC (⟨(⟨some ⟨b2, 0, none⟩, ((k.natAbs) / 32) + 1⟩ : SA), saNil⟩ : RA) (⟨false, (List.replicate (((k.natAbs) / 32) + 1) 0).set ((k.natAbs) / 32) (2 ^ (k.natAbs % 32)), ([] : List Nat)⟩ : Raw)) 27 (0, 0)), (b1, .cells (ratC y6 (encQ ((1 : Rat) / (qv (⟨false, (List.replicate (((k.natAbs) / 32) + 1) 0).set ((k.natAbs) / 32) (2 ^ (k.natAbs % 32)), ([] : List Nat)⟩ : Raw))))) 27 (0, 0))]) k_ ?_
    refine RD.done k_ ?_
    refine KN.next ?_
    have e_1 : (encQ (P2 k)) = (encQ ((1 : Rat) / (qv (⟨false, (List.replicate (((k.natAbs) / 32) + 1) 0).set ((k.natAbs) / 32) (2 ^ (k.natAbs % 32)), ([] : List Nat)⟩ : Raw)))) := by show encQ (P2 k) = encQ (1 / qv ⟨false, powL k.natAbs, []⟩); rw [hpe, qv_encQ, P2_neg ‹_›]
    refine J.ret (KR.next (KR.ret (v := ratV y6 (encQ ((1 : Rat) / (qv (⟨false, (List.replicate (((k.natAbs) / 32) + 1) 0).set ((k.natAbs) / 32) (2 ^ (k.natAbs % 32)), ([] : List Nat)⟩ : Raw))))) (y6) [some 1] [0] [b1, b1, b1] k_ v1_ (trivial) v1_))
  · skip
    replace c4 := of_decide_eq_false c4
    refine J.skip ?_
    refine KN.next ?_
    refine J.sreg ?_
    refine RN.bat [some 0, some 1] [2] [b1, b1, b1, b3, b3, b3] (k' := 2) (l' := [(2, pt b1)]) (M' := [(b3, .cells (ratC (⟨(⟨some ⟨b2, 0, none⟩, ((k.natAbs) / 32) + 1⟩ : SA), saNil⟩ : RA) (⟨false, (List.replicate (((k.natAbs) / 32) + 1) 0).set ((k.natAbs) / 32) (2 ^ (k.natAbs % 32)), ([] : List Nat)⟩ : Raw)) 27 (0, 0)), (b1, .cells (ratC (⟨(⟨some ⟨b2, 0, none⟩, ((k.natAbs) / 32) + 1⟩ : SA), saNil⟩ : RA) (⟨false, (List.replicate (((k.natAbs) / 32) + 1) 0).set ((k.natAbs) / 32) (2 ^ (k.natAbs % 32)), ([] : List Nat)⟩ : Raw)) 27 (0, 0))]) k_ ?_
    refine RN.fin k_ ?_
    have e_1 : (encQ (P2 k)) = (⟨false, (List.replicate (((k.natAbs) / 32) + 1) 0).set ((k.natAbs) / 32) (2 ^ (k.natAbs % 32)), ([] : List Nat)⟩ : Raw) := by first | exact (congrArg encQ (P2_nn ‹_›)).trans hpe.symm
    have e_2 : (toL (((P2 k).num).natAbs)) = ((List.replicate (((k.natAbs) / 32) + 1) 0).set ((k.natAbs) / 32) (2 ^ (k.natAbs % 32))) := congrArg Raw.mag e_1
    have e_3 : (toD ((P2 k).den)) = ([] : List Nat) := congrArg Raw.den e_1
    refine J.also (fRat (⟨(⟨some ⟨b2, 0, none⟩, ((k.natAbs) / 32) + 1⟩ : SA), saNil⟩ : RA) (⟨false, (List.replicate (((k.natAbs) / 32) + 1) 0).set ((k.natAbs) / 32) (2 ^ (k.natAbs % 32)), ([] : List Nat)⟩ : Raw)) (fun w h => ⟨(h _ (.head _)), fU_nil w⟩) ?_
    refine J.ret (KR.ret (v := ratV (⟨(⟨some ⟨b2, 0, none⟩, ((k.natAbs) / 32) + 1⟩ : SA), saNil⟩ : RA) (⟨false, (List.replicate (((k.natAbs) / 32) + 1) 0).set ((k.natAbs) / 32) (2 ^ (k.natAbs % 32)), ([] : List Nat)⟩ : Raw)) (⟨(⟨some ⟨b2, 0, none⟩, ((k.natAbs) / 32) + 1⟩ : SA), saNil⟩) [some 1] [0] [b1, b1, b1] k_ (by first | rfl | (rw [e_1]; done) | (simp only [e_1]; done) | (rw [e_2, e_3]; done) | (rw [e_1, e_2, e_3]; rfl) | (simp only [e_1, e_2, e_3]; done) | (simp only [e_1, e_2, e_3]; rfl)) (trivial) (by first | rfl | (rw [e_1]; done) | (simp only [e_1]; done) | (rw [e_2, e_3]; done) | (rw [e_1, e_2, e_3]; rfl) | (simp only [e_1, e_2, e_3]; done) | (simp only [e_1, e_2, e_3]; rfl)))
end Go.Proofs.YtegnonhgildhoaaGreat.E
