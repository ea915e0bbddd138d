import Derived.Test.YtegnonhgildhoaaGreatBase4
import Derived.Test.YtegnonhgildhoaaGreatN8
namespace Go.Proofs.YtegnonhgildhoaaGreat.E
open Go Go.RowKit
set_option linter.unusedVariables false
set_option linter.unusedSimpArgs false
theorem integer_Add_nil (s : SA) (n : Int) (hl : (toL (n.natAbs)).length ≤ 1099511627776) : Spec Tryz.prog 91 #[intV s (encZ n), intV saNil (⟨false, ([] : List Nat)⟩ : RawI)] [fU s (toL (n.natAbs)), fU saNil ([] : List Nat)] (ι := SA) (fun y => intV y (encZ n)) (fun y => True) (fun y => [fU y (toL (n.natAbs))]) := by
  have H := integer_Add s (encZ n) saNil ⟨false, []⟩ (Lb_toL _) hl Lb_nil (by simp)
  simp only [zv_encZ, zv_nil, Int.add_zero] at H
  exact H
theorem natural_AddD_nil (s : SA) (d : Nat) (hl : (toD d).length ≤ 1099511627776) : Spec Tryz.prog 114 #[sl s (toD d).length, .slice none 0 0] [fU s (toD d), fU saNil ([] : List Nat)] (ι := SA) (fun y => sl y (toD d).length) (fun y => True) (fun y => [fU y (toD d)]) := by
  have H := natural_Add s (toD d) saNil [] (Lb_toD _) Lb_nil hl (by simp)
  have e : toL (nv (toD d) + nv []) = toD d := by
    rw [nv_nil, Nat.add_zero, nv_of_valid (toD_valid d), toL_lv (Lb_toD d) (toD_valid d)]
  rw [e] at H
  exact H
theorem sign_lt0 {d : Int} (h : Int.sign d < 0) : d < 0 := by
  rcases Int.lt_trichotomy d 0 with h1 | h1 | h1
  · exact h1
  · subst h1; simp at h
  · rw [Int.sign_eq_one_of_pos h1] at h; omega
theorem sign_nlt0 {d : Int} (h : ¬ Int.sign d < 0) (h0 : d ≠ 0) : 0 < d := by
  rcases Int.lt_trichotomy d 0 with h1 | h1 | h1
  · rw [Int.sign_eq_neg_one_of_neg h1] at h; omega
  · exact absurd h1 h0
  · exact h1
theorem rational_one : Spec Tryz.prog 112 #[] [] (ι := SA) (fun y => sl y (toL 1).length) (fun y => True) (fun y => [fU y (toL 1)]) := by
  refine Spec.of_body _ (fn := Tryz.f112) k_ rfl k_ (fun X w0 => ?_)
  refine J.sreg ?_
  refine RN.bq (no 1) [] [] (k' := 1) (l' := []) k_ ?_
  refine RN.done k_ ?_
  refine KN.next ?_
  refine J.sreg ?_
  refine RN.new (fun b => .slice (some ⟨b, 0, none⟩) 1 1) (.cells (encU ([1] : List Nat)) 82 (0, 0)) k_ k_ (fun w => by kernel_rfl) (fun b1 => ?_)
  refine RN.bq (no 1) [0] [] (k' := 2) (l' := [(0, .slice (some ⟨b1, 0, none⟩) 1 1)]) k_ ?_
  refine RN.done k_ ?_
  refine KN.next ?_
  refine J.share 0 rfl rfl ?_
  refine J.also (fU (⟨some ⟨b1, 0, none⟩, 1⟩ : SA) ([1] : List Nat)) (fun w h => fU_own (h _ (.head _)) x_ x_) ?_
  refine J.turn 0 (v := .slice (some ⟨b1, 0, none⟩) 1 1) (v' := sl (⟨some ⟨b1, 0, none⟩, 1⟩ : SA) ([1] : List Nat).length) k_ (sl_eq x_) ?_
  have e_1 : (toL 1) = ([1] : List Nat) := by exact toL_1
  refine J.ret (KR.ret (v := sl (⟨some ⟨b1, 0, none⟩, 1⟩ : SA) ([1] : List Nat).length) ((⟨some ⟨b1, 0, none⟩, 1⟩ : SA)) [none] [0] [] k_ v1_ (trivial) v1_)
theorem rational_den (p : RA) (q : Rat) : Spec Tryz.prog 85 #[ratV p (encQ q)] [fRat p (encQ q)] (ι := SA) (fun y => sl y (toL (q.den)).length) (fun y => True) (fun y => [fU y (toL (q.den))]) := by
  refine Spec.of_body _ (fn := Tryz.f85) k_ rfl k_ (fun X w0 => ?_)
  refine J.fact (φ := (encQ q).mag.length ≤ 140737488355328 ∧ (encQ q).den.length ≤ 140737488355328) (fun w h => by have h1 := (h _ (.head _)).1.1; have h2 := (h _ (.head _)).2.1; omega) (fun hl1 => ?_)
  refine J.sreg ?_
  refine RN.new (fun b => pt b) (.cells (ratC p (encQ q)) 27 (0, 0)) k_ k_ (fun w => by kernel_rfl) (fun b2 => ?_)
  refine RN.bq (no 1) [1] [] (k' := 2) (l' := [(1, pt b2)]) k_ ?_
  refine RN.done k_ ?_
  refine KN.next ?_
  refine J.seq ?_
  refine J.sreg ?_
  refine RN.bq [none, some 0, none, none] [1, 6] [b2] (k' := 4) (l' := [(1, pt b2), (6, .bool (((((toD (q.den)).length : Nat) : Int) : Int) == 0))]) k_ ?_
  refine RN.done k_ ?_
  refine KN.next ?_
  refine J.cond (((((toD (q.den)).length : Nat) : Int) : Int) == 0) k_ (fun c3 => ?_) (fun c3 => ?_)
  · skip
    replace c3 := eq_of_beq c3
    refine J.sreg ?_
    refine RN.call (rational_one) [] k_ k_ k_ rfl (fun y4 _ => ?_)
    refine RN.bq (no 1) [2] [] (k' := 2) (l' := [(2, sl y4 (toL 1).length)]) k_ ?_
    refine RN.done k_ ?_
    refine KN.next ?_
    have e_1 : (toL (q.den)) = (toL 1) := by rw [(toD_len q.den_nz).1 (by omega)]
    refine J.ret (KR.next (KR.ret (v := sl y4 (toL 1).length) (y4) [none] [0] [] k_ v1_ (trivial) v1_))
  · skip
    replace c3 := ne_of_beq_false c3
    refine J.skip ?_
    refine KN.next ?_
    refine J.sreg ?_
    refine RN.bq [none, some 0, none] [2] [b2] (k' := 3) (l' := [(2, sl (p.den) (toD (q.den)).length)]) k_ ?_
    refine RN.done k_ ?_
    refine KN.next ?_
    have e_1 : (toL (q.den)) = (toD (q.den)) := by rw [toD_ne (fun h => by have := (toD_len q.den_nz).2 h; omega)]
    refine J.also (fU (p.den) (toD (q.den))) (fun w h => (h _ (.head _)).2) ?_
    refine J.ret (KR.ret (v := sl (p.den) (toD (q.den)).length) (p.den) [none] [0] [] k_ v1_ (trivial) v1_)
theorem y_rational_lowest {p : Prop} (h : p := by first | assumption | exact Lb_toL _ | omega | (simp; done) | exact Nat.le_trans (length_toL_mono (Nat.div_le_self _ _)) hld) : p := h
theorem rational_lowest (s : SA) (n : Int) (t : SA) (d : Nat) (hd : d ≠ 0) (hln : (toL (n.natAbs)).length ≤ 1099511627776) (hld : (toL d).length ≤ 1099511627776) : Spec Tryz.prog 88 #[intV s (encZ n), sl t (toL d).length] [fU s (toL (n.natAbs)), fU t (toL d)] (ι := RA) (fun y => ratV y (encQ (mkRat n d))) (fun y => True) (fun y => [fRat y (encQ (mkRat n d))]) := by
  refine Spec.of_body _ (fn := Tryz.f88) k_ rfl k_ (fun X w0 => ?_)
  refine J.fact (φ := (toL (n.natAbs)).length ≤ 140737488355328) (fun w h => by have := (h _ (.head _)).1; omega) (fun hl1 => ?_)
  refine J.fact (φ := (toL d).length ≤ 140737488355328) (fun w h => by have := (h _ (.tail _ ((.head _)))).1; omega) (fun hl2 => ?_)
  have hg := length_toL_mono (Nat.gcd_le_right n.natAbs (Nat.pos_of_ne_zero hd))
  refine J.sreg ?_
  refine RN.new (fun b => pt b) (.cells #[.bool (decide (n < 0)), sl s (toL (n.natAbs)).length] 25 (0, 0)) k_ k_ (fun w => by kernel_rfl) (fun b3 => ?_)
  refine RN.new (fun b => pt b) (.cells (ratC (⟨saNil, saNil⟩ : RA) (⟨false, ([] : List Nat), ([] : List Nat)⟩ : Raw)) 27 (0, 0)) k_ k_ (fun w => by kernel_rfl) (fun b4 => ?_)
  refine RN.done k_ ?_
  refine KN.next ?_
  refine J.sreg ?_
  refine RN.bq [none, some 1, none] [1, 2, 4, 10, 11] [b3] (k' := 3) (l' := [(1, sl t (toL d).length), (2, pt b3), (4, pt b4), (10, sl s (toL (n.natAbs)).length), (11, sl t (toL d).length)]) k_ ?_
  refine RN.call (natural_Gcd_c s (n.natAbs) t d y_rational_lowest y_rational_lowest) [0, 1] k_ k_ k_ rfl (fun y5 _ => ?_)
  refine RN.bq (no 1) [1, 2, 4, 5] [] (k' := 5) (l' := [(1, sl t (toL d).length), (2, pt b3), (4, pt b4), (5, sl y5 (toL (Nat.gcd (n.natAbs) d)).length)]) k_ ?_
  refine RN.done k_ ?_
  refine KN.next ?_
  refine J.sreg ?_
  refine RN.bq [none, some 1, none] [1, 2, 4, 5, 15, 16] [b3] (k' := 3) (l' := [(1, sl t (toL d).length), (2, pt b3), (4, pt b4), (5, sl y5 (toL (Nat.gcd (n.natAbs) d)).length), (15, sl s (toL (n.natAbs)).length), (16, sl y5 (toL (Nat.gcd (n.natAbs) d)).length)]) k_ ?_
  refine RN.call (natural_Div_c s (n.natAbs) y5 (Nat.gcd (n.natAbs) d) y_rational_lowest y_rational_lowest) [1, 0] k_ k_ k_ rfl (fun y6 _ => ?_)
  refine RN.bq (no 7) [1, 2, 4, 5, 6] [] (k' := 11) (l' := [(1, sl t (toL d).length), (2, pt b3), (4, pt b4), (5, sl y5 (toL (Nat.gcd (n.natAbs) d)).length), (6, sl y6.1 (toL ((n.natAbs) / (Nat.gcd (n.natAbs) d))).length)]) k_ ?_
  refine RN.done k_ ?_
  refine KN.next ?_
  refine J.sreg ?_
  refine RN.bq (no 2) [2, 4, 6, 22, 23] [] (k' := 2) (l' := [(2, pt b3), (4, pt b4), (6, sl y6.1 (toL ((n.natAbs) / (Nat.gcd (n.natAbs) d))).length), (22, sl t (toL d).length), (23, sl y5 (toL (Nat.gcd (n.natAbs) d)).length)]) k_ ?_
  refine RN.call (natural_Div_c t d y5 (Nat.gcd (n.natAbs) d) y_rational_lowest y_rational_lowest) [4, 2] k_ k_ k_ rfl (fun y7 _ => ?_)
  refine RN.bq (no 5) [1, 2, 4, 6] [] (k' := 8) (l' := [(1, sl y7.1 (toL (d / (Nat.gcd (n.natAbs) d))).length), (2, pt b3), (4, pt b4), (6, sl y6.1 (toL ((n.natAbs) / (Nat.gcd (n.natAbs) d))).length)]) k_ ?_
  refine RN.done k_ ?_
  refine KN.next ?_
  refine J.seq ?_
  refine J.sreg ?_
  refine RN.bq (no 1) [1, 2, 4, 6, 28] [] (k' := 1) (l' := [(1, sl y7.1 (toL (d / (Nat.gcd (n.natAbs) d))).length), (2, pt b3), (4, pt b4), (6, sl y6.1 (toL ((n.natAbs) / (Nat.gcd (n.natAbs) d))).length), (28, sl y7.1 (toL (d / (Nat.gcd (n.natAbs) d))).length)]) k_ ?_
  refine RN.call (rational_one) [] k_ k_ k_ rfl (fun y8 _ => ?_)
  refine RN.call (natural_Compare_c y7.1 (d / (Nat.gcd (n.natAbs) d)) y8 1) [1, 0] k_ k_ k_ rfl (fun y9 _ => ?_)
  refine RN.bq (no 1) [1, 2, 4, 6, 31] [] (k' := 4) (l' := [(1, sl y7.1 (toL (d / (Nat.gcd (n.natAbs) d))).length), (2, pt b3), (4, pt b4), (6, sl y6.1 (toL ((n.natAbs) / (Nat.gcd (n.natAbs) d))).length), (31, .bool (((cmpN (d / (Nat.gcd (n.natAbs) d)) 1) : Int) == 0))]) k_ ?_
  refine RN.done k_ ?_
  refine KN.next ?_
  refine J.cond (((cmpN (d / (Nat.gcd (n.natAbs) d)) 1) : Int) == 0) k_ (fun c10 => ?_) (fun c10 => ?_)
  · skip
    replace c10 := eq_of_beq c10
    have h1 := cmpN_zero.1 c10
    refine J.regN ?_
    refine RN.bq (no 1) [1, 2, 4, 6] [] (k' := 1) (l' := [(1, .slice none 0 0), (2, pt b3), (4, pt b4), (6, sl y6.1 (toL ((n.natAbs) / (Nat.gcd (n.natAbs) d))).length)]) k_ ?_
    refine RN.done k_ ?_
    refine KN.next ?_
    refine J.sreg ?_
    refine RN.bat [none, some 1, none, none, none, none, some 0] [4] [b4, b4, b4, b3] (k' := 7) (l' := [(4, pt b4)]) (M' := [(b4, .cells (ratC (⟨y6.1, saNil⟩ : RA) (⟨decide (n < 0), toL ((n.natAbs) / (Nat.gcd (n.natAbs) d)), ([] : List Nat)⟩ : Raw)) 27 (0, 0)), (b3, .cells #[.bool (decide (n < 0)), sl s (toL (n.natAbs)).length] 25 (0, 0))]) k_ ?_
    refine RN.done k_ ?_
    refine KN.next ?_
    have e_1 : (encQ (mkRat n d)) = (⟨decide (n < 0), toL ((n.natAbs) / (Nat.gcd (n.natAbs) d)), ([] : List Nat)⟩ : Raw) := by rw [low_enc hd, h1, toD_one]
    have e_2 : (toL (((mkRat n d).num).natAbs)) = (toL ((n.natAbs) / (Nat.gcd (n.natAbs) d))) := congrArg Raw.mag e_1
    have e_3 : (toD ((mkRat n d).den)) = ([] : List Nat) := congrArg Raw.den e_1
    refine J.also (fRat (⟨y6.1, saNil⟩ : RA) (⟨decide (n < 0), toL ((n.natAbs) / (Nat.gcd (n.natAbs) d)), ([] : List Nat)⟩ : Raw)) (fun w h => ⟨(h _ (.tail _ ((.tail _ ((.tail _ ((.head _)))))))), fU_nil w⟩) ?_
    refine J.ret (KR.ret (v := ratV (⟨y6.1, saNil⟩ : RA) (⟨decide (n < 0), toL ((n.natAbs) / (Nat.gcd (n.natAbs) d)), ([] : List Nat)⟩ : Raw)) (⟨y6.1, saNil⟩) [some 0] [0] [b4, b4, b4] k_ (by first | rfl | (rw [e_1]; done) | (simp only [e_1]; done) | (rw [e_2, e_3]; done) | (rw [e_1, e_2, e_3]; rfl) | (simp only [e_1, e_2, e_3]; done) | (simp only [e_1, e_2, e_3]; rfl)) (trivial) (by first | rfl | (rw [e_1]; done) | (simp only [e_1]; done) | (rw [e_2, e_3]; done) | (rw [e_1, e_2, e_3]; rfl) | (simp only [e_1, e_2, e_3]; done) | (simp only [e_1, e_2, e_3]; rfl)))
  · skip
    replace c10 := ne_of_beq_false c10
    have h1 := mt cmpN_zero.2 c10
    refine J.skip ?_
    refine KN.next ?_
    refine J.sreg ?_
    refine RN.bat [none, some 1, none, none, none, none, some 0] [4] [b4, b4, b4, b3] (k' := 7) (l' := [(4, pt b4)]) (M' := [(b4, .cells (ratC (⟨y6.1, y7.1⟩ : RA) (⟨decide (n < 0), toL ((n.natAbs) / (Nat.gcd (n.natAbs) d)), toL (d / (Nat.gcd (n.natAbs) d))⟩ : Raw)) 27 (0, 0)), (b3, .cells #[.bool (decide (n < 0)), sl s (toL (n.natAbs)).length] 25 (0, 0))]) k_ ?_
    refine RN.done k_ ?_
    refine KN.next ?_
    have e_1 : (encQ (mkRat n d)) = (⟨decide (n < 0), toL ((n.natAbs) / (Nat.gcd (n.natAbs) d)), toL (d / (Nat.gcd (n.natAbs) d))⟩ : Raw) := by rw [low_enc hd, toD_ne h1]
    have e_2 : (toL (((mkRat n d).num).natAbs)) = (toL ((n.natAbs) / (Nat.gcd (n.natAbs) d))) := congrArg Raw.mag e_1
    have e_3 : (toD ((mkRat n d).den)) = (toL (d / (Nat.gcd (n.natAbs) d))) := congrArg Raw.den e_1
    refine J.also (fRat (⟨y6.1, y7.1⟩ : RA) (⟨decide (n < 0), toL ((n.natAbs) / (Nat.gcd (n.natAbs) d)), toL (d / (Nat.gcd (n.natAbs) d))⟩ : Raw)) (fun w h => ⟨(h _ (.tail _ ((.tail _ ((.tail _ ((.head _)))))))), (h _ (.tail _ ((.head _))))⟩) ?_
    refine J.ret (KR.ret (v := ratV (⟨y6.1, y7.1⟩ : RA) (⟨decide (n < 0), toL ((n.natAbs) / (Nat.gcd (n.natAbs) d)), toL (d / (Nat.gcd (n.natAbs) d))⟩ : Raw)) (⟨y6.1, y7.1⟩) [some 0] [0] [b4, b4, b4] k_ (by first | rfl | (rw [e_1]; done) | (simp only [e_1]; done) | (rw [e_2, e_3]; done) | (rw [e_1, e_2, e_3]; rfl) | (simp only [e_1, e_2, e_3]; done) | (simp only [e_1, e_2, e_3]; rfl)) (trivial) (by first | rfl | (rw [e_1]; done) | (simp only [e_1]; done) | (rw [e_2, e_3]; done) | (rw [e_1, e_2, e_3]; rfl) | (simp only [e_1, e_2, e_3]; done) | (simp only [e_1, e_2, e_3]; rfl)))
theorem rational_times (s : SA) (n : Int) (t : SA) (d : Nat) (hln : (toL (n.natAbs)).length ≤ 549755813888) (hld : (toL d).length ≤ 549755813888) : Spec Tryz.prog 84 #[intV s (encZ n), sl t (toL d).length] [fU s (toL (n.natAbs)), fU t (toL d)] (ι := SA) (fun y => intV y (encZ (n * ((d : Nat) : Int)))) (fun y => True) (fun y => [fU y (toL ((n * ((d : Nat) : Int)).natAbs))]) := by
  refine Spec.of_body _ (fn := Tryz.f84) k_ rfl k_ (fun X w0 => ?_)
  refine J.fact (φ := (toL (n.natAbs)).length ≤ 140737488355328) (fun w h => by have := (h _ (.head _)).1; omega) (fun hl1 => ?_)
  refine J.fact (φ := (toL d).length ≤ 140737488355328) (fun w h => by have := (h _ (.tail _ ((.head _)))).1; omega) (fun hl2 => ?_)
  refine J.sreg ?_
  refine RN.new (fun b => pt b) (.cells #[.bool (decide (n < 0)), sl s (toL (n.natAbs)).length] 25 (0, 0)) k_ k_ (fun w => by kernel_rfl) (fun b3 => ?_)
  refine RN.new (fun b => pt b) (.cells #[.bool false, sl saNil ([] : List Nat).length] 25 (0, 0)) k_ k_ (fun w => by kernel_rfl) (fun b4 => ?_)
  refine RN.done k_ ?_
  refine KN.next ?_
  refine J.sreg ?_
  refine RN.bq [some 1, none, none] [4, 5, 7] [b3, b3] (k' := 3) (l' := [(4, pt b4), (5, intV s (encZ n)), (7, intV t (encZ ((d : Nat) : Int)))]) k_ ?_
  refine RN.call (integer_Mul_c s n t ((d : Nat) : Int) y_ y_) [0, 1] k_ k_ k_ rfl (fun y5 _ => ?_)
  refine RN.bat [some 0] [4] [b4, b4] (k' := 5) (l' := [(4, pt b4)]) (M' := [(b4, .cells #[.bool (decide ((n * ((d : Nat) : Int)) < 0)), sl y5 (toL ((n * ((d : Nat) : Int)).natAbs)).length] 25 (0, 0)), (b3, .cells #[.bool (decide (n < 0)), sl s (toL (n.natAbs)).length] 25 (0, 0))]) k_ ?_
  refine RN.done k_ ?_
  refine KN.next ?_
  refine J.ret (KR.ret (v := intV y5 (encZ (n * ((d : Nat) : Int)))) (y5) [some 0] [0] [b4, b4] k_ rfl (trivial) rfl)
theorem y_rational_Make {p : Prop} (h : p := by first | assumption | exact Lb_toL _ | omega | (simp; done) | first | (rw [Int.natAbs_neg]; assumption) | omega) : p := h
theorem rational_Make (s : SA) (n : Int) (t : SA) (d : Int) (hln : (toL (n.natAbs)).length ≤ 1099511627776) (hld : (toL (d.natAbs)).length ≤ 1099511627776) : Spec Tryz.prog 130 #[intV s (encZ n), intV t (encZ d)] [fU s (toL (n.natAbs)), fU t (toL (d.natAbs))] (ι := RA) (fun y => .tuple #[ratV y (encQ (((n : Int) : Rat) / ((d : Int) : Rat))), .int .i64 (if d = 0 then 5 else 0)]) (fun y => True) (fun y => [fRat y (encQ (((n : Int) : Rat) / ((d : Int) : Rat)))]) := by
  refine Spec.of_body _ (fn := Tryz.f130) k_ rfl k_ (fun X w0 => ?_)
  refine J.fact (φ := (toL (n.natAbs)).length ≤ 140737488355328) (fun w h => by have := (h _ (.head _)).1; omega) (fun hl1 => ?_)
  refine J.fact (φ := (toL (d.natAbs)).length ≤ 140737488355328) (fun w h => by have := (h _ (.tail _ ((.head _)))).1; omega) (fun hl2 => ?_)
  refine J.sreg ?_
  refine RN.new (fun b => pt b) (.cells #[.bool (decide (n < 0)), sl s (toL (n.natAbs)).length] 25 (0, 0)) k_ k_ (fun w => by kernel_rfl) (fun b3 => ?_)
  refine RN.new (fun b => pt b) (.cells #[.bool (decide (d < 0)), sl t (toL (d.natAbs)).length] 25 (0, 0)) k_ k_ (fun w => by kernel_rfl) (fun b4 => ?_)
  refine RN.new (fun b => pt b) (.cells (ratC (⟨saNil, saNil⟩ : RA) (⟨false, ([] : List Nat), ([] : List Nat)⟩ : Raw)) 27 (0, 0)) k_ k_ (fun w => by kernel_rfl) (fun b5 => ?_)
  refine RN.bq (no 1) [2, 3, 4] [] (k' := 4) (l' := [(2, pt b3), (3, pt b4), (4, pt b5)]) k_ ?_
  refine RN.done k_ ?_
  refine KN.next ?_
  refine J.seq ?_
  refine J.sreg ?_
  refine RN.bq [some 1] [2, 3, 4, 6] [b4, b4] (k' := 1) (l' := [(2, pt b3), (3, pt b4), (4, pt b5), (6, intV t (encZ d))]) k_ ?_
  refine RN.call (integer_Sign_c t d) [1] k_ k_ k_ rfl (fun y6 _ => ?_)
  refine RN.bq (no 1) [2, 3, 4, 8] [] (k' := 3) (l' := [(2, pt b3), (3, pt b4), (4, pt b5), (8, .bool (((Int.sign d) : Int) == 0))]) k_ ?_
  refine RN.done k_ ?_
  refine KN.next ?_
  refine J.cond (((Int.sign d) : Int) == 0) k_ (fun c7 => ?_) (fun c7 => ?_)
  · skip
    replace c7 := eq_of_beq c7
    have h0 := Int.sign_eq_zero_iff_zero.1 c7
    refine J.sreg ?_
    refine RN.bat [none, some 0, none] [4, 5] [b5, b5, b5] (k' := 3) (l' := [(4, pt b5), (5, .int .i64 5)]) (M' := [(b5, .cells (ratC (⟨saNil, saNil⟩ : RA) (⟨false, ([] : List Nat), ([] : List Nat)⟩ : Raw)) 27 (0, 0)), (b4, .cells #[.bool (decide (d < 0)), sl t (toL (d.natAbs)).length] 25 (0, 0)), (b3, .cells #[.bool (decide (n < 0)), sl s (toL (n.natAbs)).length] 25 (0, 0))]) k_ ?_
    refine RN.done k_ ?_
    refine KN.next ?_
    have e_1 : (encQ (((n : Int) : Rat) / ((d : Int) : Rat))) = (⟨false, ([] : List Nat), ([] : List Nat)⟩ : Raw) := by first | (rw [h0, show ((0 : Int) : Rat) = 0 from rfl, Rat.div_def, Rat.inv_zero, Rat.mul_zero, encQ_zero]; done) | simp [h0]
    have e_2 : (toL (((((n : Int) : Rat) / ((d : Int) : Rat)).num).natAbs)) = ([] : List Nat) := congrArg Raw.mag e_1
    have e_3 : (toD ((((n : Int) : Rat) / ((d : Int) : Rat)).den)) = ([] : List Nat) := congrArg Raw.den e_1
    have e_4 : (if d = 0 then 5 else 0 : Int) = (5 : Int) := by first | (rw [h0, show ((0 : Int) : Rat) = 0 from rfl, Rat.div_def, Rat.inv_zero, Rat.mul_zero, encQ_zero]; done) | simp [h0]
    refine J.also (fRat (⟨saNil, saNil⟩ : RA) (⟨false, ([] : List Nat), ([] : List Nat)⟩ : Raw)) (fun w h => ⟨fU_nil w, fU_nil w⟩) ?_
    refine J.ret (KR.next (KR.ret (v := .tuple #[ratV (⟨saNil, saNil⟩ : RA) (⟨false, ([] : List Nat), ([] : List Nat)⟩ : Raw), .int .i64 5]) (⟨saNil, saNil⟩) [some 0, none] [0] [b5, b5, b5] k_ (by first | rfl | (rw [e_1, e_4]; done) | (simp only [e_1, e_4]; done) | (rw [e_2, e_3]; done) | (rw [e_1, e_2, e_3, e_4]; rfl) | (simp only [e_1, e_2, e_3, e_4]; done) | (simp only [e_1, e_2, e_3, e_4]; rfl)) (trivial) (by first | rfl | (rw [e_1, e_4]; done) | (simp only [e_1, e_4]; done) | (rw [e_2, e_3]; done) | (rw [e_1, e_2, e_3, e_4]; rfl) | (simp only [e_1, e_2, e_3, e_4]; done) | (simp only [e_1, e_2, e_3, e_4]; rfl))))
  · skip
    replace c7 := ne_of_beq_false c7
    have h0 : d ≠ 0 := fun h => c7 (by rw [h]; rfl)
    refine J.skip ?_
    refine KN.next ?_
    refine J.seq ?_
    refine J.sreg ?_
    refine RN.bq [some 1] [2, 3, 4, 10] [b4, b4] (k' := 1) (l' := [(2, pt b3), (3, pt b4), (4, pt b5), (10, intV t (encZ d))]) k_ ?_
    refine RN.call (integer_Sign_c t d) [1] k_ k_ k_ rfl (fun y8 _ => ?_)
    refine RN.bq (no 1) [2, 3, 4, 12] [] (k' := 3) (l' := [(2, pt b3), (3, pt b4), (4, pt b5), (12, .bool (decide ((Int.sign d) < 0)))]) k_ ?_
    refine RN.done k_ ?_
    refine KN.next ?_
    refine J.cond (decide ((Int.sign d) < 0)) k_ (fun c9 => ?_) (fun c9 => ?_)
    · skip
      replace c9 := of_decide_eq_true c9
      have h1 := sign_lt0 c9
      refine J.regN ?_
      refine RN.bq [some 2] [2, 3, 4, 13] [b3, b3] (k' := 1) (l' := [(2, pt b3), (3, pt b4), (4, pt b5), (13, intV s (encZ n))]) k_ ?_
      refine RN.call (integer_Neg_c s n y_rational_Make) [0] k_ k_ k_ rfl (fun y10 _ => ?_)
      refine RN.bat [some 2] [2, 3, 4] [b3, b3] (k' := 3) (l' := [(2, pt b3), (3, pt b4), (4, pt b5)]) (M' := [(b5, .cells (ratC (⟨saNil, saNil⟩ : RA) (⟨false, ([] : List Nat), ([] : List Nat)⟩ : Raw)) 27 (0, 0)), (b4, .cells #[.bool (decide (d < 0)), sl t (toL (d.natAbs)).length] 25 (0, 0)), (b3, .cells #[.bool (decide ((-n) < 0)), sl y10 (toL ((-n).natAbs)).length] 25 (0, 0))]) k_ ?_
      refine RN.done k_ ?_
      refine KN.next ?_
      refine J.seq ?_
      refine J.regD k_ [6] ?_
      refine RD.bat k_ [(0, some 2), (1, none), (3, none), (4, some 1)] [4, 15, 16, 19] [b4, b3, b3] (L' := [4, 3, 1, 0]) (l' := [(4, pt b5), (15, intV y10 (encZ (-n))), (16, intV saNil (⟨false, ([] : List Nat)⟩ : RawI)), (19, sl t (toL (d.natAbs)).length)]) k_ ?_
      refine RD.also (fU saNil ([] : List Nat)) (fun w h => fU_nil w) k_ ?_
      refine RD.call (i := 2) (integer_Add_nil y10 (-n) y_rational_Make) [1, 0] k_ k_ k_ k_ k_ rfl (fun y11 _ => ?_)
      refine RD.call (i := 5) (rational_lowest y11 (-n) t (d.natAbs) y_rational_Make y_rational_Make y_rational_Make) [0, 4] k_ k_ k_ k_ k_ rfl (fun y12 _ => ?_)
      refine RD.last (i := 6) (some 0) [4] [b5, b5, b5] k_ k_ k_ (l' := [(4, pt b5)]) (M' := [(b5, .cells (ratC y12 (encQ (mkRat (-n) (d.natAbs)))) 27 (0, 0)), (b4, .cells #[.bool (decide (d < 0)), sl t (toL (d.natAbs)).length] 25 (0, 0)), (b3, .cells #[.bool (decide ((-n) < 0)), sl y10 (toL ((-n).natAbs)).length] 25 (0, 0))]) k_ ?_
      refine RD.bat k_ [(7, none)] [4, 5] [] (L' := [7, 6, 5, 2, 4, 3, 1, 0]) (l' := [(4, pt b5), (5, .int .i64 0)]) k_ ?_
      refine RD.done k_ ?_
      refine KN.next ?_
      have e_1 : (encQ (((n : Int) : Rat) / ((d : Int) : Rat))) = (encQ (mkRat (-n) (d.natAbs))) := by first | (rw [mk_neg h1]; done) | (rw [if_neg h0])
      have e_2 : (if d = 0 then 5 else 0 : Int) = (0 : Int) := by first | (rw [mk_neg h1]; done) | (rw [if_neg h0])
      refine J.ret (KR.ret (v := .tuple #[ratV y12 (encQ (mkRat (-n) (d.natAbs))), .int .i64 0]) (y12) [some 0, none] [0] [b5, b5, b5] k_ v2_ (trivial) v2_)
    · skip
      replace c9 := of_decide_eq_false c9
      have h1 := sign_nlt0 c9 h0
      refine J.skip ?_
      refine KN.next ?_
      refine J.seq ?_
      refine J.regD k_ [6] ?_
      refine RD.bat k_ [(0, some 2), (1, none), (3, none), (4, some 1)] [4, 15, 16, 19] [b4, b3, b3] (L' := [4, 3, 1, 0]) (l' := [(4, pt b5), (15, intV s (encZ n)), (16, intV saNil (⟨false, ([] : List Nat)⟩ : RawI)), (19, sl t (toL (d.natAbs)).length)]) k_ ?_
      refine RD.also (fU saNil ([] : List Nat)) (fun w h => fU_nil w) k_ ?_
      refine RD.call (i := 2) (integer_Add_nil s n y_rational_Make) [1, 0] k_ k_ k_ k_ k_ rfl (fun y13 _ => ?_)
      refine RD.call (i := 5) (rational_lowest y13 n t (d.natAbs) y_rational_Make y_rational_Make y_rational_Make) [0, 3] k_ k_ k_ k_ k_ rfl (fun y14 _ => ?_)
      refine RD.last (i := 6) (some 0) [4] [b5, b5, b5] k_ k_ k_ (l' := [(4, pt b5)]) (M' := [(b5, .cells (ratC y14 (encQ (mkRat n (d.natAbs)))) 27 (0, 0)), (b4, .cells #[.bool (decide (d < 0)), sl t (toL (d.natAbs)).length] 25 (0, 0)), (b3, .cells #[.bool (decide (n < 0)), sl s (toL (n.natAbs)).length] 25 (0, 0))]) k_ ?_
      refine RD.bat k_ [(7, none)] [4, 5] [] (L' := [7, 6, 5, 2, 4, 3, 1, 0]) (l' := [(4, pt b5), (5, .int .i64 0)]) k_ ?_
      refine RD.done k_ ?_
      refine KN.next ?_
      have e_1 : (encQ (((n : Int) : Rat) / ((d : Int) : Rat))) = (encQ (mkRat n (d.natAbs))) := by first | (rw [mk_pos h1]; done) | (rw [if_neg h0])
      have e_2 : (if d = 0 then 5 else 0 : Int) = (0 : Int) := by first | (rw [mk_pos h1]; done) | (rw [if_neg h0])
      refine J.ret (KR.ret (v := .tuple #[ratV y14 (encQ (mkRat n (d.natAbs))), .int .i64 0]) (y14) [some 0, none] [0] [b5, b5, b5] k_ v2_ (trivial) v2_)
theorem cmpN_beq (a b : Nat) : (cmpN a b == 0) = decide (a = b) := by
  rw [Bool.eq_iff_iff]; simp [cmpN_zero]
theorem validZ_mag {z : RawI} (h : validZ z = true) : validU z.mag = true := by
  unfold validZ at h; simp only [Bool.and_eq_true] at h; exact h.1
theorem rational_Valid (p : RA) (r : Raw) (hm : Lb r.mag) (hd : Lb r.den) (hml : r.mag.length ≤ 1099511627776) (hdl : r.den.length ≤ 1099511627776) : Spec Tryz.prog 110 #[ratV p r] [fRat p r] (ι := Unit) (fun y => .bool (validQ r)) (fun y => True) (fun y => []) := by
  refine Spec.of_body _ (fn := Tryz.f110) k_ rfl k_ (fun X w0 => ?_)
  refine J.fact (φ := r.mag.length ≤ 140737488355328 ∧ r.den.length ≤ 140737488355328) (fun w h => by have h1 := (h _ (.head _)).1.1; have h2 := (h _ (.head _)).2.1; omega) (fun hl1 => ?_)
  refine J.sreg ?_
  refine RN.new (fun b => pt b) (.cells (ratC p r) 27 (0, 0)) k_ k_ (fun w => by kernel_rfl) (fun b2 => ?_)
  refine RN.bq (no 1) [1] [] (k' := 2) (l' := [(1, pt b2)]) k_ ?_
  refine RN.done k_ ?_
  refine KN.next ?_
  refine J.seq ?_
  refine J.block ?_
  refine J.sreg ?_
  refine RN.bq [none, some 0] [1, 5] [b2, b2] (k' := 2) (l' := [(1, pt b2), (5, intV p.mag (⟨r.neg, r.mag⟩ : RawI))]) k_ ?_
  refine RN.also (fU p.mag r.mag) (fun w h => (h _ (.head _)).1) ?_
  refine RN.call (integer_Valid p.mag ⟨r.neg, r.mag⟩) [0] k_ k_ k_ rfl (fun y3 _ => ?_)
  refine RN.bq (no 2) [1, 8] [] (k' := 5) (l' := [(1, pt b2), (8, .bool (!(validZ (⟨r.neg, r.mag⟩ : RawI))))]) k_ ?_
  refine RN.split 8 (!(validZ (⟨r.neg, r.mag⟩ : RawI))) k_ (fun c4 => ?_) (fun c4 => ?_)
  · skip
    refine RN.bq (no 6) [1, 3] [] (k' := 11) (l' := [(1, pt b2), (3, .bool true)]) k_ ?_
    refine RN.done k_ ?_
    refine KN.next ?_
    refine J.condT k_ ?_
    refine J.sreg ?_
    refine RN.bq (no 1) [2] [] (k' := 1) (l' := [(2, .bool false)]) k_ ?_
    refine RN.done k_ ?_
    refine KN.next ?_
    have e_1 : (validQ r) = false := by simp_all [validQ, nv_toL, nv_of_valid, cmpN_zero, cmpN_beq]
    refine J.ret (KR.blk (KR.next (KR.ret (v := .bool false) (()) [none] [] [] k_ v1_ (trivial) v1_)))
  · skip
    refine RN.bq [none, some 0] [1, 8, 10] [b2] (k' := 7) (l' := [(1, pt b2), (8, .bool false), (10, sl (p.den) (r.den).length)]) k_ ?_
    refine RN.also (fU (p.den) (r.den)) (fun w h => (h _ (.tail _ ((.head _)))).2) ?_
    refine RN.call (natural_Valid (p.den) (r.den)) [0] k_ k_ k_ rfl (fun y5 _ => ?_)
    refine RN.bq (no 3) [1, 3] [] (k' := 11) (l' := [(1, pt b2), (3, .bool (!(validU (r.den))))]) k_ ?_
    refine RN.done k_ ?_
    refine KN.next ?_
    refine J.cond (!(validU (r.den))) k_ (fun c6 => ?_) (fun c6 => ?_)
    · skip
      refine J.sreg ?_
      refine RN.bq (no 1) [2] [] (k' := 1) (l' := [(2, .bool false)]) k_ ?_
      refine RN.done k_ ?_
      refine KN.next ?_
      have e_1 : (validQ r) = false := by simp_all [validQ, nv_toL, nv_of_valid, cmpN_zero, cmpN_beq]
      refine J.ret (KR.blk (KR.next (KR.ret (v := .bool false) (()) [none] [] [] k_ v1_ (trivial) v1_)))
    · skip
      refine J.sreg ?_
      refine RN.bq [none, some 0, none, none, none] [1, 14] [b2] (k' := 5) (l' := [(1, pt b2), (14, .bool (((((r.den).length : Nat) : Int) : Int) == 0))]) k_ ?_
      refine RN.done k_ ?_
      refine KN.next ?_
      refine J.cond (((((r.den).length : Nat) : Int) : Int) == 0) k_ (fun c7 => ?_) (fun c7 => ?_)
      · skip
        replace c7 := eq_of_beq c7
        refine J.sreg ?_
        refine RN.bq (no 1) [2] [] (k' := 1) (l' := [(2, .bool true)]) k_ ?_
        refine RN.done k_ ?_
        refine KN.next ?_
        have e_1 : (validQ r) = true := by simp_all [validQ, nv_toL, nv_of_valid, cmpN_zero, cmpN_beq]
        refine J.ret (KR.blk (KR.next (KR.ret (v := .bool true) (()) [none] [] [] k_ v1_ (trivial) v1_)))
      · skip
        replace c7 := ne_of_beq_false c7
        refine J.seq ?_
        refine J.regD k_ [] ?_
        refine RD.bat k_ [(0, none), (1, none), (2, some 0), (3, none), (4, none), (5, none)] [1, 25] [b2] (L' := [5, 4, 3, 2, 1, 0]) (l' := [(1, pt b2), (25, .bool ((((r.mag.length : Nat) : Int) : Int) == 0))]) k_ ?_
        refine RD.split (t := 25) ((((r.mag.length : Nat) : Int) : Int) == 0) k_ (fun c8 => ?_) (fun c8 => ?_)
        · skip
          replace c8 := eq_of_beq c8
          refine RD.bat k_ [(6, none), (7, none), (8, none), (9, none), (10, none), (11, none), (12, none)] [1, 19] [] (L' := [12, 11, 10, 9, 8, 7, 6, 5, 4, 3, 2, 1, 0]) (l' := [(1, pt b2), (19, .bool true)]) k_ ?_
          refine RD.done k_ ?_
          refine KN.next ?_
          refine J.condT k_ ?_
          refine J.sreg ?_
          refine RN.bq (no 1) [2] [] (k' := 1) (l' := [(2, .bool false)]) k_ ?_
          refine RN.done k_ ?_
          refine KN.next ?_
          have e_1 : (validQ r) = false := by simp_all [validQ, nv_toL, nv_of_valid, cmpN_zero, cmpN_beq]
          refine J.ret (KR.blk (KR.next (KR.ret (v := .bool false) (()) [none] [] [] k_ v1_ (trivial) v1_)))
        · skip
          replace c8 := ne_of_beq_false c8
          refine RD.bat k_ [(6, none), (7, some 0)] [1, 25, 27] [b2] (L' := [7, 6, 5, 4, 3, 2, 1, 0]) (l' := [(1, pt b2), (25, .bool false), (27, sl (p.den) (r.den).length)]) k_ ?_
          refine RD.call (i := 8) (rational_one) [] k_ k_ k_ k_ k_ rfl (fun y9 _ => ?_)
          refine RD.call (i := 9) (natural_Compare (p.den) (r.den) y9 (toL 1) y_ y_) [1, 0] k_ k_ k_ k_ k_ rfl (fun y10 _ => ?_)
          refine RD.bat k_ [(10, none), (11, none), (12, none)] [1, 19] [] (L' := [12, 11, 10, 9, 8, 7, 6, 5, 4, 3, 2, 1, 0]) (l' := [(1, pt b2), (19, .bool (((cmpN (nv (r.den)) (nv (toL 1))) : Int) == 0))]) k_ ?_
          refine RD.done k_ ?_
          refine KN.next ?_
          refine J.cond (((cmpN (nv (r.den)) (nv (toL 1))) : Int) == 0) k_ (fun c11 => ?_) (fun c11 => ?_)
          · skip
            replace c11 := eq_of_beq c11
            refine J.sreg ?_
            refine RN.bq (no 1) [2] [] (k' := 1) (l' := [(2, .bool false)]) k_ ?_
            refine RN.done k_ ?_
            refine KN.next ?_
            have e_1 : (validQ r) = false := by simp_all [validQ, nv_toL, nv_of_valid, cmpN_zero, cmpN_beq]
            refine J.ret (KR.blk (KR.next (KR.ret (v := .bool false) (()) [none] [] [] k_ v1_ (trivial) v1_)))
          · skip
            replace c11 := ne_of_beq_false c11
            refine J.skip ?_
            refine KN.blk ?_
            refine KN.next ?_
            refine J.sreg ?_
            refine RN.bq [none, none, some 0, none, some 0] [34, 36] [b2, b2] (k' := 5) (l' := [(34, sl p.mag r.mag.length), (36, sl (p.den) (r.den).length)]) k_ ?_
            refine RN.call (natural_Gcd p.mag r.mag (p.den) (r.den) y_ y_ y_ y_) [2, 1] k_ k_ k_ rfl (fun y12 _ => ?_)
            refine RN.call (rational_one) [] k_ k_ k_ rfl (fun y13 _ => ?_)
            refine RN.call (natural_Compare_c y12 (Nat.gcd (nv r.mag) (nv (r.den))) y13 1) [1, 0] k_ k_ k_ rfl (fun y14 _ => ?_)
            refine RN.bq (no 2) [2] [] (k' := 10) (l' := [(2, .bool (((cmpN (Nat.gcd (nv r.mag) (nv (r.den))) 1) : Int) == 0))]) k_ ?_
            refine RN.done k_ ?_
            refine KN.next ?_
            have e_1 : (validQ r) = (((cmpN (Nat.gcd (nv r.mag) (nv (r.den))) 1) : Int) == 0) := by (have hv := validZ_mag (z := ⟨r.neg, r.mag⟩) (by simpa using c4)); simp_all [validQ, nv_toL, nv_of_valid, cmpN_zero, cmpN_beq]
            refine J.ret (KR.ret (v := .bool (((cmpN (Nat.gcd (nv r.mag) (nv (r.den))) 1) : Int) == 0)) (()) [none] [] [] k_ v1_ (trivial) v1_)
theorem rational_value (p : RA) (r : Raw) (hr : RQ 268435456 r) : Spec Tryz.prog 82 #[ratV p r] [fRat p r] (ι := RA) (fun y => ratV y (encQ (qv r))) (fun y => True) (fun y => [fRat y (encQ (qv r))]) := by
  refine Spec.of_body _ (fn := Tryz.f82) k_ rfl k_ (fun X w0 => ?_)
  refine J.fact (φ := r.mag.length ≤ 140737488355328 ∧ r.den.length ≤ 140737488355328) (fun w h => by have h1 := (h _ (.head _)).1.1; have h2 := (h _ (.head _)).2.1; omega) (fun hl1 => ?_)
  obtain ⟨hm, hd, hml, hdl, hq⟩ := hr
  refine J.sreg ?_
  refine RN.new (fun b => pt b) (.cells (ratC p r) 27 (0, 0)) k_ k_ (fun w => by kernel_rfl) (fun b2 => ?_)
  refine RN.new (fun b => pt b) (.cells (ratC (⟨saNil, saNil⟩ : RA) (⟨false, ([] : List Nat), ([] : List Nat)⟩ : Raw)) 27 (0, 0)) k_ k_ (fun w => by kernel_rfl) (fun b3 => ?_)
  refine RN.done k_ ?_
  refine KN.next ?_
  refine J.seq ?_
  refine J.sreg ?_
  refine RN.bq [some 1] [1, 2, 3] [b2, b2, b2] (k' := 1) (l' := [(1, pt b2), (2, pt b3), (3, ratV p r)]) k_ ?_
  refine RN.call (rational_Valid p r y_ y_ y_ y_) [0] k_ k_ k_ rfl (fun y4 _ => ?_)
  refine RN.done k_ ?_
  refine KN.next ?_
  refine J.cond (validQ r) k_ (fun c5 => ?_) (fun c5 => ?_)
  · skip
    refine J.sreg ?_
    refine RN.bat [some 1, some 0] [2] [b3, b3, b3, b2, b2, b2] (k' := 2) (l' := [(2, pt b3)]) (M' := [(b3, .cells (ratC p r) 27 (0, 0)), (b2, .cells (ratC p r) 27 (0, 0))]) k_ ?_
    refine RN.done k_ ?_
    refine KN.next ?_
    have e_1 : (encQ (qv r)) = r := by exact encQ_qv hm hd ‹_›
    have e_2 : (toL (((qv r).num).natAbs)) = r.mag := congrArg Raw.mag e_1
    have e_3 : (toD ((qv r).den)) = (r.den) := congrArg Raw.den e_1
    refine J.ret (KR.next (KR.ret (v := ratV p r) (p) [some 0] [0] [b3, b3, b3] k_ (by first | rfl | (rw [e_1]; done) | (simp only [e_1]; done) | (rw [e_2, e_3]; done) | (rw [e_1, e_2, e_3]; rfl) | (simp only [e_1, e_2, e_3]; done) | (simp only [e_1, e_2, e_3]; rfl)) (trivial) (by first | rfl | (rw [e_1]; done) | (simp only [e_1]; done) | (rw [e_2, e_3]; done) | (rw [e_1, e_2, e_3]; rfl) | (simp only [e_1, e_2, e_3]; done) | (simp only [e_1, e_2, e_3]; rfl))))
  · skip
    refine J.skip ?_
    refine KN.next ?_
    refine J.sreg ?_
    refine RN.bat [none, some 0] [2] [b3, b3, b3] (k' := 2) (l' := [(2, pt b3)]) (M' := [(b3, .cells (ratC (⟨saNil, saNil⟩ : RA) (⟨false, ([] : List Nat), ([] : List Nat)⟩ : Raw)) 27 (0, 0)), (b2, .cells (ratC p r) 27 (0, 0))]) k_ ?_
    refine RN.done k_ ?_
    refine KN.next ?_
    have e_1 : (encQ (qv r)) = (⟨false, ([] : List Nat), ([] : List Nat)⟩ : Raw) := by exact encQ_qv_f ‹_›
    have e_2 : (toL (((qv r).num).natAbs)) = ([] : List Nat) := congrArg Raw.mag e_1
    have e_3 : (toD ((qv r).den)) = ([] : List Nat) := congrArg Raw.den e_1
    refine J.also (fRat (⟨saNil, saNil⟩ : RA) (⟨false, ([] : List Nat), ([] : List Nat)⟩ : Raw)) (fun w h => ⟨fU_nil w, fU_nil w⟩) ?_
    refine J.ret (KR.ret (v := ratV (⟨saNil, saNil⟩ : RA) (⟨false, ([] : List Nat), ([] : List Nat)⟩ : Raw)) (⟨saNil, saNil⟩) [some 0] [0] [b3, b3, b3] k_ (by first | rfl | (rw [e_1]; done) | (simp only [e_1]; done) | (rw [e_2, e_3]; done) | (rw [e_1, e_2, e_3]; rfl) | (simp only [e_1, e_2, e_3]; done) | (simp only [e_1, e_2, e_3]; rfl)) (trivial) (by first | rfl | (rw [e_1]; done) | (simp only [e_1]; done) | (rw [e_2, e_3]; done) | (rw [e_1, e_2, e_3]; rfl) | (simp only [e_1, e_2, e_3]; done) | (simp only [e_1, e_2, e_3]; rfl)))
theorem rational_FromInt (v : Int) (h1 : -9223372036854775808 ≤ v) (h2 : v < 9223372036854775808) : Spec Tryz.prog 79 #[.int .i64 v] [] (ι := RA) (fun y => ratV y (encQ ((v : Int) : Rat))) (fun y => True) (fun y => [fRat y (encQ ((v : Int) : Rat))]) := by
  refine Spec.of_body _ (fn := Tryz.f79) k_ rfl k_ (fun X w0 => ?_)
  refine J.sreg ?_
  refine RN.new (fun b => pt b) (.cells (ratC (⟨saNil, saNil⟩ : RA) (⟨false, ([] : List Nat), ([] : List Nat)⟩ : Raw)) 27 (0, 0)) k_ k_ (fun w => by kernel_rfl) (fun b1 => ?_)
  refine RN.done k_ ?_
  refine KN.next ?_
  refine J.sreg ?_
  refine RN.bq (no 1) [2, 3] [] (k' := 1) (l' := [(2, pt b1), (3, .int .i64 v)]) k_ ?_
  refine RN.call (integer_FromInt v y_ y_) [] k_ k_ k_ rfl (fun y2 _ => ?_)
  refine RN.bat [none, some 0] [2] [b1, b1, b1] (k' := 4) (l' := [(2, pt b1)]) (M' := [(b1, .cells (ratC (⟨y2, saNil⟩ : RA) (⟨decide (v < 0), toL (v.natAbs), ([] : List Nat)⟩ : Raw)) 27 (0, 0))]) k_ ?_
  refine RN.done k_ ?_
  refine KN.next ?_
  have e_1 : (encQ ((v : Int) : Rat)) = (⟨decide (v < 0), toL (v.natAbs), ([] : List Nat)⟩ : Raw) := by rfl
  have e_2 : (toL ((((v : Int) : Rat).num).natAbs)) = (toL (v.natAbs)) := congrArg Raw.mag e_1
  have e_3 : (toD (((v : Int) : Rat).den)) = ([] : List Nat) := congrArg Raw.den e_1
  refine J.also (fRat (⟨y2, saNil⟩ : RA) (⟨decide (v < 0), toL (v.natAbs), ([] : List Nat)⟩ : Raw)) (fun w h => ⟨(h _ (.head _)), fU_nil w⟩) ?_
  refine J.ret (KR.ret (v := ratV (⟨y2, saNil⟩ : RA) (⟨decide (v < 0), toL (v.natAbs), ([] : List Nat)⟩ : Raw)) (⟨y2, saNil⟩) [some 0] [0] [b1, b1, b1] k_ (by first | rfl | (rw [e_1]; done) | (simp only [e_1]; done) | (rw [e_2, e_3]; done) | (rw [e_1, e_2, e_3]; rfl) | (simp only [e_1, e_2, e_3]; done) | (simp only [e_1, e_2, e_3]; rfl)) (trivial) (by first | rfl | (rw [e_1]; done) | (simp only [e_1]; done) | (rw [e_2, e_3]; done) | (rw [e_1, e_2, e_3]; rfl) | (simp only [e_1, e_2, e_3]; done) | (simp only [e_1, e_2, e_3]; rfl)))
theorem rational_Sign (p : RA) (r : Raw) (hr : RQ 268435456 r) : Spec Tryz.prog 47 #[ratV p r] [fRat p r] (ι := Unit) (fun y => .int .i64 (Int.sign ((qv r).num))) (fun y => True) (fun y => []) := by
  refine Spec.of_body _ (fn := Tryz.f47) k_ rfl k_ (fun X w0 => ?_)
  refine J.fact (φ := r.mag.length ≤ 140737488355328 ∧ r.den.length ≤ 140737488355328) (fun w h => by have h1 := (h _ (.head _)).1.1; have h2 := (h _ (.head _)).2.1; omega) (fun hl1 => ?_)
  refine J.sreg ?_
  refine RN.new (fun b => pt b) (.cells (ratC p r) 27 (0, 0)) k_ k_ (fun w => by kernel_rfl) (fun b2 => ?_)
  refine RN.bq (no 1) [1] [] (k' := 2) (l' := [(1, pt b2)]) k_ ?_
  refine RN.done k_ ?_
  refine KN.next ?_
  refine J.sreg ?_
  refine RN.bq [some 0] [3] [b2, b2, b2] (k' := 1) (l' := [(3, ratV p r)]) k_ ?_
  refine RN.call (rational_value p r y_) [0] k_ k_ k_ rfl (fun y3 _ => ?_)
  refine RN.bq (no 1) [5] [] (k' := 3) (l' := [(5, intV y3.mag (encZ ((qv r).num)))]) k_ ?_
  refine RN.also (fU y3.mag (toL (((qv r).num).natAbs))) (fun w h => (h _ (.head _)).1) ?_
  refine RN.call (integer_Sign_c y3.mag ((qv r).num)) [0] k_ k_ k_ rfl (fun y4 _ => ?_)
  refine RN.bq (no 1) [2] [] (k' := 5) (l' := [(2, .int .i64 (Int.sign ((qv r).num)))]) k_ ?_
  refine RN.done k_ ?_
  refine KN.next ?_
  refine J.ret (KR.ret (v := .int .i64 (Int.sign ((qv r).num))) (()) [none] [] [] k_ rfl (trivial) rfl)
theorem rational_Neg (p : RA) (r : Raw) (hr : RQ 268435456 r) : Spec Tryz.prog 86 #[ratV p r] [fRat p r] (ι := RA) (fun y => ratV y (encQ (-(qv r)))) (fun y => True) (fun y => [fRat y (encQ (-(qv r)))]) := by
  refine Spec.of_body _ (fn := Tryz.f86) k_ rfl k_ (fun X w0 => ?_)
  refine J.fact (φ := r.mag.length ≤ 140737488355328 ∧ r.den.length ≤ 140737488355328) (fun w h => by have h1 := (h _ (.head _)).1.1; have h2 := (h _ (.head _)).2.1; omega) (fun hl1 => ?_)
  have hq := hr.2.2.2.2
  have hq1 := hq.1
  have hq2 := Nat.le_trans (toD_le (qv r).den) hq.2
  refine J.sreg ?_
  refine RN.new (fun b => pt b) (.cells (ratC p r) 27 (0, 0)) k_ k_ (fun w => by kernel_rfl) (fun b2 => ?_)
  refine RN.new (fun b => pt b) (.cells (ratC (⟨saNil, saNil⟩ : RA) (⟨false, ([] : List Nat), ([] : List Nat)⟩ : Raw)) 27 (0, 0)) k_ k_ (fun w => by kernel_rfl) (fun b3 => ?_)
  refine RN.done k_ ?_
  refine KN.next ?_
  refine J.sreg ?_
  refine RN.bq [some 1] [1, 2, 3] [b2, b2, b2] (k' := 1) (l' := [(1, pt b2), (2, pt b3), (3, ratV p r)]) k_ ?_
  refine RN.call (rational_value p r y_) [0] k_ k_ k_ rfl (fun y4 _ => ?_)
  refine RN.bat [some 1] [1, 2] [b2, b2, b2] (k' := 3) (l' := [(1, pt b2), (2, pt b3)]) (M' := [(b3, .cells (ratC (⟨saNil, saNil⟩ : RA) (⟨false, ([] : List Nat), ([] : List Nat)⟩ : Raw)) 27 (0, 0)), (b2, .cells (ratC y4 (encQ (qv r))) 27 (0, 0))]) k_ ?_
  refine RN.done k_ ?_
  refine KN.next ?_
  refine J.seq ?_
  refine J.regD k_ [7] ?_
  refine RD.bat k_ [(0, none), (1, some 1), (3, none), (4, some 1)] [2, 6, 9] [b2, b2, b2] (L' := [4, 3, 1, 0]) (l' := [(2, pt b3), (6, intV y4.mag (encZ ((qv r).num))), (9, sl (y4.den) (toD ((qv r).den)).length)]) k_ ?_
  refine RD.also (fU y4.mag (toL (((qv r).num).natAbs))) (fun w h => (h _ (.head _)).1) k_ ?_
  refine RD.call (i := 2) (integer_Neg_c y4.mag ((qv r).num) y_) [0] k_ k_ k_ k_ k_ rfl (fun y5 _ => ?_)
  refine RD.also (fU (y4.den) (toD ((qv r).den))) (fun w h => (h _ (.tail _ ((.tail _ ((.head _)))))).2) k_ ?_
  refine RD.also (fU saNil ([] : List Nat)) (fun w h => fU_nil w) k_ ?_
  refine RD.call (i := 5) (natural_AddD_nil (y4.den) ((qv r).den) y_) [1, 0] k_ k_ k_ k_ k_ rfl (fun y6 _ => ?_)
  refine RD.bat k_ [(6, none)] [2, 11] [] (L' := [6, 5, 2, 4, 3, 1, 0]) (l' := [(2, pt b3), (11, ratV (⟨y5, y6⟩ : RA) (⟨decide ((-((qv r).num)) < 0), toL ((-((qv r).num)).natAbs), toD ((qv r).den)⟩ : Raw))]) k_ ?_
  refine RD.last (i := 7) (some 0) [2] [b3, b3, b3] k_ k_ k_ (l' := [(2, pt b3)]) (M' := [(b3, .cells (ratC (⟨y5, y6⟩ : RA) (⟨decide ((-((qv r).num)) < 0), toL ((-((qv r).num)).natAbs), toD ((qv r).den)⟩ : Raw)) 27 (0, 0)), (b2, .cells (ratC y4 (encQ (qv r))) 27 (0, 0))]) k_ ?_
  refine RD.done k_ ?_
  refine KN.next ?_
  have e_1 : (encQ (-(qv r))) = (⟨decide ((-((qv r).num)) < 0), toL ((-((qv r).num)).natAbs), toD ((qv r).den)⟩ : Raw) := by rw [encQ_neg]
  have e_2 : (toL (((-(qv r)).num).natAbs)) = (toL ((-((qv r).num)).natAbs)) := congrArg Raw.mag e_1
  have e_3 : (toD ((-(qv r)).den)) = (toD ((qv r).den)) := congrArg Raw.den e_1
  refine J.also (fRat (⟨y5, y6⟩ : RA) (⟨decide ((-((qv r).num)) < 0), toL ((-((qv r).num)).natAbs), toD ((qv r).den)⟩ : Raw)) (fun w h => ⟨(h _ (.tail _ ((.tail _ ((.tail _ ((.head _)))))))), (h _ (.head _))⟩) ?_
  refine J.ret (KR.ret (v := ratV (⟨y5, y6⟩ : RA) (⟨decide ((-((qv r).num)) < 0), toL ((-((qv r).num)).natAbs), toD ((qv r).den)⟩ : Raw)) (⟨y5, y6⟩) [some 0] [0] [b3, b3, b3] k_ (by first | rfl | (rw [e_1]; done) | (simp only [e_1]; done) | (rw [e_2, e_3]; done) | (rw [e_1, e_2, e_3]; rfl) | (simp only [e_1, e_2, e_3]; done) | (simp only [e_1, e_2, e_3]; rfl)) (trivial) (by first | rfl | (rw [e_1]; done) | (simp only [e_1]; done) | (rw [e_2, e_3]; done) | (rw [e_1, e_2, e_3]; rfl) | (simp only [e_1, e_2, e_3]; done) | (simp only [e_1, e_2, e_3]; rfl)))
theorem rational_Compare (p : RA) (r : Raw) (u : RA) (t : Raw) (hr : RQ 268435456 r) (ht : RQ 268435456 t) : Spec Tryz.prog 48 #[ratV p r, ratV u t] [fRat p r, fRat u t] (ι := Unit) (fun y => .int .i64 (cmpQ (qv r) (qv t))) (fun y => True) (fun y => []) := by
  refine Spec.of_body _ (fn := Tryz.f48) k_ rfl k_ (fun X w0 => ?_)
  refine J.fact (φ := r.mag.length ≤ 140737488355328 ∧ r.den.length ≤ 140737488355328) (fun w h => by have h1 := (h _ (.head _)).1.1; have h2 := (h _ (.head _)).2.1; omega) (fun hl1 => ?_)
  refine J.fact (φ := t.mag.length ≤ 140737488355328 ∧ t.den.length ≤ 140737488355328) (fun w h => by have h1 := (h _ (.tail _ ((.head _)))).1.1; have h2 := (h _ (.tail _ ((.head _)))).2.1; omega) (fun hl2 => ?_)
  have hq := hr.2.2.2.2
  have hu := ht.2.2.2.2
  have hq1 := hq.1
  have hq2 := hq.2
  have hu1 := hu.1
  have hu2 := hu.2
  refine J.sreg ?_
  refine RN.new (fun b => pt b) (.cells (ratC p r) 27 (0, 0)) k_ k_ (fun w => by kernel_rfl) (fun b3 => ?_)
  refine RN.new (fun b => pt b) (.cells (ratC u t) 27 (0, 0)) k_ k_ (fun w => by kernel_rfl) (fun b4 => ?_)
  refine RN.bq (no 1) [2, 3] [] (k' := 3) (l' := [(2, pt b3), (3, pt b4)]) k_ ?_
  refine RN.done k_ ?_
  refine KN.next ?_
  refine J.seq ?_
  refine J.regD k_ [4, 5] ?_
  refine RD.bat k_ [(0, some 1), (2, some 0)] [2, 3, 5, 7] [b4, b4, b4, b3, b3, b3] (L' := [2, 0]) (l' := [(2, pt b3), (3, pt b4), (5, ratV p r), (7, ratV u t)]) k_ ?_
  refine RD.call (i := 1) (rational_value p r y_) [0] k_ k_ k_ k_ k_ rfl (fun y5 _ => ?_)
  refine RD.call (i := 3) (rational_value u t y_) [2] k_ k_ k_ k_ k_ rfl (fun y6 _ => ?_)
  refine RD.last (i := 4) (some 1) [2, 3, 8] [b3, b3, b3] k_ k_ k_ (l' := [(2, pt b3), (3, pt b4), (8, ratV y6 (encQ (qv t)))]) (M' := [(b4, .cells (ratC u t) 27 (0, 0)), (b3, .cells (ratC y5 (encQ (qv r))) 27 (0, 0))]) k_ ?_
  refine RD.last (i := 5) (some 0) [2, 3] [b4, b4, b4] k_ k_ k_ (l' := [(2, pt b3), (3, pt b4)]) (M' := [(b4, .cells (ratC y6 (encQ (qv t))) 27 (0, 0)), (b3, .cells (ratC y5 (encQ (qv r))) 27 (0, 0))]) k_ ?_
  refine RD.done k_ ?_
  refine KN.next ?_
  refine J.seq ?_
  refine J.regD k_ [] ?_
  refine RD.bat k_ [(0, none), (1, some 1), (2, some 0), (5, none), (6, some 0), (7, some 1)] [10, 11, 15, 16] [b3, b3, b3, b4, b4, b4, b4, b4, b3, b3] (L' := [7, 6, 5, 2, 1, 0]) (l' := [(10, intV y5.mag (encZ ((qv r).num))), (11, ratV y6 (encQ (qv t))), (15, intV y6.mag (encZ ((qv t).num))), (16, ratV y5 (encQ (qv r)))]) k_ ?_
  refine RD.call (i := 3) (rational_den y6 (qv t)) [0] k_ k_ k_ k_ k_ rfl (fun y7 _ => ?_)
  refine RD.also (fU y5.mag (toL (((qv r).num).natAbs))) (fun w h => (h _ (.tail _ ((.tail _ ((.head _)))))).1) k_ ?_
  refine RD.call (i := 4) (rational_times y5.mag ((qv r).num) y7 ((qv t).den) y_ y_) [0, 1] k_ k_ k_ k_ k_ rfl (fun y8 _ => ?_)
  refine RD.call (i := 8) (rational_den y5 (qv r)) [4] k_ k_ k_ k_ k_ rfl (fun y9 _ => ?_)
  refine RD.also (fU y6.mag (toL (((qv t).num).natAbs))) (fun w h => (h _ (.tail _ ((.tail _ ((.tail _ ((.tail _ ((.head _)))))))))).1) k_ ?_
  refine RD.call (i := 9) (rational_times y6.mag ((qv t).num) y9 ((qv r).den) y_ y_) [0, 1] k_ k_ k_ k_ k_ rfl (fun y10 _ => ?_)
  refine RD.call (i := 10) (integer_Compare_c y8 (((qv r).num) * ((((qv t).den) : Nat) : Int)) y10 (((qv t).num) * ((((qv r).den) : Nat) : Int))) [3, 0] k_ k_ k_ k_ k_ rfl (fun y11 _ => ?_)
  refine RD.bat k_ [(11, none)] [4] [] (L' := [11, 10, 9, 8, 4, 3, 7, 6, 5, 2, 1, 0]) (l' := [(4, .int .i64 (cmpI (((qv r).num) * ((((qv t).den) : Nat) : Int)) (((qv t).num) * ((((qv r).den) : Nat) : Int))))]) k_ ?_
  refine RD.done k_ ?_
  refine KN.next ?_
  have e_1 : (cmpQ (qv r) (qv t) : Int) = (cmpI (((qv r).num) * ((((qv t).den) : Nat) : Int)) (((qv t).num) * ((((qv r).den) : Nat) : Int)) : Int) := by rfl
  refine J.ret (KR.ret (v := .int .i64 (cmpI (((qv r).num) * ((((qv t).den) : Nat) : Int)) (((qv t).num) * ((((qv r).den) : Nat) : Int)))) (()) [none] [] [] k_ v1_ (trivial) v1_)
theorem rational_Compare_c (p : RA) (r' : Rat) (u : RA) (t' : Rat) (hr : Q 268435456 r') (ht : Q 268435456 t') : Spec Tryz.prog 48 #[ratV p (encQ r'), ratV u (encQ t')] [fRat p (encQ r'), fRat u (encQ t')] (ι := Unit) (fun y => .int .i64 (cmpQ r' t')) (fun y => True) (fun y => []) := by
  have H := rational_Compare p (encQ r') u (encQ t') (RQ_enc hr) (RQ_enc ht)
  first | exact H | (simp only [qv_encQ, validQ_encQ] at H; exact H)
theorem rational_Compare_c1 (p : RA) (r' : Rat) (u : RA) (t : Raw) (hr : Q 268435456 r') (ht : RQ 268435456 t) : Spec Tryz.prog 48 #[ratV p (encQ r'), ratV u t] [fRat p (encQ r'), fRat u t] (ι := Unit) (fun y => .int .i64 (cmpQ r' (qv t))) (fun y => True) (fun y => []) := by
  have H := rational_Compare p (encQ r') u t (RQ_enc hr) (by first | exact ht | simpa only [qv_encQ] using ht)
  first | exact H | (simp only [qv_encQ, validQ_encQ] at H; exact H)
theorem rational_Compare_c2 (p : RA) (r : Raw) (u : RA) (t' : Rat) (hr : RQ 268435456 r) (ht : Q 268435456 t') : Spec Tryz.prog 48 #[ratV p r, ratV u (encQ t')] [fRat p r, fRat u (encQ t')] (ι := Unit) (fun y => .int .i64 (cmpQ (qv r) t')) (fun y => True) (fun y => []) := by
  have H := rational_Compare p r u (encQ t') (by first | exact hr | simpa only [qv_encQ] using hr) (RQ_enc ht)
  first | exact H | (simp only [qv_encQ, validQ_encQ] at H; exact H)
theorem y_rational_Add {p : Prop} (h : p := by first | assumption | exact Lb_toL _ | omega | (simp; done) | first | exact den_mul_ne _ _ | (simp; omega)) : p := h
theorem rational_Add (p : RA) (r : Raw) (u : RA) (t : Raw) (hr : RQ 268435456 r) (ht : RQ 268435456 t) : Spec Tryz.prog 61 #[ratV p r, ratV u t] [fRat p r, fRat u t] (ι := RA) (fun y => ratV y (encQ ((qv r) + (qv t)))) (fun y => True) (fun y => [fRat y (encQ ((qv r) + (qv t)))]) := by
  refine Spec.of_body _ (fn := Tryz.f61) k_ rfl k_ (fun X w0 => ?_)
  refine J.fact (φ := r.mag.length ≤ 140737488355328 ∧ r.den.length ≤ 140737488355328) (fun w h => by have h1 := (h _ (.head _)).1.1; have h2 := (h _ (.head _)).2.1; omega) (fun hl1 => ?_)
  refine J.fact (φ := t.mag.length ≤ 140737488355328 ∧ t.den.length ≤ 140737488355328) (fun w h => by have h1 := (h _ (.tail _ ((.head _)))).1.1; have h2 := (h _ (.tail _ ((.head _)))).2.1; omega) (fun hl2 => ?_)
  have hq := hr.2.2.2.2
  have hu := ht.2.2.2.2
  have hq1 := hq.1
  have hq2 := hq.2
  have hu1 := hu.1
  have hu2 := hu.2
  have z1 := zlen_mulN (qv r).num (qv t).den
  have z2 := zlen_mulN (qv t).num (qv r).den
  have z3 := nlen_mul (qv r).den (qv t).den
  have z4 := zlen_add (k := 1073741824) (by omega : (toL ((qv r).num * ((qv t).den : Int)).natAbs).length ≤ 1073741824) (by omega : (toL ((qv t).num * ((qv r).den : Int)).natAbs).length ≤ 1073741824)
  have z5 := zlen_mul (qv r).num (qv t).num
  refine J.sreg ?_
  refine RN.new (fun b => pt b) (.cells (ratC p r) 27 (0, 0)) k_ k_ (fun w => by kernel_rfl) (fun b3 => ?_)
  refine RN.new (fun b => pt b) (.cells (ratC u t) 27 (0, 0)) k_ k_ (fun w => by kernel_rfl) (fun b4 => ?_)
  refine RN.new (fun b => pt b) (.cells (ratC (⟨saNil, saNil⟩ : RA) (⟨false, ([] : List Nat), ([] : List Nat)⟩ : Raw)) 27 (0, 0)) k_ k_ (fun w => by kernel_rfl) (fun b5 => ?_)
  refine RN.done k_ ?_
  refine KN.next ?_
  refine J.seq ?_
  refine J.regD k_ [4, 5] ?_
  refine RD.bat k_ [(0, some 2), (2, some 1)] [2, 3, 4, 5, 7] [b4, b4, b4, b3, b3, b3] (L' := [2, 0]) (l' := [(2, pt b3), (3, pt b4), (4, pt b5), (5, ratV p r), (7, ratV u t)]) k_ ?_
  refine RD.call (i := 1) (rational_value p r y_rational_Add) [0] k_ k_ k_ k_ k_ rfl (fun y6 _ => ?_)
  refine RD.call (i := 3) (rational_value u t y_rational_Add) [2] k_ k_ k_ k_ k_ rfl (fun y7 _ => ?_)
  refine RD.last (i := 4) (some 2) [2, 3, 4, 8] [b3, b3, b3] k_ k_ k_ (l' := [(2, pt b3), (3, pt b4), (4, pt b5), (8, ratV y7 (encQ (qv t)))]) (M' := [(b5, .cells (ratC (⟨saNil, saNil⟩ : RA) (⟨false, ([] : List Nat), ([] : List Nat)⟩ : Raw)) 27 (0, 0)), (b4, .cells (ratC u t) 27 (0, 0)), (b3, .cells (ratC y6 (encQ (qv r))) 27 (0, 0))]) k_ ?_
  refine RD.last (i := 5) (some 1) [2, 3, 4] [b4, b4, b4] k_ k_ k_ (l' := [(2, pt b3), (3, pt b4), (4, pt b5)]) (M' := [(b5, .cells (ratC (⟨saNil, saNil⟩ : RA) (⟨false, ([] : List Nat), ([] : List Nat)⟩ : Raw)) 27 (0, 0)), (b4, .cells (ratC y7 (encQ (qv t))) 27 (0, 0)), (b3, .cells (ratC y6 (encQ (qv r))) 27 (0, 0))]) k_ ?_
  refine RD.done k_ ?_
  refine KN.next ?_
  refine J.seq ?_
  refine J.sreg ?_
  refine RN.bq [none, some 2, none, none, none] [2, 3, 4, 13] [b3] (k' := 5) (l' := [(2, pt b3), (3, pt b4), (4, pt b5), (13, .bool (((((toD ((qv r).den)).length : Nat) : Int) : Int) == 0))]) k_ ?_
  refine RN.split 13 (((((toD ((qv r).den)).length : Nat) : Int) : Int) == 0) k_ (fun c8 => ?_) (fun c8 => ?_)
  · skip
    replace c8 := eq_of_beq c8
    refine RN.bq [none, some 1, none, none, none] [2, 3, 4, 18] [b4] (k' := 10) (l' := [(2, pt b3), (3, pt b4), (4, pt b5), (18, .bool (((((toD ((qv t).den)).length : Nat) : Int) : Int) == 0))]) k_ ?_
    refine RN.done k_ ?_
    refine KN.next ?_
    refine J.cond (((((toD ((qv t).den)).length : Nat) : Int) : Int) == 0) k_ (fun c9 => ?_) (fun c9 => ?_)
    · skip
      replace c9 := eq_of_beq c9
      refine J.sreg ?_
      refine RN.bq [none, some 2, none, some 1] [4, 20, 22] [b4, b4, b3, b3] (k' := 4) (l' := [(4, pt b5), (20, intV y6.mag (encZ ((qv r).num))), (22, intV y7.mag (encZ ((qv t).num)))]) k_ ?_
      refine RN.also (fU y6.mag (toL (((qv r).num).natAbs))) (fun w h => (h _ (.tail _ ((.head _)))).1) ?_
      refine RN.also (fU y7.mag (toL (((qv t).num).natAbs))) (fun w h => (h _ (.tail _ ((.head _)))).1) ?_
      refine RN.call (integer_Add_c y6.mag ((qv r).num) y7.mag ((qv t).num) y_rational_Add y_rational_Add) [1, 0] k_ k_ k_ rfl (fun y10 _ => ?_)
      refine RN.bat [none, some 0] [4] [b5, b5, b5] (k' := 7) (l' := [(4, pt b5)]) (M' := [(b5, .cells (ratC (⟨y10, saNil⟩ : RA) (⟨decide ((((qv r).num) + ((qv t).num)) < 0), toL ((((qv r).num) + ((qv t).num)).natAbs), ([] : List Nat)⟩ : Raw)) 27 (0, 0)), (b4, .cells (ratC y7 (encQ (qv t))) 27 (0, 0)), (b3, .cells (ratC y6 (encQ (qv r))) 27 (0, 0))]) k_ ?_
      refine RN.done k_ ?_
      refine KN.next ?_
      have e_1 : (encQ ((qv r) + (qv t))) = (⟨decide ((((qv r).num) + ((qv t).num)) < 0), toL ((((qv r).num) + ((qv t).num)).natAbs), ([] : List Nat)⟩ : Raw) := by rw [encQ_addI ((toD_len (qv r).den_nz).1 (by omega)) ((toD_len (qv t).den_nz).1 (by omega))]
      have e_2 : (toL ((((qv r) + (qv t)).num).natAbs)) = (toL ((((qv r).num) + ((qv t).num)).natAbs)) := congrArg Raw.mag e_1
      have e_3 : (toD (((qv r) + (qv t)).den)) = ([] : List Nat) := congrArg Raw.den e_1
      refine J.also (fRat (⟨y10, saNil⟩ : RA) (⟨decide ((((qv r).num) + ((qv t).num)) < 0), toL ((((qv r).num) + ((qv t).num)).natAbs), ([] : List Nat)⟩ : Raw)) (fun w h => ⟨(h _ (.head _)), fU_nil w⟩) ?_
      refine J.ret (KR.next (KR.ret (v := ratV (⟨y10, saNil⟩ : RA) (⟨decide ((((qv r).num) + ((qv t).num)) < 0), toL ((((qv r).num) + ((qv t).num)).natAbs), ([] : List Nat)⟩ : Raw)) (⟨y10, saNil⟩) [some 0] [0] [b5, b5, b5] k_ (by first | rfl | (rw [e_1]; done) | (simp only [e_1]; done) | (rw [e_2, e_3]; done) | (rw [e_1, e_2, e_3]; rfl) | (simp only [e_1, e_2, e_3]; done) | (simp only [e_1, e_2, e_3]; rfl)) (trivial) (by first | rfl | (rw [e_1]; done) | (simp only [e_1]; done) | (rw [e_2, e_3]; done) | (rw [e_1, e_2, e_3]; rfl) | (simp only [e_1, e_2, e_3]; done) | (simp only [e_1, e_2, e_3]; rfl))))
    · skip
      replace c9 := ne_of_beq_false c9
      refine J.skip ?_
      refine KN.next ?_
      refine J.seq ?_
      refine J.regD k_ [17] ?_
      refine RD.bat k_ [(0, none), (1, some 2), (2, some 1), (5, none), (6, some 1), (7, some 2), (11, some 2), (13, some 1)] [4, 26, 27, 31, 32, 36, 38] [b4, b4, b4, b3, b3, b3, b3, b3, b3, b4, b4, b4, b4, b4, b3, b3] (L' := [13, 11, 7, 6, 5, 2, 1, 0]) (l' := [(4, pt b5), (26, intV y6.mag (encZ ((qv r).num))), (27, ratV y7 (encQ (qv t))), (31, intV y7.mag (encZ ((qv t).num))), (32, ratV y6 (encQ (qv r))), (36, ratV y6 (encQ (qv r))), (38, ratV y7 (encQ (qv t)))]) k_ ?_
      refine RD.call (i := 3) (rational_den y7 (qv t)) [0] k_ k_ k_ k_ k_ rfl (fun y11 _ => ?_)
      refine RD.also (fU y6.mag (toL (((qv r).num).natAbs))) (fun w h => (h _ (.tail _ ((.tail _ ((.head _)))))).1) k_ ?_
      refine RD.call (i := 4) (rational_times y6.mag ((qv r).num) y11 ((qv t).den) y_rational_Add y_rational_Add) [0, 1] k_ k_ k_ k_ k_ rfl (fun y12 _ => ?_)
      refine RD.call (i := 8) (rational_den y6 (qv r)) [4] k_ k_ k_ k_ k_ rfl (fun y13 _ => ?_)
      refine RD.also (fU y7.mag (toL (((qv t).num).natAbs))) (fun w h => (h _ (.tail _ ((.tail _ ((.tail _ ((.tail _ ((.head _)))))))))).1) k_ ?_
      refine RD.call (i := 9) (rational_times y7.mag ((qv t).num) y13 ((qv r).den) y_rational_Add y_rational_Add) [0, 1] k_ k_ k_ k_ k_ rfl (fun y14 _ => ?_)
      refine RD.call (i := 10) (integer_Add_c y12 (((qv r).num) * ((((qv t).den) : Nat) : Int)) y14 (((qv t).num) * ((((qv r).den) : Nat) : Int)) y_rational_Add y_rational_Add) [3, 0] k_ k_ k_ k_ k_ rfl (fun y15 _ => ?_)
      refine RD.call (i := 12) (rational_den y6 (qv r)) [8] k_ k_ k_ k_ k_ rfl (fun y16 _ => ?_)
      refine RD.call (i := 14) (rational_den y7 (qv t)) [8] k_ k_ k_ k_ k_ rfl (fun y17 _ => ?_)
      refine RD.call (i := 15) (natural_Mul_c y16 ((qv r).den) y17 ((qv t).den) y_rational_Add y_rational_Add) [1, 0] k_ k_ k_ k_ k_ rfl (fun y18 _ => ?_)
      refine RD.call (i := 16) (rational_lowest y15 ((((qv r).num) * ((((qv t).den) : Nat) : Int)) + (((qv t).num) * ((((qv r).den) : Nat) : Int))) y18 (((qv r).den) * ((qv t).den)) y_rational_Add y_rational_Add y_rational_Add) [3, 0] k_ k_ k_ k_ k_ rfl (fun y19 _ => ?_)
      refine RD.last (i := 17) (some 0) [4] [b5, b5, b5] k_ k_ k_ (l' := [(4, pt b5)]) (M' := [(b5, .cells (ratC y19 (encQ (mkRat ((((qv r).num) * ((((qv t).den) : Nat) : Int)) + (((qv t).num) * ((((qv r).den) : Nat) : Int))) (((qv r).den) * ((qv t).den))))) 27 (0, 0)), (b4, .cells (ratC y7 (encQ (qv t))) 27 (0, 0)), (b3, .cells (ratC y6 (encQ (qv r))) 27 (0, 0))]) k_ ?_
      refine RD.done k_ ?_
      refine KN.next ?_
      have e_1 : (encQ ((qv r) + (qv t))) = (encQ (mkRat ((((qv r).num) * ((((qv t).den) : Nat) : Int)) + (((qv t).num) * ((((qv r).den) : Nat) : Int))) (((qv r).den) * ((qv t).den)))) := by rw [Rat.add_def']
      refine J.ret (KR.ret (v := ratV y19 (encQ (mkRat ((((qv r).num) * ((((qv t).den) : Nat) : Int)) + (((qv t).num) * ((((qv r).den) : Nat) : Int))) (((qv r).den) * ((qv t).den))))) (y19) [some 0] [0] [b5, b5, b5] k_ v1_ (trivial) v1_)
  · skip
    replace c8 := ne_of_beq_false c8
    refine RN.bq (no 5) [2, 3, 4, 18] [] (k' := 10) (l' := [(2, pt b3), (3, pt b4), (4, pt b5), (18, .bool false)]) k_ ?_
    refine RN.done k_ ?_
    refine KN.next ?_
    refine J.condF k_ ?_
    refine J.skip ?_
    refine KN.next ?_
    refine J.seq ?_
    refine J.regD k_ [17] ?_
    refine RD.bat k_ [(0, none), (1, some 2), (2, some 1), (5, none), (6, some 1), (7, some 2), (11, some 2), (13, some 1)] [4, 26, 27, 31, 32, 36, 38] [b4, b4, b4, b3, b3, b3, b3, b3, b3, b4, b4, b4, b4, b4, b3, b3] (L' := [13, 11, 7, 6, 5, 2, 1, 0]) (l' := [(4, pt b5), (26, intV y6.mag (encZ ((qv r).num))), (27, ratV y7 (encQ (qv t))), (31, intV y7.mag (encZ ((qv t).num))), (32, ratV y6 (encQ (qv r))), (36, ratV y6 (encQ (qv r))), (38, ratV y7 (encQ (qv t)))]) k_ ?_
    refine RD.call (i := 3) (rational_den y7 (qv t)) [0] k_ k_ k_ k_ k_ rfl (fun y20 _ => ?_)
    refine RD.also (fU y6.mag (toL (((qv r).num).natAbs))) (fun w h => (h _ (.tail _ ((.tail _ ((.head _)))))).1) k_ ?_
    refine RD.call (i := 4) (rational_times y6.mag ((qv r).num) y20 ((qv t).den) y_rational_Add y_rational_Add) [0, 1] k_ k_ k_ k_ k_ rfl (fun y21 _ => ?_)
    refine RD.call (i := 8) (rational_den y6 (qv r)) [4] k_ k_ k_ k_ k_ rfl (fun y22 _ => ?_)
    refine RD.also (fU y7.mag (toL (((qv t).num).natAbs))) (fun w h => (h _ (.tail _ ((.tail _ ((.tail _ ((.tail _ ((.head _)))))))))).1) k_ ?_
    refine RD.call (i := 9) (rational_times y7.mag ((qv t).num) y22 ((qv r).den) y_rational_Add y_rational_Add) [0, 1] k_ k_ k_ k_ k_ rfl (fun y23 _ => ?_)
    refine RD.call (i := 10) (integer_Add_c y21 (((qv r).num) * ((((qv t).den) : Nat) : Int)) y23 (((qv t).num) * ((((qv r).den) : Nat) : Int)) y_rational_Add y_rational_Add) [3, 0] k_ k_ k_ k_ k_ rfl (fun y24 _ => ?_)
    refine RD.call (i := 12) (rational_den y6 (qv r)) [8] k_ k_ k_ k_ k_ rfl (fun y25 _ => ?_)
    refine RD.call (i := 14) (rational_den y7 (qv t)) [8] k_ k_ k_ k_ k_ rfl (fun y26 _ => ?_)
    refine RD.call (i := 15) (natural_Mul_c y25 ((qv r).den) y26 ((qv t).den) y_rational_Add y_rational_Add) [1, 0] k_ k_ k_ k_ k_ rfl (fun y27 _ => ?_)
    refine RD.call (i := 16) (rational_lowest y24 ((((qv r).num) * ((((qv t).den) : Nat) : Int)) + (((qv t).num) * ((((qv r).den) : Nat) : Int))) y27 (((qv r).den) * ((qv t).den)) y_rational_Add y_rational_Add y_rational_Add) [3, 0] k_ k_ k_ k_ k_ rfl (fun y28 _ => ?_)
    refine RD.last (i := 17) (some 0) [4] [b5, b5, b5] k_ k_ k_ (l' := [(4, pt b5)]) (M' := [(b5, .cells (ratC y28 (encQ (mkRat ((((qv r).num) * ((((qv t).den) : Nat) : Int)) + (((qv t).num) * ((((qv r).den) : Nat) : Int))) (((qv r).den) * ((qv t).den))))) 27 (0, 0)), (b4, .cells (ratC y7 (encQ (qv t))) 27 (0, 0)), (b3, .cells (ratC y6 (encQ (qv r))) 27 (0, 0))]) k_ ?_
    refine RD.done k_ ?_
    refine KN.next ?_
    have e_1 : (encQ ((qv r) + (qv t))) = (encQ (mkRat ((((qv r).num) * ((((qv t).den) : Nat) : Int)) + (((qv t).num) * ((((qv r).den) : Nat) : Int))) (((qv r).den) * ((qv t).den)))) := by rw [Rat.add_def']
    refine J.ret (KR.ret (v := ratV y28 (encQ (mkRat ((((qv r).num) * ((((qv t).den) : Nat) : Int)) + (((qv t).num) * ((((qv r).den) : Nat) : Int))) (((qv r).den) * ((qv t).den))))) (y28) [some 0] [0] [b5, b5, b5] k_ v1_ (trivial) v1_)
theorem rational_Add_c (p : RA) (r' : Rat) (u : RA) (t' : Rat) (hr : Q 268435456 r') (ht : Q 268435456 t') : Spec Tryz.prog 61 #[ratV p (encQ r'), ratV u (encQ t')] [fRat p (encQ r'), fRat u (encQ t')] (ι := RA) (fun y => ratV y (encQ (r' + t'))) (fun y => True) (fun y => [fRat y (encQ (r' + t'))]) := by
  have H := rational_Add p (encQ r') u (encQ t') (RQ_enc hr) (RQ_enc ht)
  first | exact H | (simp only [qv_encQ, validQ_encQ] at H; exact H)
theorem rational_Add_c2 (p : RA) (r : Raw) (u : RA) (t' : Rat) (hr : RQ 268435456 r) (ht : Q 268435456 t') : Spec Tryz.prog 61 #[ratV p r, ratV u (encQ t')] [fRat p r, fRat u (encQ t')] (ι := RA) (fun y => ratV y (encQ ((qv r) + t'))) (fun y => True) (fun y => [fRat y (encQ ((qv r) + t'))]) := by
  have H := rational_Add p r u (encQ t') (by first | exact hr | simpa only [qv_encQ] using hr) (RQ_enc ht)
  first | exact H | (simp only [qv_encQ, validQ_encQ] at H; exact H)
theorem y_rational_Sub {p : Prop} (h : p := by first | assumption | exact Lb_toL _ | omega | (simp; done) | exact hu.neg) : p := h
theorem rational_Sub (p : RA) (r : Raw) (u : RA) (t : Raw) (hr : RQ 268435456 r) (ht : RQ 268435456 t) : Spec Tryz.prog 50 #[ratV p r, ratV u t] [fRat p r, fRat u t] (ι := RA) (fun y => ratV y (encQ ((qv r) - (qv t)))) (fun y => True) (fun y => [fRat y (encQ ((qv r) - (qv t)))]) := by
  refine Spec.of_body _ (fn := Tryz.f50) k_ rfl k_ (fun X w0 => ?_)
  refine J.fact (φ := r.mag.length ≤ 140737488355328 ∧ r.den.length ≤ 140737488355328) (fun w h => by have h1 := (h _ (.head _)).1.1; have h2 := (h _ (.head _)).2.1; omega) (fun hl1 => ?_)
  refine J.fact (φ := t.mag.length ≤ 140737488355328 ∧ t.den.length ≤ 140737488355328) (fun w h => by have h1 := (h _ (.tail _ ((.head _)))).1.1; have h2 := (h _ (.tail _ ((.head _)))).2.1; omega) (fun hl2 => ?_)
  have hq := hr.2.2.2.2
  have hu := ht.2.2.2.2
  have hq1 := hq.1
  have hq2 := hq.2
  have hu1 := hu.1
  have hu2 := hu.2
  refine J.sreg ?_
  refine RN.new (fun b => pt b) (.cells (ratC p r) 27 (0, 0)) k_ k_ (fun w => by kernel_rfl) (fun b3 => ?_)
  refine RN.new (fun b => pt b) (.cells (ratC u t) 27 (0, 0)) k_ k_ (fun w => by kernel_rfl) (fun b4 => ?_)
  refine RN.new (fun b => pt b) (.cells (ratC (⟨saNil, saNil⟩ : RA) (⟨false, ([] : List Nat), ([] : List Nat)⟩ : Raw)) 27 (0, 0)) k_ k_ (fun w => by kernel_rfl) (fun b5 => ?_)
  refine RN.done k_ ?_
  refine KN.next ?_
  refine J.seq ?_
  refine J.regD k_ [4] ?_
  refine RD.bat k_ [(0, some 2), (1, some 1)] [4, 5, 6] [b4, b4, b4, b3, b3, b3] (L' := [1, 0]) (l' := [(4, pt b5), (5, ratV p r), (6, ratV u t)]) k_ ?_
  refine RD.call (i := 2) (rational_Neg u t y_rational_Sub) [1] k_ k_ k_ k_ k_ rfl (fun y6 _ => ?_)
  refine RD.call (i := 3) (rational_Add_c2 p r y6 (-(qv t)) y_rational_Sub y_rational_Sub) [1, 0] k_ k_ k_ k_ k_ rfl (fun y7 _ => ?_)
  refine RD.last (i := 4) (some 0) [4] [b5, b5, b5] k_ k_ k_ (l' := [(4, pt b5)]) (M' := [(b5, .cells (ratC y7 (encQ ((qv r) + (-(qv t))))) 27 (0, 0)), (b4, .cells (ratC u t) 27 (0, 0)), (b3, .cells (ratC p r) 27 (0, 0))]) k_ ?_
  refine RD.done k_ ?_
  refine KN.next ?_
  have e_1 : (encQ ((qv r) - (qv t))) = (encQ ((qv r) + (-(qv t)))) := by rw [Rat.sub_eq_add_neg]
  refine J.ret (KR.ret (v := ratV y7 (encQ ((qv r) + (-(qv t))))) (y7) [some 0] [0] [b5, b5, b5] k_ v1_ (trivial) v1_)
theorem rational_Sub_c (p : RA) (r' : Rat) (u : RA) (t' : Rat) (hr : Q 268435456 r') (ht : Q 268435456 t') : Spec Tryz.prog 50 #[ratV p (encQ r'), ratV u (encQ t')] [fRat p (encQ r'), fRat u (encQ t')] (ι := RA) (fun y => ratV y (encQ (r' - t'))) (fun y => True) (fun y => [fRat y (encQ (r' - t'))]) := by
  have H := rational_Sub p (encQ r') u (encQ t') (RQ_enc hr) (RQ_enc ht)
  first | exact H | (simp only [qv_encQ, validQ_encQ] at H; exact H)
theorem rational_Sub_c1 (p : RA) (r' : Rat) (u : RA) (t : Raw) (hr : Q 268435456 r') (ht : RQ 268435456 t) : Spec Tryz.prog 50 #[ratV p (encQ r'), ratV u t] [fRat p (encQ r'), fRat u t] (ι := RA) (fun y => ratV y (encQ (r' - (qv t)))) (fun y => True) (fun y => [fRat y (encQ (r' - (qv t)))]) := by
  have H := rational_Sub p (encQ r') u t (RQ_enc hr) (by first | exact ht | simpa only [qv_encQ] using ht)
  first | exact H | (simp only [qv_encQ, validQ_encQ] at H; exact H)
theorem div_err (x y : Rat) : (if y = 0 then (5 : Int) else 0) = if y.num * (x.den : Int) = 0 then 5 else 0 := by
  have hd : (x.den : Int) ≠ 0 := by have := x.den_nz; omega
  by_cases h : y = 0
  · rw [if_pos h, if_pos (by rw [h]; simp)]
  · rw [if_neg h, if_neg (fun h' => h (Rat.num_eq_zero.1 ((Int.mul_eq_zero.1 h').resolve_right hd)))]
theorem y_rational_Mul {p : Prop} (h : p := by first | assumption | exact Lb_toL _ | omega | (simp; done) | first | exact den_mul_ne _ _ | (simp; omega)) : p := h
theorem rational_Mul (p : RA) (r : Raw) (u : RA) (t : Raw) (hr : RQ 268435456 r) (ht : RQ 268435456 t) : Spec Tryz.prog 51 #[ratV p r, ratV u t] [fRat p r, fRat u t] (ι := RA) (fun y => ratV y (encQ ((qv r) * (qv t)))) (fun y => True) (fun y => [fRat y (encQ ((qv r) * (qv t)))]) := by
  refine Spec.of_body _ (fn := Tryz.f51) k_ rfl k_ (fun X w0 => ?_)
  refine J.fact (φ := r.mag.length ≤ 140737488355328 ∧ r.den.length ≤ 140737488355328) (fun w h => by have h1 := (h _ (.head _)).1.1; have h2 := (h _ (.head _)).2.1; omega) (fun hl1 => ?_)
  refine J.fact (φ := t.mag.length ≤ 140737488355328 ∧ t.den.length ≤ 140737488355328) (fun w h => by have h1 := (h _ (.tail _ ((.head _)))).1.1; have h2 := (h _ (.tail _ ((.head _)))).2.1; omega) (fun hl2 => ?_)
  have hq := hr.2.2.2.2
  have hu := ht.2.2.2.2
  have hq1 := hq.1
  have hq2 := hq.2
  have hu1 := hu.1
  have hu2 := hu.2
  have z1 := zlen_mulN (qv r).num (qv t).den
  have z2 := zlen_mulN (qv t).num (qv r).den
  have z3 := nlen_mul (qv r).den (qv t).den
  have z4 := zlen_add (k := 1073741824) (by omega : (toL ((qv r).num * ((qv t).den : Int)).natAbs).length ≤ 1073741824) (by omega : (toL ((qv t).num * ((qv r).den : Int)).natAbs).length ≤ 1073741824)
  have z5 := zlen_mul (qv r).num (qv t).num
  refine J.sreg ?_
  refine RN.new (fun b => pt b) (.cells (ratC p r) 27 (0, 0)) k_ k_ (fun w => by kernel_rfl) (fun b3 => ?_)
  refine RN.new (fun b => pt b) (.cells (ratC u t) 27 (0, 0)) k_ k_ (fun w => by kernel_rfl) (fun b4 => ?_)
  refine RN.new (fun b => pt b) (.cells (ratC (⟨saNil, saNil⟩ : RA) (⟨false, ([] : List Nat), ([] : List Nat)⟩ : Raw)) 27 (0, 0)) k_ k_ (fun w => by kernel_rfl) (fun b5 => ?_)
  refine RN.done k_ ?_
  refine KN.next ?_
  refine J.seq ?_
  refine J.regD k_ [4, 5] ?_
  refine RD.bat k_ [(0, some 2), (2, some 1)] [2, 3, 4, 5, 7] [b4, b4, b4, b3, b3, b3] (L' := [2, 0]) (l' := [(2, pt b3), (3, pt b4), (4, pt b5), (5, ratV p r), (7, ratV u t)]) k_ ?_
  refine RD.call (i := 1) (rational_value p r y_rational_Mul) [0] k_ k_ k_ k_ k_ rfl (fun y6 _ => ?_)
  refine RD.call (i := 3) (rational_value u t y_rational_Mul) [2] k_ k_ k_ k_ k_ rfl (fun y7 _ => ?_)
  refine RD.last (i := 4) (some 2) [2, 3, 4, 8] [b3, b3, b3] k_ k_ k_ (l' := [(2, pt b3), (3, pt b4), (4, pt b5), (8, ratV y7 (encQ (qv t)))]) (M' := [(b5, .cells (ratC (⟨saNil, saNil⟩ : RA) (⟨false, ([] : List Nat), ([] : List Nat)⟩ : Raw)) 27 (0, 0)), (b4, .cells (ratC u t) 27 (0, 0)), (b3, .cells (ratC y6 (encQ (qv r))) 27 (0, 0))]) k_ ?_
  refine RD.last (i := 5) (some 1) [2, 3, 4] [b4, b4, b4] k_ k_ k_ (l' := [(2, pt b3), (3, pt b4), (4, pt b5)]) (M' := [(b5, .cells (ratC (⟨saNil, saNil⟩ : RA) (⟨false, ([] : List Nat), ([] : List Nat)⟩ : Raw)) 27 (0, 0)), (b4, .cells (ratC y7 (encQ (qv t))) 27 (0, 0)), (b3, .cells (ratC y6 (encQ (qv r))) 27 (0, 0))]) k_ ?_
  refine RD.done k_ ?_
  refine KN.next ?_
  refine J.seq ?_
  refine J.sreg ?_
  refine RN.bq [none, some 2, none, none, none] [2, 3, 4, 13] [b3] (k' := 5) (l' := [(2, pt b3), (3, pt b4), (4, pt b5), (13, .bool (((((toD ((qv r).den)).length : Nat) : Int) : Int) == 0))]) k_ ?_
  refine RN.split 13 (((((toD ((qv r).den)).length : Nat) : Int) : Int) == 0) k_ (fun c8 => ?_) (fun c8 => ?_)
  · skip
    replace c8 := eq_of_beq c8
    refine RN.bq [none, some 1, none, none, none] [2, 3, 4, 18] [b4] (k' := 10) (l' := [(2, pt b3), (3, pt b4), (4, pt b5), (18, .bool (((((toD ((qv t).den)).length : Nat) : Int) : Int) == 0))]) k_ ?_
    refine RN.done k_ ?_
    refine KN.next ?_
    refine J.cond (((((toD ((qv t).den)).length : Nat) : Int) : Int) == 0) k_ (fun c9 => ?_) (fun c9 => ?_)
    · skip
      replace c9 := eq_of_beq c9
      refine J.sreg ?_
      refine RN.bq [none, some 2, none, some 1] [4, 20, 22] [b4, b4, b3, b3] (k' := 4) (l' := [(4, pt b5), (20, intV y6.mag (encZ ((qv r).num))), (22, intV y7.mag (encZ ((qv t).num)))]) k_ ?_
      refine RN.also (fU y6.mag (toL (((qv r).num).natAbs))) (fun w h => (h _ (.tail _ ((.head _)))).1) ?_
      refine RN.also (fU y7.mag (toL (((qv t).num).natAbs))) (fun w h => (h _ (.tail _ ((.head _)))).1) ?_
      refine RN.call (integer_Mul_c y6.mag ((qv r).num) y7.mag ((qv t).num) y_rational_Mul y_rational_Mul) [1, 0] k_ k_ k_ rfl (fun y10 _ => ?_)
      refine RN.bat [none, some 0] [4] [b5, b5, b5] (k' := 7) (l' := [(4, pt b5)]) (M' := [(b5, .cells (ratC (⟨y10, saNil⟩ : RA) (⟨decide ((((qv r).num) * ((qv t).num)) < 0), toL ((((qv r).num) * ((qv t).num)).natAbs), ([] : List Nat)⟩ : Raw)) 27 (0, 0)), (b4, .cells (ratC y7 (encQ (qv t))) 27 (0, 0)), (b3, .cells (ratC y6 (encQ (qv r))) 27 (0, 0))]) k_ ?_
      refine RN.done k_ ?_
      refine KN.next ?_
      have e_1 : (encQ ((qv r) * (qv t))) = (⟨decide ((((qv r).num) * ((qv t).num)) < 0), toL ((((qv r).num) * ((qv t).num)).natAbs), ([] : List Nat)⟩ : Raw) := by rw [encQ_mulI ((toD_len (qv r).den_nz).1 (by omega)) ((toD_len (qv t).den_nz).1 (by omega))]
      have e_2 : (toL ((((qv r) * (qv t)).num).natAbs)) = (toL ((((qv r).num) * ((qv t).num)).natAbs)) := congrArg Raw.mag e_1
      have e_3 : (toD (((qv r) * (qv t)).den)) = ([] : List Nat) := congrArg Raw.den e_1
      refine J.also (fRat (⟨y10, saNil⟩ : RA) (⟨decide ((((qv r).num) * ((qv t).num)) < 0), toL ((((qv r).num) * ((qv t).num)).natAbs), ([] : List Nat)⟩ : Raw)) (fun w h => ⟨(h _ (.head _)), fU_nil w⟩) ?_
      refine J.ret (KR.next (KR.ret (v := ratV (⟨y10, saNil⟩ : RA) (⟨decide ((((qv r).num) * ((qv t).num)) < 0), toL ((((qv r).num) * ((qv t).num)).natAbs), ([] : List Nat)⟩ : Raw)) (⟨y10, saNil⟩) [some 0] [0] [b5, b5, b5] k_ (by first | rfl | (rw [e_1]; done) | (simp only [e_1]; done) | (rw [e_2, e_3]; done) | (rw [e_1, e_2, e_3]; rfl) | (simp only [e_1, e_2, e_3]; done) | (simp only [e_1, e_2, e_3]; rfl)) (trivial) (by first | rfl | (rw [e_1]; done) | (simp only [e_1]; done) | (rw [e_2, e_3]; done) | (rw [e_1, e_2, e_3]; rfl) | (simp only [e_1, e_2, e_3]; done) | (simp only [e_1, e_2, e_3]; rfl))))
    · skip
      replace c9 := ne_of_beq_false c9
      refine J.skip ?_
      refine KN.next ?_
      refine J.seq ?_
      refine J.regD k_ [11] ?_
      refine RD.bat k_ [(0, none), (1, some 2), (2, none), (3, some 1), (5, some 2), (7, some 1)] [4, 26, 28, 30, 32] [b4, b4, b4, b3, b3, b3, b4, b4, b3, b3] (L' := [7, 5, 3, 2, 1, 0]) (l' := [(4, pt b5), (26, intV y6.mag (encZ ((qv r).num))), (28, intV y7.mag (encZ ((qv t).num))), (30, ratV y6 (encQ (qv r))), (32, ratV y7 (encQ (qv t)))]) k_ ?_
      refine RD.also (fU y6.mag (toL (((qv r).num).natAbs))) (fun w h => (h _ (.tail _ ((.head _)))).1) k_ ?_
      refine RD.also (fU y7.mag (toL (((qv t).num).natAbs))) (fun w h => (h _ (.tail _ ((.head _)))).1) k_ ?_
      refine RD.call (i := 4) (integer_Mul_c y6.mag ((qv r).num) y7.mag ((qv t).num) y_rational_Mul y_rational_Mul) [1, 0] k_ k_ k_ k_ k_ rfl (fun y11 _ => ?_)
      refine RD.call (i := 6) (rational_den y6 (qv r)) [4] k_ k_ k_ k_ k_ rfl (fun y12 _ => ?_)
      refine RD.call (i := 8) (rational_den y7 (qv t)) [4] k_ k_ k_ k_ k_ rfl (fun y13 _ => ?_)
      refine RD.call (i := 9) (natural_Mul_c y12 ((qv r).den) y13 ((qv t).den) y_rational_Mul y_rational_Mul) [1, 0] k_ k_ k_ k_ k_ rfl (fun y14 _ => ?_)
      refine RD.call (i := 10) (rational_lowest y11 (((qv r).num) * ((qv t).num)) y14 (((qv r).den) * ((qv t).den)) y_rational_Mul y_rational_Mul y_rational_Mul) [3, 0] k_ k_ k_ k_ k_ rfl (fun y15 _ => ?_)
      refine RD.last (i := 11) (some 0) [4] [b5, b5, b5] k_ k_ k_ (l' := [(4, pt b5)]) (M' := [(b5, .cells (ratC y15 (encQ (mkRat (((qv r).num) * ((qv t).num)) (((qv r).den) * ((qv t).den))))) 27 (0, 0)), (b4, .cells (ratC y7 (encQ (qv t))) 27 (0, 0)), (b3, .cells (ratC y6 (encQ (qv r))) 27 (0, 0))]) k_ ?_
      refine RD.done k_ ?_
      refine KN.next ?_
      have e_1 : (encQ ((qv r) * (qv t))) = (encQ (mkRat (((qv r).num) * ((qv t).num)) (((qv r).den) * ((qv t).den)))) := by rw [Rat.mul_def']
      refine J.ret (KR.ret (v := ratV y15 (encQ (mkRat (((qv r).num) * ((qv t).num)) (((qv r).den) * ((qv t).den))))) (y15) [some 0] [0] [b5, b5, b5] k_ v1_ (trivial) v1_)
  · skip
    replace c8 := ne_of_beq_false c8
    refine RN.bq (no 5) [2, 3, 4, 18] [] (k' := 10) (l' := [(2, pt b3), (3, pt b4), (4, pt b5), (18, .bool false)]) k_ ?_
    refine RN.done k_ ?_
    refine KN.next ?_
    refine J.condF k_ ?_
    refine J.skip ?_
    refine KN.next ?_
    refine J.seq ?_
    refine J.regD k_ [11] ?_
    refine RD.bat k_ [(0, none), (1, some 2), (2, none), (3, some 1), (5, some 2), (7, some 1)] [4, 26, 28, 30, 32] [b4, b4, b4, b3, b3, b3, b4, b4, b3, b3] (L' := [7, 5, 3, 2, 1, 0]) (l' := [(4, pt b5), (26, intV y6.mag (encZ ((qv r).num))), (28, intV y7.mag (encZ ((qv t).num))), (30, ratV y6 (encQ (qv r))), (32, ratV y7 (encQ (qv t)))]) k_ ?_
    refine RD.also (fU y6.mag (toL (((qv r).num).natAbs))) (fun w h => (h _ (.tail _ ((.head _)))).1) k_ ?_
    refine RD.also (fU y7.mag (toL (((qv t).num).natAbs))) (fun w h => (h _ (.tail _ ((.head _)))).1) k_ ?_
    refine RD.call (i := 4) (integer_Mul_c y6.mag ((qv r).num) y7.mag ((qv t).num) y_rational_Mul y_rational_Mul) [1, 0] k_ k_ k_ k_ k_ rfl (fun y16 _ => ?_)
    refine RD.call (i := 6) (rational_den y6 (qv r)) [4] k_ k_ k_ k_ k_ rfl (fun y17 _ => ?_)
    refine RD.call (i := 8) (rational_den y7 (qv t)) [4] k_ k_ k_ k_ k_ rfl (fun y18 _ => ?_)
    refine RD.call (i := 9) (natural_Mul_c y17 ((qv r).den) y18 ((qv t).den) y_rational_Mul y_rational_Mul) [1, 0] k_ k_ k_ k_ k_ rfl (fun y19 _ => ?_)
    refine RD.call (i := 10) (rational_lowest y16 (((qv r).num) * ((qv t).num)) y19 (((qv r).den) * ((qv t).den)) y_rational_Mul y_rational_Mul y_rational_Mul) [3, 0] k_ k_ k_ k_ k_ rfl (fun y20 _ => ?_)
    refine RD.last (i := 11) (some 0) [4] [b5, b5, b5] k_ k_ k_ (l' := [(4, pt b5)]) (M' := [(b5, .cells (ratC y20 (encQ (mkRat (((qv r).num) * ((qv t).num)) (((qv r).den) * ((qv t).den))))) 27 (0, 0)), (b4, .cells (ratC y7 (encQ (qv t))) 27 (0, 0)), (b3, .cells (ratC y6 (encQ (qv r))) 27 (0, 0))]) k_ ?_
    refine RD.done k_ ?_
    refine KN.next ?_
    have e_1 : (encQ ((qv r) * (qv t))) = (encQ (mkRat (((qv r).num) * ((qv t).num)) (((qv r).den) * ((qv t).den)))) := by rw [Rat.mul_def']
    refine J.ret (KR.ret (v := ratV y20 (encQ (mkRat (((qv r).num) * ((qv t).num)) (((qv r).den) * ((qv t).den))))) (y20) [some 0] [0] [b5, b5, b5] k_ v1_ (trivial) v1_)
theorem rational_Mul_c (p : RA) (r' : Rat) (u : RA) (t' : Rat) (hr : Q 268435456 r') (ht : Q 268435456 t') : Spec Tryz.prog 51 #[ratV p (encQ r'), ratV u (encQ t')] [fRat p (encQ r'), fRat u (encQ t')] (ι := RA) (fun y => ratV y (encQ (r' * t'))) (fun y => True) (fun y => [fRat y (encQ (r' * t'))]) := by
  have H := rational_Mul p (encQ r') u (encQ t') (RQ_enc hr) (RQ_enc ht)
  first | exact H | (simp only [qv_encQ, validQ_encQ] at H; exact H)
theorem rational_Div (p : RA) (r : Raw) (u : RA) (t : Raw) (hr : RQ 268435456 r) (ht : RQ 268435456 t) : Spec Tryz.prog 107 #[ratV p r, ratV u t] [fRat p r, fRat u t] (ι := RA) (fun y => .tuple #[ratV y (encQ ((qv r) / (qv t))), .int .i64 (if (qv t) = 0 then 5 else 0)]) (fun y => True) (fun y => [fRat y (encQ ((qv r) / (qv t)))]) := by
  refine Spec.of_body _ (fn := Tryz.f107) k_ rfl k_ (fun X w0 => ?_)
  refine J.fact (φ := r.mag.length ≤ 140737488355328 ∧ r.den.length ≤ 140737488355328) (fun w h => by have h1 := (h _ (.head _)).1.1; have h2 := (h _ (.head _)).2.1; omega) (fun hl1 => ?_)
  refine J.fact (φ := t.mag.length ≤ 140737488355328 ∧ t.den.length ≤ 140737488355328) (fun w h => by have h1 := (h _ (.tail _ ((.head _)))).1.1; have h2 := (h _ (.tail _ ((.head _)))).2.1; omega) (fun hl2 => ?_)
  have hq := hr.2.2.2.2
  have hu := ht.2.2.2.2
  have hq1 := hq.1
  have hq2 := hq.2
  have hu1 := hu.1
  have hu2 := hu.2
  have z1 := zlen_mulN (qv r).num (qv t).den
  have z2 := zlen_mulN (qv t).num (qv r).den
  have z3 := nlen_mul (qv r).den (qv t).den
  have z4 := zlen_add (k := 1073741824) (by omega : (toL ((qv r).num * ((qv t).den : Int)).natAbs).length ≤ 1073741824) (by omega : (toL ((qv t).num * ((qv r).den : Int)).natAbs).length ≤ 1073741824)
  have z5 := zlen_mul (qv r).num (qv t).num
  refine J.sreg ?_
  refine RN.new (fun b => pt b) (.cells (ratC p r) 27 (0, 0)) k_ k_ (fun w => by kernel_rfl) (fun b3 => ?_)
  refine RN.new (fun b => pt b) (.cells (ratC u t) 27 (0, 0)) k_ k_ (fun w => by kernel_rfl) (fun b4 => ?_)
  refine RN.new (fun b => pt b) (.cells (ratC (⟨saNil, saNil⟩ : RA) (⟨false, ([] : List Nat), ([] : List Nat)⟩ : Raw)) 27 (0, 0)) k_ k_ (fun w => by kernel_rfl) (fun b5 => ?_)
  refine RN.bq (no 1) [2, 3, 4] [] (k' := 4) (l' := [(2, pt b3), (3, pt b4), (4, pt b5)]) k_ ?_
  refine RN.done k_ ?_
  refine KN.next ?_
  refine J.seq ?_
  refine J.regD k_ [4, 5] ?_
  refine RD.bat k_ [(0, some 2), (2, some 1)] [2, 3, 4, 6, 8] [b4, b4, b4, b3, b3, b3] (L' := [2, 0]) (l' := [(2, pt b3), (3, pt b4), (4, pt b5), (6, ratV p r), (8, ratV u t)]) k_ ?_
  refine RD.call (i := 1) (rational_value p r y_) [0] k_ k_ k_ k_ k_ rfl (fun y6 _ => ?_)
  refine RD.call (i := 3) (rational_value u t y_) [2] k_ k_ k_ k_ k_ rfl (fun y7 _ => ?_)
  refine RD.last (i := 4) (some 2) [2, 3, 4, 9] [b3, b3, b3] k_ k_ k_ (l' := [(2, pt b3), (3, pt b4), (4, pt b5), (9, ratV y7 (encQ (qv t)))]) (M' := [(b5, .cells (ratC (⟨saNil, saNil⟩ : RA) (⟨false, ([] : List Nat), ([] : List Nat)⟩ : Raw)) 27 (0, 0)), (b4, .cells (ratC u t) 27 (0, 0)), (b3, .cells (ratC y6 (encQ (qv r))) 27 (0, 0))]) k_ ?_
  refine RD.last (i := 5) (some 1) [2, 3, 4] [b4, b4, b4] k_ k_ k_ (l' := [(2, pt b3), (3, pt b4), (4, pt b5)]) (M' := [(b5, .cells (ratC (⟨saNil, saNil⟩ : RA) (⟨false, ([] : List Nat), ([] : List Nat)⟩ : Raw)) 27 (0, 0)), (b4, .cells (ratC y7 (encQ (qv t))) 27 (0, 0)), (b3, .cells (ratC y6 (encQ (qv r))) 27 (0, 0))]) k_ ?_
  refine RD.done k_ ?_
  refine KN.next ?_
  refine J.seq ?_
  refine J.regD k_ [13] ?_
  refine RD.bat k_ [(0, none), (1, some 2), (2, some 1), (5, none), (6, some 1), (7, some 2)] [4, 11, 12, 16, 17] [b3, b3, b3, b4, b4, b4, b4, b4, b3, b3] (L' := [7, 6, 5, 2, 1, 0]) (l' := [(4, pt b5), (11, intV y6.mag (encZ ((qv r).num))), (12, ratV y7 (encQ (qv t))), (16, intV y7.mag (encZ ((qv t).num))), (17, ratV y6 (encQ (qv r)))]) k_ ?_
  refine RD.call (i := 3) (rational_den y7 (qv t)) [0] k_ k_ k_ k_ k_ rfl (fun y8 _ => ?_)
  refine RD.also (fU y6.mag (toL (((qv r).num).natAbs))) (fun w h => (h _ (.tail _ ((.tail _ ((.head _)))))).1) k_ ?_
  refine RD.call (i := 4) (rational_times y6.mag ((qv r).num) y8 ((qv t).den) y_ y_) [0, 1] k_ k_ k_ k_ k_ rfl (fun y9 _ => ?_)
  refine RD.call (i := 8) (rational_den y6 (qv r)) [4] k_ k_ k_ k_ k_ rfl (fun y10 _ => ?_)
  refine RD.also (fU y7.mag (toL (((qv t).num).natAbs))) (fun w h => (h _ (.tail _ ((.tail _ ((.tail _ ((.tail _ ((.head _)))))))))).1) k_ ?_
  refine RD.call (i := 9) (rational_times y7.mag ((qv t).num) y10 ((qv r).den) y_ y_) [0, 1] k_ k_ k_ k_ k_ rfl (fun y11 _ => ?_)
  refine RD.call (i := 10) (rational_Make y9 (((qv r).num) * ((((qv t).den) : Nat) : Int)) y11 (((qv t).num) * ((((qv r).den) : Nat) : Int)) y_ y_) [3, 0] k_ k_ k_ k_ k_ rfl (fun y12 _ => ?_)
  refine RD.bat k_ [(11, none), (12, none)] [4, 21, 22] [] (L' := [12, 11, 10, 9, 8, 4, 3, 7, 6, 5, 2, 1, 0]) (l' := [(4, pt b5), (21, ratV y12 (encQ ((((((qv r).num) * ((((qv t).den) : Nat) : Int)) : Int) : Rat) / (((((qv t).num) * ((((qv r).den) : Nat) : Int)) : Int) : Rat)))), (22, .int .i64 (if (((qv t).num) * ((((qv r).den) : Nat) : Int)) = 0 then 5 else 0))]) k_ ?_
  refine RD.last (i := 13) (some 0) [4, 22] [b5, b5, b5] k_ k_ k_ (l' := [(4, pt b5), (22, .int .i64 (if (((qv t).num) * ((((qv r).den) : Nat) : Int)) = 0 then 5 else 0))]) (M' := [(b5, .cells (ratC y12 (encQ ((((((qv r).num) * ((((qv t).den) : Nat) : Int)) : Int) : Rat) / (((((qv t).num) * ((((qv r).den) : Nat) : Int)) : Int) : Rat)))) 27 (0, 0)), (b4, .cells (ratC y7 (encQ (qv t))) 27 (0, 0)), (b3, .cells (ratC y6 (encQ (qv r))) 27 (0, 0))]) k_ ?_
  refine RD.bat k_ [(14, none)] [4, 5] [] (L' := [14, 13, 12, 11, 10, 9, 8, 4, 3, 7, 6, 5, 2, 1, 0]) (l' := [(4, pt b5), (5, .int .i64 (if (((qv t).num) * ((((qv r).den) : Nat) : Int)) = 0 then 5 else 0))]) k_ ?_
  refine RD.done k_ ?_
  refine KN.next ?_
  have e_1 : (encQ ((qv r) / (qv t))) = (encQ ((((((qv r).num) * ((((qv t).den) : Nat) : Int)) : Int) : Rat) / (((((qv t).num) * ((((qv r).den) : Nat) : Int)) : Int) : Rat))) := by first | (rw [div_parts]; done) | exact div_err _ _
  have e_2 : (if (qv t) = 0 then 5 else 0 : Int) = (if (((qv t).num) * ((((qv r).den) : Nat) : Int)) = 0 then 5 else 0 : Int) := by first | (rw [div_parts]; done) | exact div_err _ _
  refine J.ret (KR.ret (v := .tuple #[ratV y12 (encQ ((((((qv r).num) * ((((qv t).den) : Nat) : Int)) : Int) : Rat) / (((((qv t).num) * ((((qv r).den) : Nat) : Int)) : Int) : Rat))), .int .i64 (if (((qv t).num) * ((((qv r).den) : Nat) : Int)) = 0 then 5 else 0)]) (y12) [some 0, none] [0] [b5, b5, b5] k_ v2_ (trivial) v2_)
end Go.Proofs.YtegnonhgildhoaaGreat.E
