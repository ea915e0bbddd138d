import Derived.Test.YtegnonhgildhoaaGreatBase8
import Derived.Test.YtegnonhgildhoaaGreatEB
import Derived.Test.YtegnonhgildhoaaGreatN9
namespace Go.Proofs.YtegnonhgildhoaaGreat.E
open Go Go.RowKit
set_option linter.unusedVariables false
set_option linter.unusedSimpArgs false
theorem fRat_zero : ∀ w, fRat ⟨saNil, saNil⟩ (encQ 0) w := by rw [encQ_zero]; exact fun w => ⟨fU_nil w, fU_nil w⟩
theorem num0 : toL (Rat.num 0).natAbs = [] := toL_zero
theorem zneg0 : decide (Rat.num 0 < 0) = false := by decide
theorem zden0 : toD (Rat.den 0) = [] := rfl
theorem add_parts (x y : Rat) : (((x.num * ((y.den : Nat) : Int) + y.num * ((x.den : Nat) : Int) : Int)) : Rat) / ((((x.den : Nat) : Int) * ((y.den : Nat) : Int) : Int) : Rat) = x + y := by
  rw [Rat.add_def', Rat.mkRat_eq_div]; rfl
theorem mul_parts (x y : Rat) : ((x.num * y.num : Int) : Rat) / ((((x.den : Nat) : Int) * ((y.den : Nat) : Int) : Int) : Rat) = x * y := by
  rw [Rat.mul_def', Rat.mkRat_eq_div]; rfl
theorem quo_parts (x y : Rat) : ((x.num * ((y.den : Nat) : Int) : Int) : Rat) / ((((x.den : Nat) : Int) * y.num : Int) : Rat) = x / y := by
  rw [Int.mul_comm ((x.den : Nat) : Int)]; exact div_parts x y
theorem den_mul_ne' (x y : Rat) : ((x.den : Nat) : Int) * ((y.den : Nat) : Int) ≠ 0 := by
  have h1 := x.den_nz; have h2 := y.den_nz
  exact Int.mul_ne_zero (by omega) (by omega)
theorem num_lt0 {q : Rat} : q.num < 0 ↔ q < 0 := by
  have := Rat.num_nonneg (q := q)
  rw [← Rat.not_le, ← this]; omega
theorem sign_lt {q : Rat} : Int.sign q.num < 0 ↔ q < 0 := by
  rw [← num_lt0]; exact ⟨sign_lt0, fun h => by rw [Int.sign_eq_neg_one_of_neg h]; decide⟩
theorem sub_lt0 {x y : Rat} : x - y < 0 ↔ x < y := by
  rw [← Rat.not_le, ← Rat.le_iff_sub_nonneg, Rat.not_le]
theorem sub_sign_lt {x y : Rat} : Int.sign (x - y).num < 0 ↔ x < y := by rw [sign_lt, sub_lt0]
theorem r03_FromInt (v : Int) (h1 : -9223372036854775808 ≤ v) (h2 : v < 9223372036854775808) : Spec Tryz.prog 20 #[.int .i64 v] [] (ι := RA) (fun y => ratV y (encQ ((v : Int) : Rat))) (fun y => True) (fun y => [fRat y (encQ ((v : Int) : Rat))]) := by
  refine Spec.of_body _ (fn := Tryz.f20) k_ rfl k_ (fun X w0 => ?_)
  refine J.sreg ?_
  refine RN.new (fun b => pt b) (.cells (ratC (⟨saNil, saNil⟩ : RA) (⟨false, ([] : List Nat), ([] : List Nat)⟩ : Raw)) 27 (0, 0)) k_ k_ (fun w => by kernel_rfl) (fun b1 => ?_)
  refine RN.fin k_ ?_
  refine J.sreg ?_
  refine RN.bq (no 1) [2, 3] [] (k' := 1) (l' := [(2, pt b1), (3, .int .i64 v)]) k_ ?_
  refine RN.call (r02_FromInt v y_ y_) [] k_ k_ k_ rfl (fun y2 _ => ?_)
  refine RN.bat [none, some 0] [2] [b1, b1, b1] (k' := 4) (l' := [(2, pt b1)]) (M' := [(b1, .cells (ratC (⟨y2, saNil⟩ : RA) (⟨decide (v < 0), toL (v.natAbs), ([] : List Nat)⟩ : Raw)) 27 (0, 0))]) k_ ?_
  refine RN.fin k_ ?_
  have e_1 : (encQ ((v : Int) : Rat)) = (⟨decide (v < 0), toL (v.natAbs), ([] : List Nat)⟩ : Raw) := by rfl
  have e_2 : (toL ((((v : Int) : Rat).num).natAbs)) = (toL (v.natAbs)) := congrArg Raw.mag e_1
  have e_3 : (toD (((v : Int) : Rat).den)) = ([] : List Nat) := congrArg Raw.den e_1
  refine J.also (fRat (⟨y2, saNil⟩ : RA) (⟨decide (v < 0), toL (v.natAbs), ([] : List Nat)⟩ : Raw)) (fun w h => ⟨(h _ (.head _)), fU_nil w⟩) ?_
  refine J.ret (KR.ret (v := ratV (⟨y2, saNil⟩ : RA) (⟨decide (v < 0), toL (v.natAbs), ([] : List Nat)⟩ : Raw)) (⟨y2, saNil⟩) [some 0] [0] [b1, b1, b1] k_ (by first | rfl | (rw [e_1]; done) | (simp only [e_1]; done) | (rw [e_2, e_3]; done) | (rw [e_1, e_2, e_3]; rfl) | (simp only [e_1, e_2, e_3]; done) | (simp only [e_1, e_2, e_3]; rfl)) (trivial) (by first | rfl | (rw [e_1]; done) | (simp only [e_1]; done) | (rw [e_2, e_3]; done) | (rw [e_1, e_2, e_3]; rfl) | (simp only [e_1, e_2, e_3]; done) | (simp only [e_1, e_2, e_3]; rfl)))
theorem r03_Sign (p : RA) (r : Raw) (hr : RQ 268435456 r) : Spec Tryz.prog 31 #[ratV p r] [fRat p r] (ι := Unit) (fun y => .int .i64 (Int.sign ((qv r).num))) (fun y => True) (fun y => []) := by
  refine Spec.of_body _ (fn := Tryz.f31) k_ rfl k_ (fun X w0 => ?_)
  refine J.fact (φ := r.mag.length ≤ 140737488355328 ∧ r.den.length ≤ 140737488355328) (fun w h => by have h1 := (h _ (.head _)).1.1; have h2 := (h _ (.head _)).2.1; omega) (fun hl1 => ?_)
  have hq1 := hr.2.2.2.2.1
  refine J.sreg ?_
  refine RN.new (fun b => pt b) (.cells (ratC p r) 27 (0, 0)) k_ k_ (fun w => by kernel_rfl) (fun b2 => ?_)
  refine RN.bq (no 1) [1] [] (k' := 2) (l' := [(1, pt b2)]) k_ ?_
  refine RN.fin k_ ?_
  refine J.sreg ?_
  refine RN.bq [some 0] [3] [b2, b2, b2] (k' := 1) (l' := [(3, ratV p r)]) k_ ?_
  refine RN.call (r03_Take p r y_) [0] k_ k_ k_ rfl (fun y3 _ => ?_)
  refine RN.bq (no 1) [5] [] (k' := 3) (l' := [(5, intV y3.mag (encZ ((qv r).num)))]) k_ ?_
  refine RN.also (fU y3.mag (toL (((qv r).num).natAbs))) (fun w h => (h _ (.head _)).1) ?_
  refine RN.call (r02_Sign_c y3.mag ((qv r).num) y_) [0] k_ k_ k_ rfl (fun y4 _ => ?_)
  refine RN.bq (no 1) [2] [] (k' := 5) (l' := [(2, .int .i64 (Int.sign ((qv r).num)))]) k_ ?_
  refine RN.fin k_ ?_
  refine J.ret (KR.ret (v := .int .i64 (Int.sign ((qv r).num))) (()) [none] [] [] k_ rfl (trivial) rfl)
theorem r03_Sign_c (p : RA) (r' : Rat) (hr : Q 268435456 r') : Spec Tryz.prog 31 #[ratV p (encQ r')] [fRat p (encQ r')] (ι := Unit) (fun y => .int .i64 (Int.sign (r'.num))) (fun y => True) (fun y => []) := by
  have H := r03_Sign p (encQ r') (RQ_enc hr)
  first | exact H | (simp only [qv_encQ, validQ_encQ] at H; exact H)
theorem r03_Neg (p : RA) (r : Raw) (hr : RQ 268435456 r) : Spec Tryz.prog 72 #[ratV p r] [fRat p r] (ι := RA) (fun y => ratV y (encQ (-(qv r)))) (fun y => True) (fun y => [fRat y (encQ (-(qv r)))]) := by
  refine Spec.of_body _ (fn := Tryz.f72) k_ rfl k_ (fun X w0 => ?_)
  refine J.fact (φ := r.mag.length ≤ 140737488355328 ∧ r.den.length ≤ 140737488355328) (fun w h => by have h1 := (h _ (.head _)).1.1; have h2 := (h _ (.head _)).2.1; omega) (fun hl1 => ?_)
  have hq1 := hr.2.2.2.2.1
  refine J.sreg ?_
  refine RN.new (fun b => pt b) (.cells (ratC p r) 27 (0, 0)) k_ k_ (fun w => by kernel_rfl) (fun b2 => ?_)
  refine RN.new (fun b => pt b) (.cells (ratC (⟨saNil, saNil⟩ : RA) (⟨false, ([] : List Nat), ([] : List Nat)⟩ : Raw)) 27 (0, 0)) k_ k_ (fun w => by kernel_rfl) (fun b3 => ?_)
  refine RN.fin k_ ?_
  refine J.sreg ?_
  refine RN.bq [some 1] [1, 2, 3] [b2, b2, b2] (k' := 1) (l' := [(1, pt b2), (2, pt b3), (3, ratV p r)]) k_ ?_
  refine RN.call (r03_Take p r y_) [0] k_ k_ k_ rfl (fun y4 _ => ?_)
  refine RN.bat [some 1] [1, 2] [b2, b2, b2] (k' := 3) (l' := [(1, pt b2), (2, pt b3)]) (M' := [(b3, .cells (ratC (⟨saNil, saNil⟩ : RA) (⟨false, ([] : List Nat), ([] : List Nat)⟩ : Raw)) 27 (0, 0)), (b2, .cells (ratC y4 (encQ (qv r))) 27 (0, 0))]) k_ ?_
  refine RN.fin k_ ?_
  refine J.seq ?_
  refine J.regD k_ [6] ?_
  refine RD.bat k_ [(0, none), (1, some 1), (3, none), (4, some 1)] [2, 6, 9] [b2, b2, b2] (L' := [4, 3, 1, 0]) (l' := [(2, pt b3), (6, intV y4.mag (encZ ((qv r).num))), (9, sl (y4.den) (toD ((qv r).den)).length)]) k_ ?_
  refine RD.also (fU y4.mag (toL (((qv r).num).natAbs))) (fun w h => (h _ (.head _)).1) k_ ?_
  refine RD.call (i := 2) (r02_Neg_c y4.mag ((qv r).num) y_) [0] k_ k_ k_ k_ k_ rfl (fun y5 _ => ?_)
  refine RD.bat k_ [(5, none)] [2, 10] [] (L' := [5, 2, 4, 3, 1, 0]) (l' := [(2, pt b3), (10, ratV (⟨y5, y4.den⟩ : RA) (⟨decide ((-((qv r).num)) < 0), toL ((-((qv r).num)).natAbs), toD ((qv r).den)⟩ : Raw))]) k_ ?_
  refine RD.last (i := 6) (some 0) [2] [b3, b3, b3] k_ k_ k_ (l' := [(2, pt b3)]) (M' := [(b3, .cells (ratC (⟨y5, y4.den⟩ : RA) (⟨decide ((-((qv r).num)) < 0), toL ((-((qv r).num)).natAbs), toD ((qv r).den)⟩ : Raw)) 27 (0, 0)), (b2, .cells (ratC y4 (encQ (qv r))) 27 (0, 0))]) k_ ?_
  refine RD.done k_ ?_
  refine KN.next ?_
  have e_1 : (encQ (-(qv r))) = (⟨decide ((-((qv r).num)) < 0), toL ((-((qv r).num)).natAbs), toD ((qv r).den)⟩ : Raw) := by rw [encQ_neg]
  have e_2 : (toL (((-(qv r)).num).natAbs)) = (toL ((-((qv r).num)).natAbs)) := congrArg Raw.mag e_1
  have e_3 : (toD ((-(qv r)).den)) = (toD ((qv r).den)) := congrArg Raw.den e_1
  refine J.also (fRat (⟨y5, y4.den⟩ : RA) (⟨decide ((-((qv r).num)) < 0), toL ((-((qv r).num)).natAbs), toD ((qv r).den)⟩ : Raw)) (fun w h => ⟨(h _ (.head _)), (h _ (.tail _ ((.tail _ ((.head _)))))).2⟩) ?_
  refine J.ret (KR.ret (v := ratV (⟨y5, y4.den⟩ : RA) (⟨decide ((-((qv r).num)) < 0), toL ((-((qv r).num)).natAbs), toD ((qv r).den)⟩ : Raw)) (⟨y5, y4.den⟩) [some 0] [0] [b3, b3, b3] k_ (by first | rfl | (rw [e_1]; done) | (simp only [e_1]; done) | (rw [e_2, e_3]; done) | (rw [e_1, e_2, e_3]; rfl) | (simp only [e_1, e_2, e_3]; done) | (simp only [e_1, e_2, e_3]; rfl)) (trivial) (by first | rfl | (rw [e_1]; done) | (simp only [e_1]; done) | (rw [e_2, e_3]; done) | (rw [e_1, e_2, e_3]; rfl) | (simp only [e_1, e_2, e_3]; done) | (simp only [e_1, e_2, e_3]; rfl)))
theorem y_r03_Add {p : Prop} (h : p := by first | assumption | exact Lb_toL _ | omega | (simp; done) | first | exact den_mul_ne' _ _ | exact Q.le ‹_› (by decide) | (simp; done) | (simp; omega) | (rw [Int.natAbs_natCast]; omega)) : p := h
theorem r03_Add (p : RA) (r : Raw) (u : RA) (t : Raw) (hr : RQ 268435456 r) (ht : RQ 268435456 t) : Spec Tryz.prog 25 #[ratV p r, ratV u t] [fRat p r, fRat u t] (ι := RA) (fun y => ratV y (encQ ((qv r) + (qv t)))) (fun y => True) (fun y => [fRat y (encQ ((qv r) + (qv t)))]) := by
  refine Spec.of_body _ (fn := Tryz.f25) k_ rfl k_ (fun X w0 => ?_)
  refine J.fact (φ := r.mag.length ≤ 140737488355328 ∧ r.den.length ≤ 140737488355328) (fun w h => by have h1 := (h _ (.head _)).1.1; have h2 := (h _ (.head _)).2.1; omega) (fun hl1 => ?_)
  refine J.fact (φ := t.mag.length ≤ 140737488355328 ∧ t.den.length ≤ 140737488355328) (fun w h => by have h1 := (h _ (.tail _ ((.head _)))).1.1; have h2 := (h _ (.tail _ ((.head _)))).2.1; omega) (fun hl2 => ?_)
  have hq := hr.2.2.2.2
  have hu := ht.2.2.2.2
  have hq1 := hq.1
  have hq2 := hq.2
  have hu1 := hu.1
  have hu2 := hu.2
  have hqb := hq.le (by decide : 268435456 ≤ 1099511627776)
  have hub := hu.le (by decide : 268435456 ≤ 1099511627776)
  have z1 := zlen_mulN (qv r).num (qv t).den
  have z2 := zlen_mulN (qv t).num (qv r).den
  have z3 := zlen_mulN ((qv r).den : Int) (qv t).den
  have z4 := zlen_add (k := 1073741824) (by omega : (toL ((qv r).num * ((qv t).den : Int)).natAbs).length ≤ 1073741824) (by omega : (toL ((qv t).num * ((qv r).den : Int)).natAbs).length ≤ 1073741824)
  have z5 := zlen_mul (qv r).num (qv t).num
  have z6 := zlen_mul ((qv r).den : Int) (qv t).num
  rw [Int.natAbs_natCast] at z3 z6
  refine J.sreg ?_
  refine RN.new (fun b => pt b) (.cells (ratC p r) 27 (0, 0)) k_ k_ (fun w => by kernel_rfl) (fun b3 => ?_)
  refine RN.new (fun b => pt b) (.cells (ratC u t) 27 (0, 0)) k_ k_ (fun w => by kernel_rfl) (fun b4 => ?_)
  refine RN.new (fun b => pt b) (.cells (ratC (⟨saNil, saNil⟩ : RA) (⟨false, ([] : List Nat), ([] : List Nat)⟩ : Raw)) 27 (0, 0)) k_ k_ (fun w => by kernel_rfl) (fun b5 => ?_)
  refine RN.fin k_ ?_
  refine J.seq ?_
  refine J.regD k_ [4, 5] ?_
  refine RD.bat k_ [(0, some 2), (2, some 1)] [2, 3, 4, 5, 7] [b4, b4, b4, b3, b3, b3] (L' := [2, 0]) (l' := [(2, pt b3), (3, pt b4), (4, pt b5), (5, ratV p r), (7, ratV u t)]) k_ ?_
  refine RD.call (i := 1) (r03_Take p r y_r03_Add) [0] k_ k_ k_ k_ k_ rfl (fun y6 _ => ?_)
  refine RD.call (i := 3) (r03_Take u t y_r03_Add) [2] k_ k_ k_ k_ k_ rfl (fun y7 _ => ?_)
  refine RD.last (i := 4) (some 2) [2, 3, 4, 8] [b3, b3, b3] k_ k_ k_ (l' := [(2, pt b3), (3, pt b4), (4, pt b5), (8, ratV y7 (encQ (qv t)))]) (M' := [(b5, .cells (ratC (⟨saNil, saNil⟩ : RA) (⟨false, ([] : List Nat), ([] : List Nat)⟩ : Raw)) 27 (0, 0)), (b4, .cells (ratC u t) 27 (0, 0)), (b3, .cells (ratC y6 (encQ (qv r))) 27 (0, 0))]) k_ ?_
  refine RD.last (i := 5) (some 1) [2, 3, 4] [b4, b4, b4] k_ k_ k_ (l' := [(2, pt b3), (3, pt b4), (4, pt b5)]) (M' := [(b5, .cells (ratC (⟨saNil, saNil⟩ : RA) (⟨false, ([] : List Nat), ([] : List Nat)⟩ : Raw)) 27 (0, 0)), (b4, .cells (ratC y7 (encQ (qv t))) 27 (0, 0)), (b3, .cells (ratC y6 (encQ (qv r))) 27 (0, 0))]) k_ ?_
  refine RD.done k_ ?_
  refine KN.next ?_
  refine J.seq ?_
  refine J.regD k_ [17] ?_
  refine RD.bat k_ [(0, none), (1, some 2), (2, some 1), (5, none), (6, some 1), (7, some 2), (11, some 2), (13, some 1)] [4, 10, 11, 15, 16, 20, 22] [b4, b4, b4, b3, b3, b3, b3, b3, b3, b4, b4, b4, b4, b4, b3, b3] (L' := [13, 11, 7, 6, 5, 2, 1, 0]) (l' := [(4, pt b5), (10, intV y6.mag (encZ ((qv r).num))), (11, ratV y7 (encQ (qv t))), (15, intV y7.mag (encZ ((qv t).num))), (16, ratV y6 (encQ (qv r))), (20, ratV y6 (encQ (qv r))), (22, ratV y7 (encQ (qv t)))]) k_ ?_
  refine RD.call (i := 3) (r03_Den y7 (qv t) y_r03_Add) [0] k_ k_ k_ k_ k_ rfl (fun y8 _ => ?_)
  refine RD.also (fU y6.mag (toL (((qv r).num).natAbs))) (fun w h => (h _ (.tail _ ((.tail _ ((.head _)))))).1) k_ ?_
  refine RD.call (i := 4) (r02_Mul_c y6.mag ((qv r).num) y8 (((qv t).den : Nat) : Int) y_r03_Add y_r03_Add) [0, 1] k_ k_ k_ k_ k_ rfl (fun y9 _ => ?_)
  refine RD.call (i := 8) (r03_Den y6 (qv r) y_r03_Add) [4] k_ k_ k_ k_ k_ rfl (fun y10 _ => ?_)
  refine RD.also (fU y7.mag (toL (((qv t).num).natAbs))) (fun w h => (h _ (.tail _ ((.tail _ ((.tail _ ((.tail _ ((.head _)))))))))).1) k_ ?_
  refine RD.call (i := 9) (r02_Mul_c y7.mag ((qv t).num) y10 (((qv r).den : Nat) : Int) y_r03_Add y_r03_Add) [0, 1] k_ k_ k_ k_ k_ rfl (fun y11 _ => ?_)
  refine RD.call (i := 10) (r02_Add_c y9 (((qv r).num) * (((qv t).den : Nat) : Int)) y11 (((qv t).num) * (((qv r).den : Nat) : Int)) y_r03_Add y_r03_Add) [3, 0] k_ k_ k_ k_ k_ rfl (fun y12 _ => ?_)
  refine RD.call (i := 12) (r03_Den y6 (qv r) y_r03_Add) [8] k_ k_ k_ k_ k_ rfl (fun y13 _ => ?_)
  refine RD.call (i := 14) (r03_Den y7 (qv t) y_r03_Add) [8] k_ k_ k_ k_ k_ rfl (fun y14 _ => ?_)
  refine RD.call (i := 15) (r02_Mul_c y13 (((qv r).den : Nat) : Int) y14 (((qv t).den : Nat) : Int) y_r03_Add y_r03_Add) [1, 0] k_ k_ k_ k_ k_ rfl (fun y15 _ => ?_)
  refine RD.call (i := 16) (r03_over y12 ((((qv r).num) * (((qv t).den : Nat) : Int)) + (((qv t).num) * (((qv r).den : Nat) : Int))) y15 ((((qv r).den : Nat) : Int) * (((qv t).den : Nat) : Int)) y_r03_Add y_r03_Add y_r03_Add) [3, 0] k_ k_ k_ k_ k_ rfl (fun y16 _ => ?_)
  refine RD.last (i := 17) (some 0) [4] [b5, b5, b5] k_ k_ k_ (l' := [(4, pt b5)]) (M' := [(b5, .cells (ratC y16 (encQ (((((((qv r).num) * (((qv t).den : Nat) : Int)) + (((qv t).num) * (((qv r).den : Nat) : Int))) : Int) : Rat) / ((((((qv r).den : Nat) : Int) * (((qv t).den : Nat) : Int)) : Int) : Rat)))) 27 (0, 0)), (b4, .cells (ratC y7 (encQ (qv t))) 27 (0, 0)), (b3, .cells (ratC y6 (encQ (qv r))) 27 (0, 0))]) k_ ?_
  refine RD.done k_ ?_
  refine KN.next ?_
  have e_1 : (encQ ((qv r) + (qv t))) = (encQ (((((((qv r).num) * (((qv t).den : Nat) : Int)) + (((qv t).num) * (((qv r).den : Nat) : Int))) : Int) : Rat) / ((((((qv r).den : Nat) : Int) * (((qv t).den : Nat) : Int)) : Int) : Rat))) := by rw [add_parts]
  refine J.ret (KR.ret (v := ratV y16 (encQ (((((((qv r).num) * (((qv t).den : Nat) : Int)) + (((qv t).num) * (((qv r).den : Nat) : Int))) : Int) : Rat) / ((((((qv r).den : Nat) : Int) * (((qv t).den : Nat) : Int)) : Int) : Rat)))) (y16) [some 0] [0] [b5, b5, b5] k_ v1_ (trivial) v1_)
theorem r03_Add_c (p : RA) (r' : Rat) (u : RA) (t' : Rat) (hr : Q 268435456 r') (ht : Q 268435456 t') : Spec Tryz.prog 25 #[ratV p (encQ r'), ratV u (encQ t')] [fRat p (encQ r'), fRat u (encQ t')] (ι := RA) (fun y => ratV y (encQ (r' + t'))) (fun y => True) (fun y => [fRat y (encQ (r' + t'))]) := by
  have H := r03_Add p (encQ r') u (encQ t') (RQ_enc hr) (RQ_enc ht)
  first | exact H | (simp only [qv_encQ, validQ_encQ] at H; exact H)
theorem r03_Add_c2 (p : RA) (r : Raw) (u : RA) (t' : Rat) (hr : RQ 268435456 r) (ht : Q 268435456 t') : Spec Tryz.prog 25 #[ratV p r, ratV u (encQ t')] [fRat p r, fRat u (encQ t')] (ι := RA) (fun y => ratV y (encQ ((qv r) + t'))) (fun y => True) (fun y => [fRat y (encQ ((qv r) + t'))]) := by
  have H := r03_Add p r u (encQ t') (by first | exact hr | simpa only [qv_encQ] using hr) (RQ_enc ht)
  first | exact H | (simp only [qv_encQ, validQ_encQ] at H; exact H)
theorem y_r03_Mul {p : Prop} (h : p := by first | assumption | exact Lb_toL _ | omega | (simp; done) | first | exact den_mul_ne' _ _ | exact Q.le ‹_› (by decide) | (simp; done) | (simp; omega) | (rw [Int.natAbs_natCast]; omega)) : p := h
theorem r03_Mul (p : RA) (r : Raw) (u : RA) (t : Raw) (hr : RQ 268435456 r) (ht : RQ 268435456 t) : Spec Tryz.prog 33 #[ratV p r, ratV u t] [fRat p r, fRat u t] (ι := RA) (fun y => ratV y (encQ ((qv r) * (qv t)))) (fun y => True) (fun y => [fRat y (encQ ((qv r) * (qv t)))]) := by
  refine Spec.of_body _ (fn := Tryz.f33) k_ rfl k_ (fun X w0 => ?_)
  refine J.fact (φ := r.mag.length ≤ 140737488355328 ∧ r.den.length ≤ 140737488355328) (fun w h => by have h1 := (h _ (.head _)).1.1; have h2 := (h _ (.head _)).2.1; omega) (fun hl1 => ?_)
  refine J.fact (φ := t.mag.length ≤ 140737488355328 ∧ t.den.length ≤ 140737488355328) (fun w h => by have h1 := (h _ (.tail _ ((.head _)))).1.1; have h2 := (h _ (.tail _ ((.head _)))).2.1; omega) (fun hl2 => ?_)
  have hq := hr.2.2.2.2
  have hu := ht.2.2.2.2
  have hq1 := hq.1
  have hq2 := hq.2
  have hu1 := hu.1
  have hu2 := hu.2
  have hqb := hq.le (by decide : 268435456 ≤ 1099511627776)
  have hub := hu.le (by decide : 268435456 ≤ 1099511627776)
  have z1 := zlen_mulN (qv r).num (qv t).den
  have z2 := zlen_mulN (qv t).num (qv r).den
  have z3 := zlen_mulN ((qv r).den : Int) (qv t).den
  have z4 := zlen_add (k := 1073741824) (by omega : (toL ((qv r).num * ((qv t).den : Int)).natAbs).length ≤ 1073741824) (by omega : (toL ((qv t).num * ((qv r).den : Int)).natAbs).length ≤ 1073741824)
  have z5 := zlen_mul (qv r).num (qv t).num
  have z6 := zlen_mul ((qv r).den : Int) (qv t).num
  rw [Int.natAbs_natCast] at z3 z6
  refine J.sreg ?_
  refine RN.new (fun b => pt b) (.cells (ratC p r) 27 (0, 0)) k_ k_ (fun w => by kernel_rfl) (fun b3 => ?_)
  refine RN.new (fun b => pt b) (.cells (ratC u t) 27 (0, 0)) k_ k_ (fun w => by kernel_rfl) (fun b4 => ?_)
  refine RN.new (fun b => pt b) (.cells (ratC (⟨saNil, saNil⟩ : RA) (⟨false, ([] : List Nat), ([] : List Nat)⟩ : Raw)) 27 (0, 0)) k_ k_ (fun w => by kernel_rfl) (fun b5 => ?_)
  refine RN.fin k_ ?_
  refine J.seq ?_
  refine J.regD k_ [4, 5] ?_
  refine RD.bat k_ [(0, some 2), (2, some 1)] [2, 3, 4, 5, 7] [b4, b4, b4, b3, b3, b3] (L' := [2, 0]) (l' := [(2, pt b3), (3, pt b4), (4, pt b5), (5, ratV p r), (7, ratV u t)]) k_ ?_
  refine RD.call (i := 1) (r03_Take p r y_r03_Mul) [0] k_ k_ k_ k_ k_ rfl (fun y6 _ => ?_)
  refine RD.call (i := 3) (r03_Take u t y_r03_Mul) [2] k_ k_ k_ k_ k_ rfl (fun y7 _ => ?_)
  refine RD.last (i := 4) (some 2) [2, 3, 4, 8] [b3, b3, b3] k_ k_ k_ (l' := [(2, pt b3), (3, pt b4), (4, pt b5), (8, ratV y7 (encQ (qv t)))]) (M' := [(b5, .cells (ratC (⟨saNil, saNil⟩ : RA) (⟨false, ([] : List Nat), ([] : List Nat)⟩ : Raw)) 27 (0, 0)), (b4, .cells (ratC u t) 27 (0, 0)), (b3, .cells (ratC y6 (encQ (qv r))) 27 (0, 0))]) k_ ?_
  refine RD.last (i := 5) (some 1) [2, 3, 4] [b4, b4, b4] k_ k_ k_ (l' := [(2, pt b3), (3, pt b4), (4, pt b5)]) (M' := [(b5, .cells (ratC (⟨saNil, saNil⟩ : RA) (⟨false, ([] : List Nat), ([] : List Nat)⟩ : Raw)) 27 (0, 0)), (b4, .cells (ratC y7 (encQ (qv t))) 27 (0, 0)), (b3, .cells (ratC y6 (encQ (qv r))) 27 (0, 0))]) k_ ?_
  refine RD.done k_ ?_
  refine KN.next ?_
  refine J.seq ?_
  refine J.regD k_ [11] ?_
  refine RD.bat k_ [(0, none), (1, some 2), (2, none), (3, some 1), (5, some 2), (7, some 1)] [4, 10, 12, 14, 16] [b4, b4, b4, b3, b3, b3, b4, b4, b3, b3] (L' := [7, 5, 3, 2, 1, 0]) (l' := [(4, pt b5), (10, intV y6.mag (encZ ((qv r).num))), (12, intV y7.mag (encZ ((qv t).num))), (14, ratV y6 (encQ (qv r))), (16, ratV y7 (encQ (qv t)))]) k_ ?_
  refine RD.also (fU y6.mag (toL (((qv r).num).natAbs))) (fun w h => (h _ (.tail _ ((.head _)))).1) k_ ?_
  refine RD.also (fU y7.mag (toL (((qv t).num).natAbs))) (fun w h => (h _ (.tail _ ((.head _)))).1) k_ ?_
  refine RD.call (i := 4) (r02_Mul_c y6.mag ((qv r).num) y7.mag ((qv t).num) y_r03_Mul y_r03_Mul) [1, 0] k_ k_ k_ k_ k_ rfl (fun y8 _ => ?_)
  refine RD.call (i := 6) (r03_Den y6 (qv r) y_r03_Mul) [4] k_ k_ k_ k_ k_ rfl (fun y9 _ => ?_)
  refine RD.call (i := 8) (r03_Den y7 (qv t) y_r03_Mul) [4] k_ k_ k_ k_ k_ rfl (fun y10 _ => ?_)
  refine RD.call (i := 9) (r02_Mul_c y9 (((qv r).den : Nat) : Int) y10 (((qv t).den : Nat) : Int) y_r03_Mul y_r03_Mul) [1, 0] k_ k_ k_ k_ k_ rfl (fun y11 _ => ?_)
  refine RD.call (i := 10) (r03_over y8 (((qv r).num) * ((qv t).num)) y11 ((((qv r).den : Nat) : Int) * (((qv t).den : Nat) : Int)) y_r03_Mul y_r03_Mul y_r03_Mul) [3, 0] k_ k_ k_ k_ k_ rfl (fun y12 _ => ?_)
  refine RD.last (i := 11) (some 0) [4] [b5, b5, b5] k_ k_ k_ (l' := [(4, pt b5)]) (M' := [(b5, .cells (ratC y12 (encQ ((((((qv r).num) * ((qv t).num)) : Int) : Rat) / ((((((qv r).den : Nat) : Int) * (((qv t).den : Nat) : Int)) : Int) : Rat)))) 27 (0, 0)), (b4, .cells (ratC y7 (encQ (qv t))) 27 (0, 0)), (b3, .cells (ratC y6 (encQ (qv r))) 27 (0, 0))]) k_ ?_
  refine RD.done k_ ?_
  refine KN.next ?_
  have e_1 : (encQ ((qv r) * (qv t))) = (encQ ((((((qv r).num) * ((qv t).num)) : Int) : Rat) / ((((((qv r).den : Nat) : Int) * (((qv t).den : Nat) : Int)) : Int) : Rat))) := by rw [mul_parts]
  refine J.ret (KR.ret (v := ratV y12 (encQ ((((((qv r).num) * ((qv t).num)) : Int) : Rat) / ((((((qv r).den : Nat) : Int) * (((qv t).den : Nat) : Int)) : Int) : Rat)))) (y12) [some 0] [0] [b5, b5, b5] k_ v1_ (trivial) v1_)
theorem r03_Mul_c (p : RA) (r' : Rat) (u : RA) (t' : Rat) (hr : Q 268435456 r') (ht : Q 268435456 t') : Spec Tryz.prog 33 #[ratV p (encQ r'), ratV u (encQ t')] [fRat p (encQ r'), fRat u (encQ t')] (ι := RA) (fun y => ratV y (encQ (r' * t'))) (fun y => True) (fun y => [fRat y (encQ (r' * t'))]) := by
  have H := r03_Mul p (encQ r') u (encQ t') (RQ_enc hr) (RQ_enc ht)
  first | exact H | (simp only [qv_encQ, validQ_encQ] at H; exact H)
theorem y_r03_Sub {p : Prop} (h : p := by first | assumption | exact Lb_toL _ | omega | (simp; done) | exact hu.neg) : p := h
theorem r03_Sub (p : RA) (r : Raw) (u : RA) (t : Raw) (hr : RQ 268435456 r) (ht : RQ 268435456 t) : Spec Tryz.prog 53 #[ratV p r, ratV u t] [fRat p r, fRat u t] (ι := RA) (fun y => ratV y (encQ ((qv r) - (qv t)))) (fun y => True) (fun y => [fRat y (encQ ((qv r) - (qv t)))]) := by
  refine Spec.of_body _ (fn := Tryz.f53) k_ rfl k_ (fun X w0 => ?_)
  refine J.fact (φ := r.mag.length ≤ 140737488355328 ∧ r.den.length ≤ 140737488355328) (fun w h => by have h1 := (h _ (.head _)).1.1; have h2 := (h _ (.head _)).2.1; omega) (fun hl1 => ?_)
  refine J.fact (φ := t.mag.length ≤ 140737488355328 ∧ t.den.length ≤ 140737488355328) (fun w h => by have h1 := (h _ (.tail _ ((.head _)))).1.1; have h2 := (h _ (.tail _ ((.head _)))).2.1; omega) (fun hl2 => ?_)
  have hq := hr.2.2.2.2
  have hu := ht.2.2.2.2
  have hq1 := hq.1
  have hq2 := hq.2
  have hu1 := hu.1
  have hu2 := hu.2
  have hqb := hq.le (by decide : 268435456 ≤ 1099511627776)
  have hub := hu.le (by decide : 268435456 ≤ 1099511627776)
  refine J.sreg ?_
  refine RN.new (fun b => pt b) (.cells (ratC p r) 27 (0, 0)) k_ k_ (fun w => by kernel_rfl) (fun b3 => ?_)
  refine RN.new (fun b => pt b) (.cells (ratC u t) 27 (0, 0)) k_ k_ (fun w => by kernel_rfl) (fun b4 => ?_)
  refine RN.new (fun b => pt b) (.cells (ratC (⟨saNil, saNil⟩ : RA) (⟨false, ([] : List Nat), ([] : List Nat)⟩ : Raw)) 27 (0, 0)) k_ k_ (fun w => by kernel_rfl) (fun b5 => ?_)
  refine RN.fin k_ ?_
  refine J.seq ?_
  refine J.regD k_ [4] ?_
  refine RD.bat k_ [(0, some 2), (1, some 1)] [4, 5, 6] [b4, b4, b4, b3, b3, b3] (L' := [1, 0]) (l' := [(4, pt b5), (5, ratV p r), (6, ratV u t)]) k_ ?_
  refine RD.call (i := 2) (r03_Neg u t y_r03_Sub) [1] k_ k_ k_ k_ k_ rfl (fun y6 _ => ?_)
  refine RD.call (i := 3) (r03_Add_c2 p r y6 (-(qv t)) y_r03_Sub y_r03_Sub) [1, 0] k_ k_ k_ k_ k_ rfl (fun y7 _ => ?_)
  refine RD.last (i := 4) (some 0) [4] [b5, b5, b5] k_ k_ k_ (l' := [(4, pt b5)]) (M' := [(b5, .cells (ratC y7 (encQ ((qv r) + (-(qv t))))) 27 (0, 0)), (b4, .cells (ratC u t) 27 (0, 0)), (b3, .cells (ratC p r) 27 (0, 0))]) k_ ?_
  refine RD.done k_ ?_
  refine KN.next ?_
  have e_1 : (encQ ((qv r) - (qv t))) = (encQ ((qv r) + (-(qv t)))) := by rw [Rat.sub_eq_add_neg]
  refine J.ret (KR.ret (v := ratV y7 (encQ ((qv r) + (-(qv t))))) (y7) [some 0] [0] [b5, b5, b5] k_ v1_ (trivial) v1_)
theorem r03_Sub_c (p : RA) (r' : Rat) (u : RA) (t' : Rat) (hr : Q 268435456 r') (ht : Q 268435456 t') : Spec Tryz.prog 53 #[ratV p (encQ r'), ratV u (encQ t')] [fRat p (encQ r'), fRat u (encQ t')] (ι := RA) (fun y => ratV y (encQ (r' - t'))) (fun y => True) (fun y => [fRat y (encQ (r' - t'))]) := by
  have H := r03_Sub p (encQ r') u (encQ t') (RQ_enc hr) (RQ_enc ht)
  first | exact H | (simp only [qv_encQ, validQ_encQ] at H; exact H)
theorem r03_Sub_c1 (p : RA) (r' : Rat) (u : RA) (t : Raw) (hr : Q 268435456 r') (ht : RQ 268435456 t) : Spec Tryz.prog 53 #[ratV p (encQ r'), ratV u t] [fRat p (encQ r'), fRat u t] (ι := RA) (fun y => ratV y (encQ (r' - (qv t)))) (fun y => True) (fun y => [fRat y (encQ (r' - (qv t)))]) := by
  have H := r03_Sub p (encQ r') u t (RQ_enc hr) (by first | exact ht | simpa only [qv_encQ] using ht)
  first | exact H | (simp only [qv_encQ, validQ_encQ] at H; exact H)
theorem r03_Same (p : RA) (r : Raw) (u : RA) (t : Raw) : Spec Tryz.prog 15 #[ratV p r, ratV u t] [fRat p r, fRat u t] (ι := Unit) (fun y => .bool (decide (r = t))) (fun y => True) (fun y => []) := by
  refine Spec.of_body _ (fn := Tryz.f15) k_ rfl k_ (fun X w0 => ?_)
  refine J.fact (φ := r.mag.length ≤ 140737488355328 ∧ r.den.length ≤ 140737488355328) (fun w h => by have h1 := (h _ (.head _)).1.1; have h2 := (h _ (.head _)).2.1; omega) (fun hl1 => ?_)
  refine J.fact (φ := t.mag.length ≤ 140737488355328 ∧ t.den.length ≤ 140737488355328) (fun w h => by have h1 := (h _ (.tail _ ((.head _)))).1.1; have h2 := (h _ (.tail _ ((.head _)))).2.1; omega) (fun hl2 => ?_)
  refine J.sreg ?_
  refine RN.new (fun b => pt b) (.cells (ratC p r) 27 (0, 0)) k_ k_ (fun w => by kernel_rfl) (fun b3 => ?_)
  refine RN.new (fun b => pt b) (.cells (ratC u t) 27 (0, 0)) k_ k_ (fun w => by kernel_rfl) (fun b4 => ?_)
  refine RN.bq (no 1) [2, 3] [] (k' := 3) (l' := [(2, pt b3), (3, pt b4)]) k_ ?_
  refine RN.fin k_ ?_
  refine J.sreg ?_
  refine RN.bq [none, some 1, none, some 0] [2, 3, 6, 8] [b4, b4, b3, b3] (k' := 4) (l' := [(2, pt b3), (3, pt b4), (6, intV p.mag (⟨r.neg, r.mag⟩ : RawI)), (8, intV u.mag (⟨t.neg, t.mag⟩ : RawI))]) k_ ?_
  refine RN.also (fU p.mag r.mag) (fun w h => (h _ (.head _)).1) ?_
  refine RN.also (fU u.mag t.mag) (fun w h => (h _ (.tail _ ((.tail _ ((.head _)))))).1) ?_
  refine RN.call (r02_Same p.mag ⟨r.neg, r.mag⟩ u.mag ⟨t.neg, t.mag⟩) [1, 0] k_ k_ k_ rfl (fun y5 _ => ?_)
  refine RN.bq (no 1) [2, 3, 10] [] (k' := 6) (l' := [(2, pt b3), (3, pt b4), (10, .bool (decide ((⟨r.neg, r.mag⟩ : RawI) = (⟨t.neg, t.mag⟩ : RawI))))]) k_ ?_
  refine RN.split 10 (decide ((⟨r.neg, r.mag⟩ : RawI) = (⟨t.neg, t.mag⟩ : RawI))) k_ (fun c6 => ?_) (fun c6 => ?_)
  · skip
    replace c6 := of_decide_eq_true c6
    refine RN.bq [none, some 1, none, some 0] [10, 12, 14] [b4, b3] (k' := 10) (l' := [(10, .bool true), (12, sl (p.den) (r.den).length), (14, sl (u.den) (t.den).length)]) k_ ?_
    refine RN.also (fU (p.den) (r.den)) (fun w h => (h _ (.tail _ ((.tail _ ((.head _)))))).2) ?_
    refine RN.also (fU (u.den) (t.den)) (fun w h => (h _ (.tail _ ((.tail _ ((.tail _ ((.tail _ ((.head _)))))))))).2) ?_
    refine RN.call (r01_Same (p.den) (r.den) (u.den) (t.den)) [1, 0] k_ k_ k_ rfl (fun y7 _ => ?_)
    refine RN.bq (no 2) [4] [] (k' := 13) (l' := [(4, .bool (decide ((r.den) = (t.den))))]) k_ ?_
    refine RN.fin k_ ?_
    have e_1 : (decide (r = t)) = (decide ((r.den) = (t.den))) := by rcases r with ⟨a, b, c⟩; rcases t with ⟨d, e, f⟩; simp_all
    refine J.ret (KR.ret (v := .bool (decide ((r.den) = (t.den)))) (()) [none] [] [] k_ v1_ (trivial) v1_)
  · skip
    replace c6 := of_decide_eq_false c6
    refine RN.bq (no 7) [4] [] (k' := 13) (l' := [(4, .bool false)]) k_ ?_
    refine RN.fin k_ ?_
    have e_1 : (decide (r = t)) = false := by rcases r with ⟨a, b, c⟩; rcases t with ⟨d, e, f⟩; simp_all
    refine J.ret (KR.ret (v := .bool false) (()) [none] [] [] k_ v1_ (trivial) v1_)
theorem quo_ne {x y : Rat} (h : y ≠ 0) : ((x.den : Nat) : Int) * y.num ≠ 0 := by
  have h1 := x.den_nz
  exact Int.mul_ne_zero (by omega) (fun h' => h (Rat.num_eq_zero.1 h'))
theorem y_r03_Quo {p : Prop} (h : p := by first | assumption | exact Lb_toL _ | omega | (simp; done) | first | exact quo_ne h0 | exact den_mul_ne' _ _ | exact Q.le ‹_› (by decide) | (simp; done) | (simp; omega) | (rw [Int.natAbs_natCast]; omega)) : p := h
theorem r03_Quo (p : RA) (r : Raw) (u : RA) (t : Raw) (hr : RQ 268435456 r) (ht : RQ 268435456 t) (h0 : (qv t) ≠ 0) : Spec Tryz.prog 80 #[ratV p r, ratV u t] [fRat p r, fRat u t] (ι := RA) (fun y => ratV y (encQ ((qv r) / (qv t)))) (fun y => True) (fun y => [fRat y (encQ ((qv r) / (qv t)))]) := by
  refine Spec.of_body _ (fn := Tryz.f80) k_ rfl k_ (fun X w0 => ?_)
  refine J.fact (φ := r.mag.length ≤ 140737488355328 ∧ r.den.length ≤ 140737488355328) (fun w h => by have h1 := (h _ (.head _)).1.1; have h2 := (h _ (.head _)).2.1; omega) (fun hl1 => ?_)
  refine J.fact (φ := t.mag.length ≤ 140737488355328 ∧ t.den.length ≤ 140737488355328) (fun w h => by have h1 := (h _ (.tail _ ((.head _)))).1.1; have h2 := (h _ (.tail _ ((.head _)))).2.1; omega) (fun hl2 => ?_)
  have hq := hr.2.2.2.2
  have hu := ht.2.2.2.2
  have hq1 := hq.1
  have hq2 := hq.2
  have hu1 := hu.1
  have hu2 := hu.2
  have hqb := hq.le (by decide : 268435456 ≤ 1099511627776)
  have hub := hu.le (by decide : 268435456 ≤ 1099511627776)
  have z1 := zlen_mulN (qv r).num (qv t).den
  have z2 := zlen_mulN (qv t).num (qv r).den
  have z3 := zlen_mulN ((qv r).den : Int) (qv t).den
  have z4 := zlen_add (k := 1073741824) (by omega : (toL ((qv r).num * ((qv t).den : Int)).natAbs).length ≤ 1073741824) (by omega : (toL ((qv t).num * ((qv r).den : Int)).natAbs).length ≤ 1073741824)
  have z5 := zlen_mul (qv r).num (qv t).num
  have z6 := zlen_mul ((qv r).den : Int) (qv t).num
  rw [Int.natAbs_natCast] at z3 z6
  refine J.sreg ?_
  refine RN.new (fun b => pt b) (.cells (ratC p r) 27 (0, 0)) k_ k_ (fun w => by kernel_rfl) (fun b3 => ?_)
  refine RN.new (fun b => pt b) (.cells (ratC u t) 27 (0, 0)) k_ k_ (fun w => by kernel_rfl) (fun b4 => ?_)
  refine RN.new (fun b => pt b) (.cells (ratC (⟨saNil, saNil⟩ : RA) (⟨false, ([] : List Nat), ([] : List Nat)⟩ : Raw)) 27 (0, 0)) k_ k_ (fun w => by kernel_rfl) (fun b5 => ?_)
  refine RN.fin k_ ?_
  refine J.seq ?_
  refine J.regD k_ [4, 5] ?_
  refine RD.bat k_ [(0, some 2), (2, some 1)] [2, 3, 4, 5, 7] [b4, b4, b4, b3, b3, b3] (L' := [2, 0]) (l' := [(2, pt b3), (3, pt b4), (4, pt b5), (5, ratV p r), (7, ratV u t)]) k_ ?_
  refine RD.call (i := 1) (r03_Take p r y_r03_Quo) [0] k_ k_ k_ k_ k_ rfl (fun y6 _ => ?_)
  refine RD.call (i := 3) (r03_Take u t y_r03_Quo) [2] k_ k_ k_ k_ k_ rfl (fun y7 _ => ?_)
  refine RD.last (i := 4) (some 2) [2, 3, 4, 8] [b3, b3, b3] k_ k_ k_ (l' := [(2, pt b3), (3, pt b4), (4, pt b5), (8, ratV y7 (encQ (qv t)))]) (M' := [(b5, .cells (ratC (⟨saNil, saNil⟩ : RA) (⟨false, ([] : List Nat), ([] : List Nat)⟩ : Raw)) 27 (0, 0)), (b4, .cells (ratC u t) 27 (0, 0)), (b3, .cells (ratC y6 (encQ (qv r))) 27 (0, 0))]) k_ ?_
  refine RD.last (i := 5) (some 1) [2, 3, 4] [b4, b4, b4] k_ k_ k_ (l' := [(2, pt b3), (3, pt b4), (4, pt b5)]) (M' := [(b5, .cells (ratC (⟨saNil, saNil⟩ : RA) (⟨false, ([] : List Nat), ([] : List Nat)⟩ : Raw)) 27 (0, 0)), (b4, .cells (ratC y7 (encQ (qv t))) 27 (0, 0)), (b3, .cells (ratC y6 (encQ (qv r))) 27 (0, 0))]) k_ ?_
  refine RD.done k_ ?_
  refine KN.next ?_
  refine J.seq ?_
  refine J.regD k_ [11] ?_
  refine RD.bat k_ [(0, none), (1, some 2), (2, some 1), (5, some 2), (7, none), (8, some 1)] [4, 10, 11, 14, 17] [b4, b4, b3, b3, b3, b4, b4, b4, b3, b3] (L' := [8, 7, 5, 2, 1, 0]) (l' := [(4, pt b5), (10, intV y6.mag (encZ ((qv r).num))), (11, ratV y7 (encQ (qv t))), (14, ratV y6 (encQ (qv r))), (17, intV y7.mag (encZ ((qv t).num)))]) k_ ?_
  refine RD.call (i := 3) (r03_Den y7 (qv t) y_r03_Quo) [0] k_ k_ k_ k_ k_ rfl (fun y8 _ => ?_)
  refine RD.also (fU y6.mag (toL (((qv r).num).natAbs))) (fun w h => (h _ (.tail _ ((.tail _ ((.head _)))))).1) k_ ?_
  refine RD.call (i := 4) (r02_Mul_c y6.mag ((qv r).num) y8 (((qv t).den : Nat) : Int) y_r03_Quo y_r03_Quo) [0, 1] k_ k_ k_ k_ k_ rfl (fun y9 _ => ?_)
  refine RD.call (i := 6) (r03_Den y6 (qv r) y_r03_Quo) [4] k_ k_ k_ k_ k_ rfl (fun y10 _ => ?_)
  refine RD.also (fU y7.mag (toL (((qv t).num).natAbs))) (fun w h => (h _ (.tail _ ((.tail _ ((.tail _ ((.tail _ ((.head _)))))))))).1) k_ ?_
  refine RD.call (i := 9) (r02_Mul_c y10 (((qv r).den : Nat) : Int) y7.mag ((qv t).num) y_r03_Quo y_r03_Quo) [1, 0] k_ k_ k_ k_ k_ rfl (fun y11 _ => ?_)
  refine RD.call (i := 10) (r03_over y9 (((qv r).num) * (((qv t).den : Nat) : Int)) y11 ((((qv r).den : Nat) : Int) * ((qv t).num)) y_r03_Quo y_r03_Quo y_r03_Quo) [3, 0] k_ k_ k_ k_ k_ rfl (fun y12 _ => ?_)
  refine RD.last (i := 11) (some 0) [4] [b5, b5, b5] k_ k_ k_ (l' := [(4, pt b5)]) (M' := [(b5, .cells (ratC y12 (encQ ((((((qv r).num) * (((qv t).den : Nat) : Int)) : Int) : Rat) / ((((((qv r).den : Nat) : Int) * ((qv t).num)) : Int) : Rat)))) 27 (0, 0)), (b4, .cells (ratC y7 (encQ (qv t))) 27 (0, 0)), (b3, .cells (ratC y6 (encQ (qv r))) 27 (0, 0))]) k_ ?_
  refine RD.done k_ ?_
  refine KN.next ?_
  have e_1 : (encQ ((qv r) / (qv t))) = (encQ ((((((qv r).num) * (((qv t).den : Nat) : Int)) : Int) : Rat) / ((((((qv r).den : Nat) : Int) * ((qv t).num)) : Int) : Rat))) := by rw [quo_parts]
  refine J.ret (KR.ret (v := ratV y12 (encQ ((((((qv r).num) * (((qv t).den : Nat) : Int)) : Int) : Rat) / ((((((qv r).den : Nat) : Int) * ((qv t).num)) : Int) : Rat)))) (y12) [some 0] [0] [b5, b5, b5] k_ v1_ (trivial) v1_)
theorem r03_Quo_c (p : RA) (r' : Rat) (u : RA) (t' : Rat) (hr : Q 268435456 r') (ht : Q 268435456 t') (h0 : t' ≠ 0) : Spec Tryz.prog 80 #[ratV p (encQ r'), ratV u (encQ t')] [fRat p (encQ r'), fRat u (encQ t')] (ι := RA) (fun y => ratV y (encQ (r' / t'))) (fun y => True) (fun y => [fRat y (encQ (r' / t'))]) := by
  have H := r03_Quo p (encQ r') u (encQ t') (RQ_enc hr) (RQ_enc ht) (by first | exact h0 | simpa only [qv_encQ, qv_encQ] using h0)
  first | exact H | (simp only [qv_encQ, validQ_encQ] at H; exact H)
theorem r03_Compare (p : RA) (r : Raw) (u : RA) (t : Raw) (hr : RQ 268435456 r) (ht : RQ 268435456 t) (hs : Q 268435456 ((qv r) - (qv t))) : Spec Tryz.prog 73 #[ratV p r, ratV u t] [fRat p r, fRat u t] (ι := Unit) (fun y => .int .i64 (Int.sign (((qv r) - (qv t)).num))) (fun y => True) (fun y => []) := by
  refine Spec.of_body _ (fn := Tryz.f73) k_ rfl k_ (fun X w0 => ?_)
  refine J.fact (φ := r.mag.length ≤ 140737488355328 ∧ r.den.length ≤ 140737488355328) (fun w h => by have h1 := (h _ (.head _)).1.1; have h2 := (h _ (.head _)).2.1; omega) (fun hl1 => ?_)
  refine J.fact (φ := t.mag.length ≤ 140737488355328 ∧ t.den.length ≤ 140737488355328) (fun w h => by have h1 := (h _ (.tail _ ((.head _)))).1.1; have h2 := (h _ (.tail _ ((.head _)))).2.1; omega) (fun hl2 => ?_)
  refine J.sreg ?_
  refine RN.new (fun b => pt b) (.cells (ratC p r) 27 (0, 0)) k_ k_ (fun w => by kernel_rfl) (fun b3 => ?_)
  refine RN.new (fun b => pt b) (.cells (ratC u t) 27 (0, 0)) k_ k_ (fun w => by kernel_rfl) (fun b4 => ?_)
  refine RN.bq (no 1) [2, 3] [] (k' := 3) (l' := [(2, pt b3), (3, pt b4)]) k_ ?_
  refine RN.fin k_ ?_
  refine J.sreg ?_
  refine RN.bq [some 1, some 0] [5, 6] [b4, b4, b4, b3, b3, b3] (k' := 2) (l' := [(5, ratV p r), (6, ratV u t)]) k_ ?_
  refine RN.call (r03_Sub p r u t y_ y_) [0, 1] k_ k_ k_ rfl (fun y5 _ => ?_)
  refine RN.call (r03_Sign_c y5 ((qv r) - (qv t)) y_) [0] k_ k_ k_ rfl (fun y6 _ => ?_)
  refine RN.bq (no 1) [4] [] (k' := 5) (l' := [(4, .int .i64 (Int.sign (((qv r) - (qv t)).num)))]) k_ ?_
  refine RN.fin k_ ?_
  refine J.ret (KR.ret (v := .int .i64 (Int.sign (((qv r) - (qv t)).num))) (()) [none] [] [] k_ rfl (trivial) rfl)
theorem r03_Less (p : RA) (r : Raw) (u : RA) (t : Raw) (hr : RQ 268435456 r) (ht : RQ 268435456 t) (hs : Q 268435456 ((qv r) - (qv t))) : Spec Tryz.prog 29 #[ratV p r, ratV u t] [fRat p r, fRat u t] (ι := Unit) (fun y => .bool (decide ((qv r) < (qv t)))) (fun y => True) (fun y => []) := by
  refine Spec.of_body _ (fn := Tryz.f29) k_ rfl k_ (fun X w0 => ?_)
  refine J.fact (φ := r.mag.length ≤ 140737488355328 ∧ r.den.length ≤ 140737488355328) (fun w h => by have h1 := (h _ (.head _)).1.1; have h2 := (h _ (.head _)).2.1; omega) (fun hl1 => ?_)
  refine J.fact (φ := t.mag.length ≤ 140737488355328 ∧ t.den.length ≤ 140737488355328) (fun w h => by have h1 := (h _ (.tail _ ((.head _)))).1.1; have h2 := (h _ (.tail _ ((.head _)))).2.1; omega) (fun hl2 => ?_)
  refine J.sreg ?_
  refine RN.new (fun b => pt b) (.cells (ratC p r) 27 (0, 0)) k_ k_ (fun w => by kernel_rfl) (fun b3 => ?_)
  refine RN.new (fun b => pt b) (.cells (ratC u t) 27 (0, 0)) k_ k_ (fun w => by kernel_rfl) (fun b4 => ?_)
  refine RN.bq (no 1) [2, 3] [] (k' := 3) (l' := [(2, pt b3), (3, pt b4)]) k_ ?_
  refine RN.fin k_ ?_
  refine J.sreg ?_
  refine RN.bq [some 1, some 0] [5, 6] [b4, b4, b4, b3, b3, b3] (k' := 2) (l' := [(5, ratV p r), (6, ratV u t)]) k_ ?_
  refine RN.call (r03_Compare p r u t y_ y_ y_) [0, 1] k_ k_ k_ rfl (fun y5 _ => ?_)
  refine RN.bq (no 2) [4] [] (k' := 5) (l' := [(4, .bool (decide ((Int.sign (((qv r) - (qv t)).num)) < 0)))]) k_ ?_
  refine RN.fin k_ ?_
  have e_1 : (decide ((qv r) < (qv t))) = (decide ((Int.sign (((qv r) - (qv t)).num)) < 0)) := by rw [decide_eq_decide, sub_sign_lt]
  refine J.ret (KR.ret (v := .bool (decide ((Int.sign (((qv r) - (qv t)).num)) < 0))) (()) [none] [] [] k_ v1_ (trivial) v1_)
theorem r03_Less_c2 (p : RA) (r : Raw) (u : RA) (t' : Rat) (hr : RQ 268435456 r) (ht : Q 268435456 t') (hs : Q 268435456 ((qv r) - t')) : Spec Tryz.prog 29 #[ratV p r, ratV u (encQ t')] [fRat p r, fRat u (encQ t')] (ι := Unit) (fun y => .bool (decide ((qv r) < t'))) (fun y => True) (fun y => []) := by
  have H := r03_Less p r u (encQ t') (by first | exact hr | simpa only [qv_encQ] using hr) (RQ_enc ht) (by first | exact hs | simpa only [qv_encQ] using hs)
  first | exact H | (simp only [qv_encQ, validQ_encQ] at H; exact H)
theorem r03_Fraction (a : Int) (b : Int) (ha1 : -9223372036854775808 ≤ a) (ha2 : a < 9223372036854775808) (hb1 : -9223372036854775808 ≤ b) (hb2 : b < 9223372036854775808) (hb0 : b ≠ 0) : Spec Tryz.prog 37 #[.int .i64 a, .int .i64 b] [] (ι := RA) (fun y => ratV y (encQ (((a : Int) : Rat) / ((b : Int) : Rat)))) (fun y => True) (fun y => [fRat y (encQ (((a : Int) : Rat) / ((b : Int) : Rat)))]) := by
  refine Spec.of_body _ (fn := Tryz.f37) k_ rfl k_ (fun X w0 => ?_)
  have hla : (toL a.natAbs).length ≤ 2 := u64_len.2 (by omega)
  have hlb : (toL b.natAbs).length ≤ 2 := u64_len.2 (by omega)
  refine J.sreg ?_
  refine RN.new (fun b => pt b) (.cells (ratC (⟨saNil, saNil⟩ : RA) (⟨false, ([] : List Nat), ([] : List Nat)⟩ : Raw)) 27 (0, 0)) k_ k_ (fun w => by kernel_rfl) (fun b1 => ?_)
  refine RN.fin k_ ?_
  refine J.sreg ?_
  refine RN.bq (no 1) [1, 4, 5] [] (k' := 1) (l' := [(1, .int .i64 b), (4, pt b1), (5, .int .i64 a)]) k_ ?_
  refine RN.call (r02_FromInt a y_ y_) [] k_ k_ k_ rfl (fun y2 _ => ?_)
  refine RN.bq (no 1) [4, 6, 7] [] (k' := 3) (l' := [(4, pt b1), (6, intV y2 (encZ a)), (7, .int .i64 b)]) k_ ?_
  refine RN.call (r02_FromInt b y_ y_) [] k_ k_ k_ rfl (fun y3 _ => ?_)
  refine RN.call (r03_over y2 a y3 b y_ y_ y_) [1, 0] k_ k_ k_ rfl (fun y4 _ => ?_)
  refine RN.bat [some 0] [4] [b1, b1, b1] (k' := 6) (l' := [(4, pt b1)]) (M' := [(b1, .cells (ratC y4 (encQ (((a : Int) : Rat) / ((b : Int) : Rat)))) 27 (0, 0))]) k_ ?_
  refine RN.fin k_ ?_
  refine J.ret (KR.ret (v := ratV y4 (encQ (((a : Int) : Rat) / ((b : Int) : Rat)))) (y4) [some 0] [0] [b1, b1, b1] k_ rfl (trivial) rfl)
end Go.Proofs.YtegnonhgildhoaaGreat.E
