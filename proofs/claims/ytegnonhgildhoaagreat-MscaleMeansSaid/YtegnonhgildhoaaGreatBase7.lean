import Derived.Test.YtegnonhgildhoaaGreatBase6
import Derived.Test.YtegnonhgildhoaaGreatEB
import Derived.Test.YtegnonhgildhoaaGreatN9
namespace Go.Proofs.YtegnonhgildhoaaGreat.E
open Go Go.RowKit
set_option linter.unusedVariables false
set_option linter.unusedSimpArgs false
instance : DecidableEq RawI := fun a b => decidable_of_iff (a.neg = b.neg ∧ a.mag = b.mag) ⟨fun h => by cases a; cases b; simp_all, fun h => by subst h; exact ⟨rfl, rfl⟩⟩
instance : DecidableEq Raw := fun a b => decidable_of_iff (a.neg = b.neg ∧ a.mag = b.mag ∧ a.den = b.den) ⟨fun h => by cases a; cases b; simp_all, fun h => by subst h; exact ⟨rfl, rfl, rfl⟩⟩
theorem encZ_take {z : RawI} (hb : Lb z.mag) (h : validZ z = true) : encZ (zv z) = ⟨z.neg, toL (nv z.mag)⟩ := by
  rw [encZ_zv hb h]
  have hv := validZ_mag h
  rw [nv_of_valid hv, toL_lv hb hv]
theorem r02_Valid (s : SA) (z : RawI) : Spec Tryz.prog 124 #[intV s z] [fU s z.mag] (ι := Unit) (fun y => .bool (validZ z)) (fun y => True) (fun y => []) := by
  refine Spec.of_body _ (fn := Tryz.f124) k_ rfl k_ (fun X w0 => ?_)
  refine J.fact (φ := z.mag.length ≤ 140737488355328) (fun w h => by have := (h _ (.head _)).1; omega) (fun hl1 => ?_)
  refine J.sreg ?_
  refine RN.new (fun b => pt b) (.cells #[.bool z.neg, sl s z.mag.length] 25 (0, 0)) k_ k_ (fun w => by kernel_rfl) (fun b2 => ?_)
  refine RN.bq (no 1) [1] [] (k' := 2) (l' := [(1, pt b2)]) k_ ?_
  refine RN.done k_ ?_
  refine KN.next ?_
  refine J.sreg ?_
  refine RN.bq [none, some 0] [1, 4] [b2] (k' := 2) (l' := [(1, pt b2), (4, sl s z.mag.length)]) k_ ?_
  refine RN.call (r01_Valid s z.mag) [0] k_ k_ k_ rfl (fun y3 _ => ?_)
  refine RN.bq (no 1) [1, 6] [] (k' := 4) (l' := [(1, pt b2), (6, .bool (validU z.mag))]) k_ ?_
  refine RN.split 6 (validU z.mag) k_ (fun c4 => ?_) (fun c4 => ?_)
  · skip
    refine RN.bq [none, some 0, none] [1, 6, 9] [b2] (k' := 7) (l' := [(1, pt b2), (6, .bool true), (9, .bool z.neg)]) k_ ?_
    refine RN.split 9 (z.neg) k_ (fun c5 => ?_) (fun c5 => ?_)
    · skip
      refine RN.bq [none, some 0, none, none, none, none, none, none] [2] [b2] (k' := 15) (l' := [(2, .bool (!((((z.mag.length : Nat) : Int) : Int) == 0)))]) k_ ?_
      refine RN.done k_ ?_
      refine KN.next ?_
      have e_1 : (validZ z) = (!((((z.mag.length : Nat) : Int) : Int) == 0)) := by rcases z with ⟨neg, mag⟩; cases mag <;> simp_all [validZ] <;> omega
      refine J.ret (KR.ret (v := .bool (!((((z.mag.length : Nat) : Int) : Int) == 0))) (()) [none] [] [] k_ v1_ (trivial) v1_)
    · skip
      refine RN.bq (no 8) [2] [] (k' := 15) (l' := [(2, .bool true)]) k_ ?_
      refine RN.done k_ ?_
      refine KN.next ?_
      have e_1 : (validZ z) = true := by rcases z with ⟨neg, mag⟩; cases mag <;> simp_all [validZ] <;> omega
      refine J.ret (KR.ret (v := .bool true) (()) [none] [] [] k_ v1_ (trivial) v1_)
  · skip
    refine RN.bq (no 11) [2] [] (k' := 15) (l' := [(2, .bool false)]) k_ ?_
    refine RN.done k_ ?_
    refine KN.next ?_
    have e_1 : (validZ z) = false := by rcases z with ⟨neg, mag⟩; cases mag <;> simp_all [validZ] <;> omega
    refine J.ret (KR.ret (v := .bool false) (()) [none] [] [] k_ v1_ (trivial) v1_)
theorem r02_Take (s : SA) (z : RawI) (hz : Lb z.mag) (hzl : z.mag.length ≤ 1099511627776) : Spec Tryz.prog 99 #[intV s z] [fU s z.mag] (ι := SA) (fun y => intV y (encZ (zv z))) (fun y => True) (fun y => [fU y (toL ((zv z).natAbs))]) := by
  refine Spec.of_body _ (fn := Tryz.f99) k_ rfl k_ (fun X w0 => ?_)
  refine J.fact (φ := z.mag.length ≤ 140737488355328) (fun w h => by have := (h _ (.head _)).1; omega) (fun hl1 => ?_)
  refine J.sreg ?_
  refine RN.new (fun b => pt b) (.cells #[.bool z.neg, sl s z.mag.length] 25 (0, 0)) k_ k_ (fun w => by kernel_rfl) (fun b2 => ?_)
  refine RN.new (fun b => pt b) (.cells #[.bool false, sl saNil ([] : List Nat).length] 25 (0, 0)) k_ k_ (fun w => by kernel_rfl) (fun b3 => ?_)
  refine RN.done k_ ?_
  refine KN.next ?_
  refine J.seq ?_
  refine J.sreg ?_
  refine RN.bq [some 1] [1, 2, 3] [b2, b2] (k' := 1) (l' := [(1, pt b2), (2, pt b3), (3, intV s z)]) k_ ?_
  refine RN.call (r02_Valid s z) [0] k_ k_ k_ rfl (fun y4 _ => ?_)
  refine RN.bq (no 1) [1, 2, 5] [] (k' := 3) (l' := [(1, pt b2), (2, pt b3), (5, .bool (!(validZ z)))]) k_ ?_
  refine RN.done k_ ?_
  refine KN.next ?_
  refine J.cond (!(validZ z)) k_ (fun c5 => ?_) (fun c5 => ?_)
  · skip
    refine J.sreg ?_
    refine RN.bat [none, some 0] [2] [b3, b3] (k' := 2) (l' := [(2, pt b3)]) (M' := [(b3, .cells #[.bool false, sl saNil ([] : List Nat).length] 25 (0, 0)), (b2, .cells #[.bool z.neg, sl s z.mag.length] 25 (0, 0))]) k_ ?_
    refine RN.done k_ ?_
    refine KN.next ?_
    have e_1 : (encZ (zv z)) = (⟨false, ([] : List Nat)⟩ : RawI) := by exact encZ_zv_f (by simpa using ‹(!validZ z) = true›)
    have e_2 : (toL ((zv z).natAbs)) = ([] : List Nat) := congrArg RawI.mag e_1
    refine J.also (fU saNil ([] : List Nat)) (fun w h => fU_nil w) ?_
    refine J.ret (KR.next (KR.ret (v := intV saNil (⟨false, ([] : List Nat)⟩ : RawI)) (saNil) [some 0] [0] [b3, b3] k_ (by first | rfl | (rw [e_1]; done) | (simp only [e_1]; done) | (rw [e_2]; done) | (rw [e_1, e_2]; rfl) | (simp only [e_1, e_2]; done) | (simp only [e_1, e_2]; rfl)) (trivial) (by first | rfl | (rw [e_1]; done) | (simp only [e_1]; done) | (rw [e_2]; done) | (rw [e_1, e_2]; rfl) | (simp only [e_1, e_2]; done) | (simp only [e_1, e_2]; rfl))))
  · skip
    refine J.skip ?_
    refine KN.next ?_
    refine J.seq ?_
    refine J.regD k_ [6] ?_
    refine RD.bat k_ [(0, none), (1, some 1), (2, none), (3, some 1)] [2, 8, 10] [b2, b2] (L' := [3, 2, 1, 0]) (l' := [(2, pt b3), (8, .bool z.neg), (10, sl s z.mag.length)]) k_ ?_
    refine RD.call (i := 4) (r01_Take s z.mag y_ y_) [0] k_ k_ k_ k_ k_ rfl (fun y6 _ => ?_)
    refine RD.bat k_ [(5, none)] [2, 12] [] (L' := [5, 4, 3, 2, 1, 0]) (l' := [(2, pt b3), (12, intV y6 (⟨z.neg, toL (nv z.mag)⟩ : RawI))]) k_ ?_
    refine RD.last (i := 6) (some 0) [2] [b3, b3] k_ k_ k_ (l' := [(2, pt b3)]) (M' := [(b3, .cells #[.bool z.neg, sl y6 (toL (nv z.mag)).length] 25 (0, 0)), (b2, .cells #[.bool z.neg, sl s z.mag.length] 25 (0, 0))]) k_ ?_
    refine RD.done k_ ?_
    refine KN.next ?_
    have e_1 : (encZ (zv z)) = (⟨z.neg, toL (nv z.mag)⟩ : RawI) := by exact encZ_take hz (by simpa using ‹(!validZ z) = false›)
    have e_2 : (toL ((zv z).natAbs)) = (toL (nv z.mag)) := congrArg RawI.mag e_1
    refine J.ret (KR.ret (v := intV y6 (⟨z.neg, toL (nv z.mag)⟩ : RawI)) (y6) [some 0] [0] [b3, b3] k_ (by first | rfl | (rw [e_1]; done) | (simp only [e_1]; done) | (rw [e_2]; done) | (rw [e_1, e_2]; rfl) | (simp only [e_1, e_2]; done) | (simp only [e_1, e_2]; rfl)) (trivial) (by first | rfl | (rw [e_1]; done) | (simp only [e_1]; done) | (rw [e_2]; done) | (rw [e_1, e_2]; rfl) | (simp only [e_1, e_2]; done) | (simp only [e_1, e_2]; rfl)))
theorem r02_signed (b : Bool) (s : SA) (n : Nat) : Spec Tryz.prog 92 #[.bool b, sl s (toL n).length] [fU s (toL n)] (ι := SA) (fun y => intV y (encZ (sgn b n))) (fun y => True) (fun y => [fU y (toL ((sgn b n).natAbs))]) := by
  refine Spec.of_body _ (fn := Tryz.f92) k_ rfl k_ (fun X w0 => ?_)
  refine J.fact (φ := (toL n).length ≤ 140737488355328) (fun w h => by have := (h _ (.head _)).1; omega) (fun hl1 => ?_)
  refine J.sreg ?_
  refine RN.new (fun b => pt b) (.cells #[.bool false, sl saNil ([] : List Nat).length] 25 (0, 0)) k_ k_ (fun w => by kernel_rfl) (fun b2 => ?_)
  refine RN.done k_ ?_
  refine KN.next ?_
  refine J.sreg ?_
  refine RN.bq (no 2) [1, 4, 6] [] (k' := 2) (l' := [(1, sl s (toL n).length), (4, pt b2), (6, .bool b)]) k_ ?_
  refine RN.split 6 (b) k_ (fun c3 => ?_) (fun c3 => ?_)
  · skip
    refine RN.bat [none, none, none, none, none, none, some 0] [4] [b2, b2] (k' := 9) (l' := [(4, pt b2)]) (M' := [(b2, .cells #[.bool (decide ((((toL n).length : Nat) : Int) > 0)), sl s (toL n).length] 25 (0, 0))]) k_ ?_
    refine RN.done k_ ?_
    refine KN.next ?_
    have e_1 : (encZ (sgn b n)) = (⟨decide ((((toL n).length : Nat) : Int) > 0), toL n⟩ : RawI) := by first | (rw [‹b = true›]; exact sgn_true _) | (rw [‹b = false›]; exact sgn_false _) | (rw [‹b = false›]; rfl)
    have e_2 : (toL ((sgn b n).natAbs)) = (toL n) := congrArg RawI.mag e_1
    refine J.ret (KR.ret (v := intV s (⟨decide ((((toL n).length : Nat) : Int) > 0), toL n⟩ : RawI)) (s) [some 0] [0] [b2, b2] k_ (by first | rfl | (rw [e_1]; done) | (simp only [e_1]; done) | (rw [e_2]; done) | (rw [e_1, e_2]; rfl) | (simp only [e_1, e_2]; done) | (simp only [e_1, e_2]; rfl)) (trivial) (by first | rfl | (rw [e_1]; done) | (simp only [e_1]; done) | (rw [e_2]; done) | (rw [e_1, e_2]; rfl) | (simp only [e_1, e_2]; done) | (simp only [e_1, e_2]; rfl)))
  · skip
    refine RN.bat [none, none, none, none, none, none, some 0] [4] [b2, b2] (k' := 9) (l' := [(4, pt b2)]) (M' := [(b2, .cells #[.bool false, sl s (toL n).length] 25 (0, 0))]) k_ ?_
    refine RN.done k_ ?_
    refine KN.next ?_
    have e_1 : (sgn b n) = ((n : Nat) : Int) := by first | (rw [‹b = true›]; exact sgn_true _) | (rw [‹b = false›]; exact sgn_false _) | (rw [‹b = false›]; rfl)
    refine J.ret (KR.ret (v := intV s (encZ ((n : Nat) : Int))) (s) [some 0] [0] [b2, b2] k_ v1_ (trivial) v1_)
theorem r02_Sign (s : SA) (z : RawI) (hz : Lb z.mag) (hzl : z.mag.length ≤ 1099511627776) : Spec Tryz.prog 74 #[intV s z] [fU s z.mag] (ι := Unit) (fun y => .int .i64 (Int.sign (zv z))) (fun y => True) (fun y => []) := by
  refine Spec.of_body _ (fn := Tryz.f74) k_ rfl k_ (fun X w0 => ?_)
  refine J.fact (φ := z.mag.length ≤ 140737488355328) (fun w h => by have := (h _ (.head _)).1; omega) (fun hl1 => ?_)
  refine J.sreg ?_
  refine RN.new (fun b => pt b) (.cells #[.bool z.neg, sl s z.mag.length] 25 (0, 0)) k_ k_ (fun w => by kernel_rfl) (fun b2 => ?_)
  refine RN.bq (no 1) [1] [] (k' := 2) (l' := [(1, pt b2)]) k_ ?_
  refine RN.done k_ ?_
  refine KN.next ?_
  refine J.sreg ?_
  refine RN.bq [some 0] [1, 3] [b2, b2] (k' := 1) (l' := [(1, pt b2), (3, intV s z)]) k_ ?_
  refine RN.call (r02_Take s z y_ y_) [0] k_ k_ k_ rfl (fun y3 _ => ?_)
  refine RN.bat [some 0] [1] [b2, b2] (k' := 3) (l' := [(1, pt b2)]) (M' := [(b2, .cells #[.bool (decide ((zv z) < 0)), sl y3 (toL ((zv z).natAbs)).length] 25 (0, 0))]) k_ ?_
  refine RN.done k_ ?_
  refine KN.next ?_
  refine J.seq ?_
  refine J.block ?_
  refine J.sreg ?_
  refine RN.bq [none, some 0, none] [1, 5] [b2] (k' := 3) (l' := [(1, pt b2), (5, .bool (decide ((zv z) < 0)))]) k_ ?_
  refine RN.done k_ ?_
  refine KN.next ?_
  refine J.cond (decide ((zv z) < 0)) k_ (fun c4 => ?_) (fun c4 => ?_)
  · skip
    replace c4 := of_decide_eq_true c4
    refine J.sreg ?_
    refine RN.bq (no 1) [2] [] (k' := 1) (l' := [(2, .int .i64 (-1))]) k_ ?_
    refine RN.done k_ ?_
    refine KN.next ?_
    have e_1 : (Int.sign (zv z) : Int) = ((-1) : Int) := by exact Int.sign_eq_neg_one_of_neg (by simpa using ‹_›)
    refine J.ret (KR.blk (KR.next (KR.ret (v := .int .i64 (-1)) (()) [none] [] [] k_ v1_ (trivial) v1_)))
  · skip
    replace c4 := of_decide_eq_false c4
    refine J.sreg ?_
    refine RN.bq [none, some 0, none, none, none] [8] [b2] (k' := 5) (l' := [(8, .bool (decide ((((toL ((zv z).natAbs)).length : Nat) : Int) > 0)))]) k_ ?_
    refine RN.done k_ ?_
    refine KN.next ?_
    refine J.cond (decide ((((toL ((zv z).natAbs)).length : Nat) : Int) > 0)) k_ (fun c5 => ?_) (fun c5 => ?_)
    · skip
      replace c5 := of_decide_eq_true c5
      refine J.sreg ?_
      refine RN.bq (no 1) [2] [] (k' := 1) (l' := [(2, .int .i64 1)]) k_ ?_
      refine RN.done k_ ?_
      refine KN.next ?_
      have e_1 : (Int.sign (zv z) : Int) = (1 : Int) := by exact Int.sign_eq_one_of_pos (by have h1 := mt toL_len0.2 (by omega : ¬ (toL ((zv z).natAbs)).length = 0); simp at *; omega)
      refine J.ret (KR.blk (KR.next (KR.ret (v := .int .i64 1) (()) [none] [] [] k_ v1_ (trivial) v1_)))
    · skip
      replace c5 := of_decide_eq_false c5
      refine J.skip ?_
      refine KN.blk ?_
      refine KN.next ?_
      refine J.sreg ?_
      refine RN.bq (no 1) [2] [] (k' := 1) (l' := [(2, .int .i64 0)]) k_ ?_
      refine RN.done k_ ?_
      refine KN.next ?_
      have e_1 : (Int.sign (zv z) : Int) = (0 : Int) := by rw [show zv z = 0 from by have := toL_len0.1 (by omega : (toL ((zv z).natAbs)).length = 0); omega]; rfl
      refine J.ret (KR.ret (v := .int .i64 0) (()) [none] [] [] k_ v1_ (trivial) v1_)
theorem r02_Sign_c (s : SA) (z' : Int) (hzl : (toL (z'.natAbs)).length ≤ 1099511627776) : Spec Tryz.prog 74 #[intV s (encZ z')] [fU s (toL (z'.natAbs))] (ι := Unit) (fun y => .int .i64 (Int.sign z')) (fun y => True) (fun y => []) := by
  have H := r02_Sign s (encZ z') (Lb_toL _) (by first | exact hzl | simpa only [zv_encZ] using hzl)
  first | exact H | (simp only [zv_encZ, validZ_encZ] at H; exact H)
theorem r02_Neg (s : SA) (z : RawI) (hz : Lb z.mag) (hzl : z.mag.length ≤ 1099511627776) : Spec Tryz.prog 101 #[intV s z] [fU s z.mag] (ι := SA) (fun y => intV y (encZ (-zv z))) (fun y => True) (fun y => [fU y (toL ((-zv z).natAbs))]) := by
  refine Spec.of_body _ (fn := Tryz.f101) k_ rfl k_ (fun X w0 => ?_)
  refine J.fact (φ := z.mag.length ≤ 140737488355328) (fun w h => by have := (h _ (.head _)).1; omega) (fun hl1 => ?_)
  refine J.sreg ?_
  refine RN.new (fun b => pt b) (.cells #[.bool z.neg, sl s z.mag.length] 25 (0, 0)) k_ k_ (fun w => by kernel_rfl) (fun b2 => ?_)
  refine RN.new (fun b => pt b) (.cells #[.bool false, sl saNil ([] : List Nat).length] 25 (0, 0)) k_ k_ (fun w => by kernel_rfl) (fun b3 => ?_)
  refine RN.done k_ ?_
  refine KN.next ?_
  refine J.sreg ?_
  refine RN.bq [some 1] [1, 2, 3] [b2, b2] (k' := 1) (l' := [(1, pt b2), (2, pt b3), (3, intV s z)]) k_ ?_
  refine RN.call (r02_Take s z y_ y_) [0] k_ k_ k_ rfl (fun y4 _ => ?_)
  refine RN.bat [some 1] [1, 2] [b2, b2] (k' := 3) (l' := [(1, pt b2), (2, pt b3)]) (M' := [(b3, .cells #[.bool false, sl saNil ([] : List Nat).length] 25 (0, 0)), (b2, .cells #[.bool (decide ((zv z) < 0)), sl y4 (toL ((zv z).natAbs)).length] 25 (0, 0))]) k_ ?_
  refine RN.done k_ ?_
  refine KN.next ?_
  refine J.sreg ?_
  refine RN.bq [none, some 1, none, none, some 1] [2, 7, 9] [b2, b2] (k' := 5) (l' := [(2, pt b3), (7, .bool (!(decide ((zv z) < 0)))), (9, sl y4 (toL ((zv z).natAbs)).length)]) k_ ?_
  refine RN.call (r02_signed (!(decide ((zv z) < 0))) y4 ((zv z).natAbs)) [0] k_ k_ k_ rfl (fun y5 _ => ?_)
  refine RN.bat [some 0] [2] [b3, b3] (k' := 7) (l' := [(2, pt b3)]) (M' := [(b3, .cells #[.bool (decide ((sgn (!(decide ((zv z) < 0))) ((zv z).natAbs)) < 0)), sl y5 (toL ((sgn (!(decide ((zv z) < 0))) ((zv z).natAbs)).natAbs)).length] 25 (0, 0)), (b2, .cells #[.bool (decide ((zv z) < 0)), sl y4 (toL ((zv z).natAbs)).length] 25 (0, 0))]) k_ ?_
  refine RN.done k_ ?_
  refine KN.next ?_
  have e_1 : (-zv z) = (sgn (!(decide ((zv z) < 0))) ((zv z).natAbs)) := by rw [sgn_not]
  refine J.ret (KR.ret (v := intV y5 (encZ (sgn (!(decide ((zv z) < 0))) ((zv z).natAbs)))) (y5) [some 0] [0] [b3, b3] k_ v1_ (trivial) v1_)
theorem r02_Neg_c (s : SA) (z' : Int) (hzl : (toL (z'.natAbs)).length ≤ 1099511627776) : Spec Tryz.prog 101 #[intV s (encZ z')] [fU s (toL (z'.natAbs))] (ι := SA) (fun y => intV y (encZ (-z'))) (fun y => True) (fun y => [fU y (toL ((-z').natAbs))]) := by
  have H := r02_Neg s (encZ z') (Lb_toL _) (by first | exact hzl | simpa only [zv_encZ] using hzl)
  first | exact H | (simp only [zv_encZ, validZ_encZ] at H; exact H)
theorem r02_Add (s : SA) (x : RawI) (t : SA) (z : RawI) (hx : Lb x.mag) (hxl : x.mag.length ≤ 1099511627776) (hz : Lb z.mag) (hzl : z.mag.length ≤ 1099511627776) : Spec Tryz.prog 69 #[intV s x, intV t z] [fU s x.mag, fU t z.mag] (ι := SA) (fun y => intV y (encZ (zv x + zv z))) (fun y => True) (fun y => [fU y (toL ((zv x + zv z).natAbs))]) := by
  refine Spec.of_body _ (fn := Tryz.f69) k_ rfl k_ (fun X w0 => ?_)
  refine J.fact (φ := x.mag.length ≤ 140737488355328) (fun w h => by have := (h _ (.head _)).1; omega) (fun hl1 => ?_)
  refine J.fact (φ := z.mag.length ≤ 140737488355328) (fun w h => by have := (h _ (.tail _ ((.head _)))).1; omega) (fun hl2 => ?_)
  have hxv := Nat.le_trans (zv_len hx) hxl
  have hzv := Nat.le_trans (zv_len hz) hzl
  refine J.sreg ?_
  refine RN.new (fun b => pt b) (.cells #[.bool x.neg, sl s x.mag.length] 25 (0, 0)) k_ k_ (fun w => by kernel_rfl) (fun b3 => ?_)
  refine RN.new (fun b => pt b) (.cells #[.bool z.neg, sl t z.mag.length] 25 (0, 0)) k_ k_ (fun w => by kernel_rfl) (fun b4 => ?_)
  refine RN.new (fun b => pt b) (.cells #[.bool false, sl saNil ([] : List Nat).length] 25 (0, 0)) k_ k_ (fun w => by kernel_rfl) (fun b5 => ?_)
  refine RN.done k_ ?_
  refine KN.next ?_
  refine J.seq ?_
  refine J.regD k_ [4, 5] ?_
  refine RD.bat k_ [(0, some 2), (2, some 1)] [2, 3, 4, 9, 11] [b4, b4, b3, b3] (L' := [2, 0]) (l' := [(2, pt b3), (3, pt b4), (4, pt b5), (9, intV s x), (11, intV t z)]) k_ ?_
  refine RD.call (i := 1) (r02_Take s x y_ y_) [0] k_ k_ k_ k_ k_ rfl (fun y6 _ => ?_)
  refine RD.call (i := 3) (r02_Take t z y_ y_) [2] k_ k_ k_ k_ k_ rfl (fun y7 _ => ?_)
  refine RD.last (i := 4) (some 2) [2, 3, 4, 12] [b3, b3] k_ k_ k_ (l' := [(2, pt b3), (3, pt b4), (4, pt b5), (12, intV y7 (encZ (zv z)))]) (M' := [(b5, .cells #[.bool false, sl saNil ([] : List Nat).length] 25 (0, 0)), (b4, .cells #[.bool z.neg, sl t z.mag.length] 25 (0, 0)), (b3, .cells #[.bool (decide ((zv x) < 0)), sl y6 (toL ((zv x).natAbs)).length] 25 (0, 0))]) k_ ?_
  refine RD.last (i := 5) (some 1) [2, 3, 4] [b4, b4] k_ k_ k_ (l' := [(2, pt b3), (3, pt b4), (4, pt b5)]) (M' := [(b5, .cells #[.bool false, sl saNil ([] : List Nat).length] 25 (0, 0)), (b4, .cells #[.bool (decide ((zv z) < 0)), sl y7 (toL ((zv z).natAbs)).length] 25 (0, 0)), (b3, .cells #[.bool (decide ((zv x) < 0)), sl y6 (toL ((zv x).natAbs)).length] 25 (0, 0))]) k_ ?_
  refine RD.done k_ ?_
  refine KN.next ?_
  refine J.seq ?_
  refine J.sreg ?_
  refine RN.bq [none, some 2, none, some 1, none] [2, 3, 4, 17] [b4, b3] (k' := 5) (l' := [(2, pt b3), (3, pt b4), (4, pt b5), (17, .bool ((decide ((zv x) < 0)) == (decide ((zv z) < 0))))]) k_ ?_
  refine RN.done k_ ?_
  refine KN.next ?_
  refine J.cond ((decide ((zv x) < 0)) == (decide ((zv z) < 0))) k_ (fun c8 => ?_) (fun c8 => ?_)
  · skip
    refine J.seq ?_
    refine J.regD k_ [8] ?_
    refine RD.bat k_ [(0, none), (1, some 2), (2, none), (3, some 2), (4, none), (5, some 1)] [4, 19, 21, 23] [b4, b3, b3] (L' := [5, 4, 3, 2, 1, 0]) (l' := [(4, pt b5), (19, .bool (decide ((zv x) < 0))), (21, sl y6 (toL ((zv x).natAbs)).length), (23, sl y7 (toL ((zv z).natAbs)).length)]) k_ ?_
    refine RD.call (i := 6) (r01_Add_c y6 ((zv x).natAbs) y7 ((zv z).natAbs) y_ y_) [1, 0] k_ k_ k_ k_ k_ rfl (fun y9 _ => ?_)
    refine RD.call (i := 7) (r02_signed (decide ((zv x) < 0)) y9 (((zv x).natAbs) + ((zv z).natAbs))) [0] k_ k_ k_ k_ k_ rfl (fun y10 _ => ?_)
    refine RD.last (i := 8) (some 0) [4] [b5, b5] k_ k_ k_ (l' := [(4, pt b5)]) (M' := [(b5, .cells #[.bool (decide ((sgn (decide ((zv x) < 0)) (((zv x).natAbs) + ((zv z).natAbs))) < 0)), sl y10 (toL ((sgn (decide ((zv x) < 0)) (((zv x).natAbs) + ((zv z).natAbs))).natAbs)).length] 25 (0, 0)), (b4, .cells #[.bool (decide ((zv z) < 0)), sl y7 (toL ((zv z).natAbs)).length] 25 (0, 0)), (b3, .cells #[.bool (decide ((zv x) < 0)), sl y6 (toL ((zv x).natAbs)).length] 25 (0, 0))]) k_ ?_
    refine RD.done k_ ?_
    refine KN.next ?_
    have e_1 : (zv x + zv z) = (sgn (decide ((zv x) < 0)) (((zv x).natAbs) + ((zv z).natAbs))) := by rw [sgn_add ‹_›]
    refine J.ret (KR.next (KR.ret (v := intV y10 (encZ (sgn (decide ((zv x) < 0)) (((zv x).natAbs) + ((zv z).natAbs))))) (y10) [some 0] [0] [b5, b5] k_ v1_ (trivial) v1_))
  · skip
    refine J.skip ?_
    refine KN.next ?_
    refine J.seq ?_
    refine J.sreg ?_
    refine RN.bq [none, some 2, none, some 1] [2, 3, 4, 28, 30] [b4, b3] (k' := 4) (l' := [(2, pt b3), (3, pt b4), (4, pt b5), (28, sl y6 (toL ((zv x).natAbs)).length), (30, sl y7 (toL ((zv z).natAbs)).length)]) k_ ?_
    refine RN.call (r01_Sub_c y6 ((zv x).natAbs) y7 ((zv z).natAbs) y_ y_) [1, 0] k_ k_ k_ rfl (fun y11 _ => ?_)
    refine RN.bq (no 5) [2, 3, 4, 5, 6] [] (k' := 10) (l' := [(2, pt b3), (3, pt b4), (4, pt b5), (5, sl y11 (toL (((zv x).natAbs) - ((zv z).natAbs))).length), (6, .bool (decide (((zv z).natAbs) ≤ ((zv x).natAbs))))]) k_ ?_
    refine RN.done k_ ?_
    refine KN.next ?_
    refine J.sreg ?_
    refine RN.bq (no 1) [2, 3, 4, 5, 34] [] (k' := 1) (l' := [(2, pt b3), (3, pt b4), (4, pt b5), (5, sl y11 (toL (((zv x).natAbs) - ((zv z).natAbs))).length), (34, .bool (decide (((zv z).natAbs) ≤ ((zv x).natAbs))))]) k_ ?_
    refine RN.done k_ ?_
    refine KN.next ?_
    refine J.cond (decide (((zv z).natAbs) ≤ ((zv x).natAbs))) k_ (fun c12 => ?_) (fun c12 => ?_)
    · skip
      replace c12 := of_decide_eq_true c12
      refine J.sreg ?_
      refine RN.bq [none, some 2, none] [4, 36, 37] [b3] (k' := 3) (l' := [(4, pt b5), (36, .bool (decide ((zv x) < 0))), (37, sl y11 (toL (((zv x).natAbs) - ((zv z).natAbs))).length)]) k_ ?_
      refine RN.call (r02_signed (decide ((zv x) < 0)) y11 (((zv x).natAbs) - ((zv z).natAbs))) [0] k_ k_ k_ rfl (fun y13 _ => ?_)
      refine RN.bat [some 0] [4] [b5, b5] (k' := 5) (l' := [(4, pt b5)]) (M' := [(b5, .cells #[.bool (decide ((sgn (decide ((zv x) < 0)) (((zv x).natAbs) - ((zv z).natAbs))) < 0)), sl y13 (toL ((sgn (decide ((zv x) < 0)) (((zv x).natAbs) - ((zv z).natAbs))).natAbs)).length] 25 (0, 0)), (b4, .cells #[.bool (decide ((zv z) < 0)), sl y7 (toL ((zv z).natAbs)).length] 25 (0, 0)), (b3, .cells #[.bool (decide ((zv x) < 0)), sl y6 (toL ((zv x).natAbs)).length] 25 (0, 0))]) k_ ?_
      refine RN.done k_ ?_
      refine KN.next ?_
      have e_1 : (zv x + zv z) = (sgn (decide ((zv x) < 0)) (((zv x).natAbs) - ((zv z).natAbs))) := by rw [sgn_sub ‹_› ‹_›]
      refine J.ret (KR.next (KR.ret (v := intV y13 (encZ (sgn (decide ((zv x) < 0)) (((zv x).natAbs) - ((zv z).natAbs))))) (y13) [some 0] [0] [b5, b5] k_ v1_ (trivial) v1_))
    · skip
      replace c12 := of_decide_eq_false c12
      refine J.skip ?_
      refine KN.next ?_
      refine J.sreg ?_
      refine RN.bq [none, some 1, none, some 2] [3, 4, 41, 43] [b3, b4] (k' := 4) (l' := [(3, pt b4), (4, pt b5), (41, sl y7 (toL ((zv z).natAbs)).length), (43, sl y6 (toL ((zv x).natAbs)).length)]) k_ ?_
      refine RN.call (r01_Sub_c y7 ((zv z).natAbs) y6 ((zv x).natAbs) y_ y_) [1, 2] k_ k_ k_ rfl (fun y14 _ => ?_)
      refine RN.bq (no 5) [3, 4, 7] [] (k' := 10) (l' := [(3, pt b4), (4, pt b5), (7, sl y14 (toL (((zv z).natAbs) - ((zv x).natAbs))).length)]) k_ ?_
      refine RN.done k_ ?_
      refine KN.next ?_
      refine J.sreg ?_
      refine RN.bq [none, some 1, none] [4, 48, 49] [b4] (k' := 3) (l' := [(4, pt b5), (48, .bool (decide ((zv z) < 0))), (49, sl y14 (toL (((zv z).natAbs) - ((zv x).natAbs))).length)]) k_ ?_
      refine RN.call (r02_signed (decide ((zv z) < 0)) y14 (((zv z).natAbs) - ((zv x).natAbs))) [0] k_ k_ k_ rfl (fun y15 _ => ?_)
      refine RN.bat [some 0] [4] [b5, b5] (k' := 5) (l' := [(4, pt b5)]) (M' := [(b5, .cells #[.bool (decide ((sgn (decide ((zv z) < 0)) (((zv z).natAbs) - ((zv x).natAbs))) < 0)), sl y15 (toL ((sgn (decide ((zv z) < 0)) (((zv z).natAbs) - ((zv x).natAbs))).natAbs)).length] 25 (0, 0)), (b4, .cells #[.bool (decide ((zv z) < 0)), sl y7 (toL ((zv z).natAbs)).length] 25 (0, 0)), (b3, .cells #[.bool (decide ((zv x) < 0)), sl y6 (toL ((zv x).natAbs)).length] 25 (0, 0))]) k_ ?_
      refine RN.done k_ ?_
      refine KN.next ?_
      have e_1 : (zv x + zv z) = (sgn (decide ((zv z) < 0)) (((zv z).natAbs) - ((zv x).natAbs))) := by rw [sgn_sub' ‹_› ‹_›]
      refine J.ret (KR.ret (v := intV y15 (encZ (sgn (decide ((zv z) < 0)) (((zv z).natAbs) - ((zv x).natAbs))))) (y15) [some 0] [0] [b5, b5] k_ v1_ (trivial) v1_)
theorem r02_Add_c (s : SA) (x' : Int) (t : SA) (z' : Int) (hxl : (toL (x'.natAbs)).length ≤ 1099511627776) (hzl : (toL (z'.natAbs)).length ≤ 1099511627776) : Spec Tryz.prog 69 #[intV s (encZ x'), intV t (encZ z')] [fU s (toL (x'.natAbs)), fU t (toL (z'.natAbs))] (ι := SA) (fun y => intV y (encZ (x' + z'))) (fun y => True) (fun y => [fU y (toL ((x' + z').natAbs))]) := by
  have H := r02_Add s (encZ x') t (encZ z') (Lb_toL _) (by first | exact hxl | simpa only [zv_encZ, zv_encZ] using hxl) (Lb_toL _) (by first | exact hzl | simpa only [zv_encZ, zv_encZ] using hzl)
  first | exact H | (simp only [zv_encZ, validZ_encZ] at H; exact H)
theorem r02_Mul (s : SA) (x : RawI) (t : SA) (z : RawI) (hx : Lb x.mag) (hxl : x.mag.length ≤ 137438953472) (hz : Lb z.mag) (hzl : z.mag.length ≤ 137438953472) : Spec Tryz.prog 70 #[intV s x, intV t z] [fU s x.mag, fU t z.mag] (ι := SA) (fun y => intV y (encZ (zv x * zv z))) (fun y => True) (fun y => [fU y (toL ((zv x * zv z).natAbs))]) := by
  refine Spec.of_body _ (fn := Tryz.f70) k_ rfl k_ (fun X w0 => ?_)
  refine J.fact (φ := x.mag.length ≤ 140737488355328) (fun w h => by have := (h _ (.head _)).1; omega) (fun hl1 => ?_)
  refine J.fact (φ := z.mag.length ≤ 140737488355328) (fun w h => by have := (h _ (.tail _ ((.head _)))).1; omega) (fun hl2 => ?_)
  have hxv := Nat.le_trans (zv_len hx) hxl
  have hzv := Nat.le_trans (zv_len hz) hzl
  refine J.sreg ?_
  refine RN.new (fun b => pt b) (.cells #[.bool x.neg, sl s x.mag.length] 25 (0, 0)) k_ k_ (fun w => by kernel_rfl) (fun b3 => ?_)
  refine RN.new (fun b => pt b) (.cells #[.bool z.neg, sl t z.mag.length] 25 (0, 0)) k_ k_ (fun w => by kernel_rfl) (fun b4 => ?_)
  refine RN.new (fun b => pt b) (.cells #[.bool false, sl saNil ([] : List Nat).length] 25 (0, 0)) k_ k_ (fun w => by kernel_rfl) (fun b5 => ?_)
  refine RN.done k_ ?_
  refine KN.next ?_
  refine J.seq ?_
  refine J.regD k_ [4, 5] ?_
  refine RD.bat k_ [(0, some 2), (2, some 1)] [2, 3, 4, 5, 7] [b4, b4, b3, b3] (L' := [2, 0]) (l' := [(2, pt b3), (3, pt b4), (4, pt b5), (5, intV s x), (7, intV t z)]) k_ ?_
  refine RD.call (i := 1) (r02_Take s x y_ y_) [0] k_ k_ k_ k_ k_ rfl (fun y6 _ => ?_)
  refine RD.call (i := 3) (r02_Take t z y_ y_) [2] k_ k_ k_ k_ k_ rfl (fun y7 _ => ?_)
  refine RD.last (i := 4) (some 2) [2, 3, 4, 8] [b3, b3] k_ k_ k_ (l' := [(2, pt b3), (3, pt b4), (4, pt b5), (8, intV y7 (encZ (zv z)))]) (M' := [(b5, .cells #[.bool false, sl saNil ([] : List Nat).length] 25 (0, 0)), (b4, .cells #[.bool z.neg, sl t z.mag.length] 25 (0, 0)), (b3, .cells #[.bool (decide ((zv x) < 0)), sl y6 (toL ((zv x).natAbs)).length] 25 (0, 0))]) k_ ?_
  refine RD.last (i := 5) (some 1) [2, 3, 4] [b4, b4] k_ k_ k_ (l' := [(2, pt b3), (3, pt b4), (4, pt b5)]) (M' := [(b5, .cells #[.bool false, sl saNil ([] : List Nat).length] 25 (0, 0)), (b4, .cells #[.bool (decide ((zv z) < 0)), sl y7 (toL ((zv z).natAbs)).length] 25 (0, 0)), (b3, .cells #[.bool (decide ((zv x) < 0)), sl y6 (toL ((zv x).natAbs)).length] 25 (0, 0))]) k_ ?_
  refine RD.done k_ ?_
  refine KN.next ?_
  refine J.seq ?_
  refine J.regD k_ [11] ?_
  refine RD.bat k_ [(0, none), (1, some 2), (2, none), (3, some 1), (4, none), (5, none), (6, some 2), (7, none), (8, some 1)] [4, 13, 15, 17] [b4, b3, b4, b3] (L' := [8, 7, 6, 5, 4, 3, 2, 1, 0]) (l' := [(4, pt b5), (13, .bool ((decide ((zv x) < 0)) != (decide ((zv z) < 0)))), (15, sl y6 (toL ((zv x).natAbs)).length), (17, sl y7 (toL ((zv z).natAbs)).length)]) k_ ?_
  refine RD.call (i := 9) (r01_Mul_c y6 ((zv x).natAbs) y7 ((zv z).natAbs) y_ y_) [1, 0] k_ k_ k_ k_ k_ rfl (fun y8 _ => ?_)
  refine RD.call (i := 10) (r02_signed ((decide ((zv x) < 0)) != (decide ((zv z) < 0))) y8 (((zv x).natAbs) * ((zv z).natAbs))) [0] k_ k_ k_ k_ k_ rfl (fun y9 _ => ?_)
  refine RD.last (i := 11) (some 0) [4] [b5, b5] k_ k_ k_ (l' := [(4, pt b5)]) (M' := [(b5, .cells #[.bool (decide ((sgn ((decide ((zv x) < 0)) != (decide ((zv z) < 0))) (((zv x).natAbs) * ((zv z).natAbs))) < 0)), sl y9 (toL ((sgn ((decide ((zv x) < 0)) != (decide ((zv z) < 0))) (((zv x).natAbs) * ((zv z).natAbs))).natAbs)).length] 25 (0, 0)), (b4, .cells #[.bool (decide ((zv z) < 0)), sl y7 (toL ((zv z).natAbs)).length] 25 (0, 0)), (b3, .cells #[.bool (decide ((zv x) < 0)), sl y6 (toL ((zv x).natAbs)).length] 25 (0, 0))]) k_ ?_
  refine RD.done k_ ?_
  refine KN.next ?_
  have e_1 : (zv x * zv z) = (sgn ((decide ((zv x) < 0)) != (decide ((zv z) < 0))) (((zv x).natAbs) * ((zv z).natAbs))) := by rw [sgn_mul]
  refine J.ret (KR.ret (v := intV y9 (encZ (sgn ((decide ((zv x) < 0)) != (decide ((zv z) < 0))) (((zv x).natAbs) * ((zv z).natAbs))))) (y9) [some 0] [0] [b5, b5] k_ v1_ (trivial) v1_)
theorem r02_Mul_c (s : SA) (x' : Int) (t : SA) (z' : Int) (hxl : (toL (x'.natAbs)).length ≤ 137438953472) (hzl : (toL (z'.natAbs)).length ≤ 137438953472) : Spec Tryz.prog 70 #[intV s (encZ x'), intV t (encZ z')] [fU s (toL (x'.natAbs)), fU t (toL (z'.natAbs))] (ι := SA) (fun y => intV y (encZ (x' * z'))) (fun y => True) (fun y => [fU y (toL ((x' * z').natAbs))]) := by
  have H := r02_Mul s (encZ x') t (encZ z') (Lb_toL _) (by first | exact hxl | simpa only [zv_encZ, zv_encZ] using hxl) (Lb_toL _) (by first | exact hzl | simpa only [zv_encZ, zv_encZ] using hzl)
  first | exact H | (simp only [zv_encZ, validZ_encZ] at H; exact H)
theorem r02_Gcd (s : SA) (x : RawI) (t : SA) (z : RawI) (hx : Lb x.mag) (hxl : x.mag.length ≤ 137438953472) (hz : Lb z.mag) (hzl : z.mag.length ≤ 137438953472) : Spec Tryz.prog 102 #[intV s x, intV t z] [fU s x.mag, fU t z.mag] (ι := SA) (fun y => sl y (toL (Nat.gcd ((zv x).natAbs) ((zv z).natAbs))).length) (fun y => True) (fun y => [fU y (toL (Nat.gcd ((zv x).natAbs) ((zv z).natAbs)))]) := by
  refine Spec.of_body _ (fn := Tryz.f102) k_ rfl k_ (fun X w0 => ?_)
  refine J.fact (φ := x.mag.length ≤ 140737488355328) (fun w h => by have := (h _ (.head _)).1; omega) (fun hl1 => ?_)
  refine J.fact (φ := z.mag.length ≤ 140737488355328) (fun w h => by have := (h _ (.tail _ ((.head _)))).1; omega) (fun hl2 => ?_)
  have hxv := Nat.le_trans (zv_len hx) hxl
  have hzv := Nat.le_trans (zv_len hz) hzl
  refine J.sreg ?_
  refine RN.new (fun b => pt b) (.cells #[.bool x.neg, sl s x.mag.length] 25 (0, 0)) k_ k_ (fun w => by kernel_rfl) (fun b3 => ?_)
  refine RN.new (fun b => pt b) (.cells #[.bool z.neg, sl t z.mag.length] 25 (0, 0)) k_ k_ (fun w => by kernel_rfl) (fun b4 => ?_)
  refine RN.bq (no 1) [2, 3] [] (k' := 3) (l' := [(2, pt b3), (3, pt b4)]) k_ ?_
  refine RN.done k_ ?_
  refine KN.next ?_
  refine J.seq ?_
  refine J.regD k_ [] ?_
  refine RD.bat k_ [(0, some 1), (3, some 0)] [5, 8] [b4, b4, b3, b3] (L' := [3, 0]) (l' := [(5, intV s x), (8, intV t z)]) k_ ?_
  refine RD.call (i := 1) (r02_Take s x y_ y_) [0] k_ k_ k_ k_ k_ rfl (fun y5 _ => ?_)
  refine RD.bat k_ [(2, none)] [7, 8] [] (L' := [2, 1, 3, 0]) (l' := [(7, sl y5 (toL ((zv x).natAbs)).length), (8, intV t z)]) k_ ?_
  refine RD.call (i := 4) (r02_Take t z y_ y_) [2] k_ k_ k_ k_ k_ rfl (fun y6 _ => ?_)
  refine RD.bat k_ [(5, none)] [7, 10] [] (L' := [5, 4, 2, 1, 3, 0]) (l' := [(7, sl y5 (toL ((zv x).natAbs)).length), (10, sl y6 (toL ((zv z).natAbs)).length)]) k_ ?_
  refine RD.call (i := 6) (r01_Gcd_c y5 ((zv x).natAbs) y6 ((zv z).natAbs) y_ y_) [1, 0] k_ k_ k_ k_ k_ rfl (fun y7 _ => ?_)
  refine RD.bat k_ [(7, none)] [4] [] (L' := [7, 6, 5, 4, 2, 1, 3, 0]) (l' := [(4, sl y7 (toL (Nat.gcd ((zv x).natAbs) ((zv z).natAbs))).length)]) k_ ?_
  refine RD.done k_ ?_
  refine KN.next ?_
  refine J.ret (KR.ret (v := sl y7 (toL (Nat.gcd ((zv x).natAbs) ((zv z).natAbs))).length) (y7) [none] [0] [] k_ rfl (trivial) rfl)
theorem r02_Gcd_c (s : SA) (x' : Int) (t : SA) (z' : Int) (hxl : (toL (x'.natAbs)).length ≤ 137438953472) (hzl : (toL (z'.natAbs)).length ≤ 137438953472) : Spec Tryz.prog 102 #[intV s (encZ x'), intV t (encZ z')] [fU s (toL (x'.natAbs)), fU t (toL (z'.natAbs))] (ι := SA) (fun y => sl y (toL (Nat.gcd (x'.natAbs) (z'.natAbs))).length) (fun y => True) (fun y => [fU y (toL (Nat.gcd (x'.natAbs) (z'.natAbs)))]) := by
  have H := r02_Gcd s (encZ x') t (encZ z') (Lb_toL _) (by first | exact hxl | simpa only [zv_encZ, zv_encZ] using hxl) (Lb_toL _) (by first | exact hzl | simpa only [zv_encZ, zv_encZ] using hzl)
  first | exact H | (simp only [zv_encZ, validZ_encZ] at H; exact H)
theorem r02_Same (s : SA) (x : RawI) (t : SA) (z : RawI) : Spec Tryz.prog 45 #[intV s x, intV t z] [fU s x.mag, fU t z.mag] (ι := Unit) (fun y => .bool (decide (x = z))) (fun y => True) (fun y => []) := by
  refine Spec.of_body _ (fn := Tryz.f45) k_ rfl k_ (fun X w0 => ?_)
  refine J.fact (φ := x.mag.length ≤ 140737488355328) (fun w h => by have := (h _ (.head _)).1; omega) (fun hl1 => ?_)
  refine J.fact (φ := z.mag.length ≤ 140737488355328) (fun w h => by have := (h _ (.tail _ ((.head _)))).1; omega) (fun hl2 => ?_)
  refine J.sreg ?_
  refine RN.new (fun b => pt b) (.cells #[.bool x.neg, sl s x.mag.length] 25 (0, 0)) k_ k_ (fun w => by kernel_rfl) (fun b3 => ?_)
  refine RN.new (fun b => pt b) (.cells #[.bool z.neg, sl t z.mag.length] 25 (0, 0)) k_ k_ (fun w => by kernel_rfl) (fun b4 => ?_)
  refine RN.bq (no 1) [2, 3] [] (k' := 3) (l' := [(2, pt b3), (3, pt b4)]) k_ ?_
  refine RN.done k_ ?_
  refine KN.next ?_
  refine J.sreg ?_
  refine RN.bq [none, some 1, none, some 0, none, none] [2, 3, 10] [b4, b3] (k' := 6) (l' := [(2, pt b3), (3, pt b4), (10, .bool (x.neg == z.neg))]) k_ ?_
  refine RN.split 10 (x.neg == z.neg) k_ (fun c5 => ?_) (fun c5 => ?_)
  · skip
    refine RN.bq [none, some 1, none, some 0] [10, 12, 14] [b4, b3] (k' := 10) (l' := [(10, .bool true), (12, sl s x.mag.length), (14, sl t z.mag.length)]) k_ ?_
    refine RN.call (r01_Same s x.mag t z.mag) [0, 1] k_ k_ k_ rfl (fun y6 _ => ?_)
    refine RN.bq (no 2) [4] [] (k' := 13) (l' := [(4, .bool (decide (x.mag = z.mag)))]) k_ ?_
    refine RN.done k_ ?_
    refine KN.next ?_
    have e_1 : (decide (x = z)) = (decide (x.mag = z.mag)) := by rcases x with ⟨a, b⟩; rcases z with ⟨c, d⟩; simp_all
    refine J.ret (KR.ret (v := .bool (decide (x.mag = z.mag))) (()) [none] [] [] k_ v1_ (trivial) v1_)
  · skip
    refine RN.bq (no 7) [4] [] (k' := 13) (l' := [(4, .bool false)]) k_ ?_
    refine RN.done k_ ?_
    refine KN.next ?_
    have e_1 : (decide (x = z)) = false := by rcases x with ⟨a, b⟩; rcases z with ⟨c, d⟩; simp_all
    refine J.ret (KR.ret (v := .bool false) (()) [none] [] [] k_ v1_ (trivial) v1_)
theorem y_r02_FromInt {p : Prop} (h : p := by first | assumption | exact Lb_toL _ | omega | (simp; done) | first | exact Lb.one (by decide) | (simp; done) | (simp; omega)) : p := h
theorem r02_FromInt (v : Int) (h1 : -9223372036854775808 ≤ v) (h2 : v < 9223372036854775808) : Spec Tryz.prog 63 #[.int .i64 v] [] (ι := SA) (fun y => intV y (encZ v)) (fun y => True) (fun y => [fU y (toL (v.natAbs))]) := by
  refine Spec.of_body _ (fn := Tryz.f63) k_ rfl k_ (fun X w0 => ?_)
  have hl : (toL ((-(v + 1)).natAbs)).length ≤ 1099511627776 := Nat.le_trans (u64_len.2 (by omega)) (by decide)
  refine J.sreg ?_
  refine RN.new (fun b => pt b) (.cells #[.bool false, sl saNil ([] : List Nat).length] 25 (0, 0)) k_ k_ (fun w => by kernel_rfl) (fun b1 => ?_)
  refine RN.done k_ ?_
  refine KN.next ?_
  refine J.seq ?_
  refine J.sreg ?_
  refine RN.bq (no 2) [0, 2, 4] [] (k' := 2) (l' := [(0, .int .i64 v), (2, pt b1), (4, .bool (decide (v < 0)))]) k_ ?_
  refine RN.done k_ ?_
  refine KN.next ?_
  refine J.cond (decide (v < 0)) k_ (fun c2 => ?_) (fun c2 => ?_)
  · skip
    replace c2 := of_decide_eq_true c2
    refine J.sreg ?_
    refine RN.bq (no 2) [2, 6] [] (k' := 2) (l' := [(2, pt b1), (6, .int .i64 (IntKind.i64.wrap (v + 1)))]) k_ ?_
    rw [show IntKind.i64.wrap (v + 1) = (v + 1) from by rw [IntKind.wrap_i64]; omega]
    refine RN.bq (no 1) [2, 7] [] (k' := 3) (l' := [(2, pt b1), (7, .int .i64 (IntKind.i64.wrap (0 - (v + 1))))]) k_ ?_
    rw [show IntKind.i64.wrap (0 - (v + 1)) = (-(v + 1)) from by rw [IntKind.wrap_i64]; omega]
    refine RN.bq (no 1) [2, 8] [] (k' := 4) (l' := [(2, pt b1), (8, .int .u64 (IntKind.u64.wrap (-(v + 1))))]) k_ ?_
    rw [show (IntKind.u64.wrap (-(v + 1))) = (((-(v + 1)).natAbs : Nat) : Int) from by exact u64_pos (by omega) (by omega)]
    refine RN.call (r01_FromUint ((-(v + 1)).natAbs) y_r02_FromInt) [] k_ k_ k_ rfl (fun y3 _ => ?_)
    refine RN.new (fun b => .slice (some ⟨b, 0, none⟩) 1 1) (.cells (encU ([1] : List Nat)) 82 (0, 0)) k_ k_ (fun w => by kernel_rfl) (fun b4 => ?_)
    refine RN.share 0 rfl rfl ?_
    refine RN.also (fU (⟨some ⟨b4, 0, none⟩, 1⟩ : SA) ([1] : List Nat)) (fun w h => fU_own (h _ (.head _)) x_ x_) ?_
    refine RN.turn 10 (v := .slice (some ⟨b4, 0, none⟩) 1 1) (v' := sl (⟨some ⟨b4, 0, none⟩, 1⟩ : SA) ([1] : List Nat).length) k_ (sl_eq x_) ?_
    refine RN.call (r01_Add y3 (toL ((-(v + 1)).natAbs)) (⟨some ⟨b4, 0, none⟩, 1⟩ : SA) ([1] : List Nat) y_r02_FromInt y_r02_FromInt y_r02_FromInt y_r02_FromInt) [2, 0] k_ k_ k_ rfl (fun y5 _ => ?_)
    refine RN.call (r02_signed true y5 (nv (toL ((-(v + 1)).natAbs)) + nv ([1] : List Nat))) [0] k_ k_ k_ rfl (fun y6 _ => ?_)
    refine RN.bat [some 0] [2] [b1, b1] (k' := 9) (l' := [(2, pt b1)]) (M' := [(b1, .cells #[.bool (decide ((sgn true (nv (toL ((-(v + 1)).natAbs)) + nv ([1] : List Nat))) < 0)), sl y6 (toL ((sgn true (nv (toL ((-(v + 1)).natAbs)) + nv ([1] : List Nat))).natAbs)).length] 25 (0, 0))]) k_ ?_
    refine RN.done k_ ?_
    refine KN.next ?_
    have e_1 : v = (sgn true (nv (toL ((-(v + 1)).natAbs)) + nv ([1] : List Nat))) := by first | (rw [nv_toL, nv_one]; simp [sgn]; omega) | (simp [sgn]; omega)
    refine J.ret (KR.next (KR.ret (v := intV y6 (encZ (sgn true (nv (toL ((-(v + 1)).natAbs)) + nv ([1] : List Nat))))) (y6) [some 0] [0] [b1, b1] k_ v1_ (trivial) v1_))
  · skip
    replace c2 := of_decide_eq_false c2
    refine J.skip ?_
    refine KN.next ?_
    refine J.sreg ?_
    refine RN.bq (no 2) [2, 14] [] (k' := 2) (l' := [(2, pt b1), (14, .int .u64 (IntKind.u64.wrap v))]) k_ ?_
    rw [show (IntKind.u64.wrap v) = ((v.natAbs : Nat) : Int) from by exact u64_pos (by omega) (by omega)]
    refine RN.call (r01_FromUint (v.natAbs) y_r02_FromInt) [] k_ k_ k_ rfl (fun y7 _ => ?_)
    refine RN.call (r02_signed false y7 (v.natAbs)) [0] k_ k_ k_ rfl (fun y8 _ => ?_)
    refine RN.bat [some 0] [2] [b1, b1] (k' := 5) (l' := [(2, pt b1)]) (M' := [(b1, .cells #[.bool (decide ((sgn false (v.natAbs)) < 0)), sl y8 (toL ((sgn false (v.natAbs)).natAbs)).length] 25 (0, 0))]) k_ ?_
    refine RN.done k_ ?_
    refine KN.next ?_
    have e_1 : v = (sgn false (v.natAbs)) := by first | (rw [nv_toL, nv_one]; simp [sgn]; omega) | (simp [sgn]; omega)
    refine J.ret (KR.ret (v := intV y8 (encZ (sgn false (v.natAbs)))) (y8) [some 0] [0] [b1, b1] k_ v1_ (trivial) v1_)
theorem ediv_core {a b : Int} {m r : Nat} (hb : b ≠ 0) (h : (r : Int) + (b.natAbs : Int) * sgn (decide (a < 0)) m = a) (hr : r < b.natAbs) :
    sgn (decide (a < 0) != decide (b < 0)) m = a / b ∧ (r : Int) = a % b := by
  have hd : (0 : Int) < (b.natAbs : Int) := by omega
  have hu := (Int.ediv_emod_unique (a := a) (r := (r : Int)) (q := sgn (decide (a < 0)) m) hd).2 ⟨h, by omega, by omega⟩
  by_cases hn : b < 0
  · have e : b = -(b.natAbs : Int) := by omega
    have e1 : a / b = -(a / (b.natAbs : Int)) := by
      conv => lhs; rw [e]
      exact Int.ediv_neg a _
    have e2 : a % b = a % (b.natAbs : Int) := by
      conv => lhs; rw [e]
      exact Int.emod_neg a _
    rw [e1, e2, hu.1, hu.2]
    refine ⟨?_, rfl⟩
    cases decide (a < 0) <;> simp [sgn, hn]
  · have e : (b.natAbs : Int) = b := by omega
    rw [e] at hu
    rw [hu.1, hu.2]
    refine ⟨?_, rfl⟩
    cases decide (a < 0) <;> simp [sgn, hn]
theorem ediv_0 {a b : Int} (hb : b ≠ 0) (h : ¬ (a < 0 ∧ a.natAbs % b.natAbs ≠ 0)) : sgn (decide (a < 0) != decide (b < 0)) (a.natAbs / b.natAbs) = a / b ∧ ((a.natAbs % b.natAbs : Nat) : Int) = a % b := by
  have hd : 0 < b.natAbs := by omega
  have hm := Nat.div_add_mod a.natAbs b.natAbs
  have hl := Nat.mod_lt a.natAbs hd
  refine ediv_core hb ?_ hl
  generalize a.natAbs % b.natAbs = r at *
  generalize a.natAbs / b.natAbs = q at *
  have hmi : (b.natAbs : Int) * (q : Int) + (r : Int) = (a.natAbs : Int) := by exact_mod_cast hm
  by_cases ha : a < 0
  · have hr : r = 0 := by
      apply Nat.eq_zero_of_not_pos; intro hp; exact h ⟨ha, by omega⟩
    simp only [ha, decide_true, sgn, if_true]
    rw [Int.mul_neg]; omega
  · simp only [ha, decide_false, sgn]
    simp; omega
theorem ediv_1 {a b : Int} (hb : b ≠ 0) (ha : a < 0) (h : a.natAbs % b.natAbs ≠ 0) : sgn (decide (a < 0) != decide (b < 0)) (a.natAbs / b.natAbs + 1) = a / b ∧ ((b.natAbs - a.natAbs % b.natAbs : Nat) : Int) = a % b := by
  have hd : 0 < b.natAbs := by omega
  have hm := Nat.div_add_mod a.natAbs b.natAbs
  have hl := Nat.mod_lt a.natAbs hd
  refine ediv_core hb ?_ (by omega)
  generalize a.natAbs % b.natAbs = r at *
  generalize a.natAbs / b.natAbs = q at *
  have hmi : (b.natAbs : Int) * (q : Int) + (r : Int) = (a.natAbs : Int) := by exact_mod_cast hm
  simp only [ha, decide_true, sgn, if_true]
  rw [show ((q + 1 : Nat) : Int) = (q : Int) + 1 from rfl, Int.mul_neg, Int.mul_add, Int.mul_one]; omega
theorem y_r02_Div {p : Prop} (h : p := by first | assumption | exact Lb_toL _ | omega | (simp; done) | first | exact Lb.one (by decide) | (simp; done) | (simp; omega)) : p := h
theorem r02_Div (s : SA) (x : RawI) (t : SA) (z : RawI) (hx : Lb x.mag) (hxl : x.mag.length ≤ 137438953472) (hz : Lb z.mag) (hzl : z.mag.length ≤ 137438953472) : Spec Tryz.prog 103 #[intV s x, intV t z] [fU s x.mag, fU t z.mag] (ι := SA × SA) (fun y => .tuple #[intV y.1 (encZ (zv x / zv z)), intV y.2 (encZ (if zv z = 0 then 0 else zv x % zv z)), .bool (decide (zv z ≠ 0))]) (fun y => True) (fun y => [fU y.1 (toL ((zv x / zv z).natAbs)), fU y.2 (toL ((if zv z = 0 then 0 else zv x % zv z).natAbs))]) := by
  refine Spec.of_body _ (fn := Tryz.f103) k_ rfl k_ (fun X w0 => ?_)
  refine J.fact (φ := x.mag.length ≤ 140737488355328) (fun w h => by have := (h _ (.head _)).1; omega) (fun hl1 => ?_)
  refine J.fact (φ := z.mag.length ≤ 140737488355328) (fun w h => by have := (h _ (.tail _ ((.head _)))).1; omega) (fun hl2 => ?_)
  have hxv := Nat.le_trans (zv_len hx) hxl
  have hzv := Nat.le_trans (zv_len hz) hzl
  have hql := length_toL_mono (Nat.div_le_self (zv x).natAbs (zv z).natAbs)
  refine J.sreg ?_
  refine RN.new (fun b => pt b) (.cells #[.bool x.neg, sl s x.mag.length] 25 (0, 0)) k_ k_ (fun w => by kernel_rfl) (fun b3 => ?_)
  refine RN.new (fun b => pt b) (.cells #[.bool z.neg, sl t z.mag.length] 25 (0, 0)) k_ k_ (fun w => by kernel_rfl) (fun b4 => ?_)
  refine RN.new (fun b => pt b) (.cells #[.bool false, sl saNil ([] : List Nat).length] 25 (0, 0)) k_ k_ (fun w => by kernel_rfl) (fun b5 => ?_)
  refine RN.new (fun b => pt b) (.cells #[.bool false, sl saNil ([] : List Nat).length] 25 (0, 0)) k_ k_ (fun w => by kernel_rfl) (fun b6 => ?_)
  refine RN.bq (no 1) [2, 3, 4, 5] [] (k' := 5) (l' := [(2, pt b3), (3, pt b4), (4, pt b5), (5, pt b6)]) k_ ?_
  refine RN.done k_ ?_
  refine KN.next ?_
  refine J.seq ?_
  refine J.regD k_ [4, 5] ?_
  refine RD.bat k_ [(0, some 3), (2, some 2)] [2, 3, 4, 5, 10, 12] [b4, b4, b3, b3] (L' := [2, 0]) (l' := [(2, pt b3), (3, pt b4), (4, pt b5), (5, pt b6), (10, intV s x), (12, intV t z)]) k_ ?_
  refine RD.call (i := 1) (r02_Take s x y_r02_Div y_r02_Div) [0] k_ k_ k_ k_ k_ rfl (fun y7 _ => ?_)
  refine RD.call (i := 3) (r02_Take t z y_r02_Div y_r02_Div) [2] k_ k_ k_ k_ k_ rfl (fun y8 _ => ?_)
  refine RD.last (i := 4) (some 3) [2, 3, 4, 5, 13] [b3, b3] k_ k_ k_ (l' := [(2, pt b3), (3, pt b4), (4, pt b5), (5, pt b6), (13, intV y8 (encZ (zv z)))]) (M' := [(b6, .cells #[.bool false, sl saNil ([] : List Nat).length] 25 (0, 0)), (b5, .cells #[.bool false, sl saNil ([] : List Nat).length] 25 (0, 0)), (b4, .cells #[.bool z.neg, sl t z.mag.length] 25 (0, 0)), (b3, .cells #[.bool (decide ((zv x) < 0)), sl y7 (toL ((zv x).natAbs)).length] 25 (0, 0))]) k_ ?_
  refine RD.last (i := 5) (some 2) [2, 3, 4, 5] [b4, b4] k_ k_ k_ (l' := [(2, pt b3), (3, pt b4), (4, pt b5), (5, pt b6)]) (M' := [(b6, .cells #[.bool false, sl saNil ([] : List Nat).length] 25 (0, 0)), (b5, .cells #[.bool false, sl saNil ([] : List Nat).length] 25 (0, 0)), (b4, .cells #[.bool (decide ((zv z) < 0)), sl y8 (toL ((zv z).natAbs)).length] 25 (0, 0)), (b3, .cells #[.bool (decide ((zv x) < 0)), sl y7 (toL ((zv x).natAbs)).length] 25 (0, 0))]) k_ ?_
  refine RD.done k_ ?_
  refine KN.next ?_
  refine J.sreg ?_
  refine RN.bq [none, some 3, none, some 2] [2, 3, 4, 5, 16, 18] [b4, b3] (k' := 4) (l' := [(2, pt b3), (3, pt b4), (4, pt b5), (5, pt b6), (16, sl y7 (toL ((zv x).natAbs)).length), (18, sl y8 (toL ((zv z).natAbs)).length)]) k_ ?_
  refine RN.call (r01_Div_c y7 ((zv x).natAbs) y8 ((zv z).natAbs) y_r02_Div y_r02_Div) [1, 0] k_ k_ k_ rfl (fun y9 _ => ?_)
  refine RN.bq (no 7) [2, 3, 4, 5, 7, 8, 9] [] (k' := 12) (l' := [(2, pt b3), (3, pt b4), (4, pt b5), (5, pt b6), (7, sl y9.1 (toL (((zv x).natAbs) / ((zv z).natAbs))).length), (8, sl y9.2 (toL (if ((zv z).natAbs) = 0 then 0 else ((zv x).natAbs) % ((zv z).natAbs))).length), (9, .bool (decide (((zv z).natAbs) ≠ 0)))]) k_ ?_
  refine RN.done k_ ?_
  refine KN.next ?_
  refine J.seq ?_
  refine J.sreg ?_
  refine RN.bq (no 2) [2, 3, 4, 5, 7, 8, 24] [] (k' := 2) (l' := [(2, pt b3), (3, pt b4), (4, pt b5), (5, pt b6), (7, sl y9.1 (toL (((zv x).natAbs) / ((zv z).natAbs))).length), (8, sl y9.2 (toL (if ((zv z).natAbs) = 0 then 0 else ((zv x).natAbs) % ((zv z).natAbs))).length), (24, .bool (!(decide (((zv z).natAbs) ≠ 0))))]) k_ ?_
  refine RN.done k_ ?_
  refine KN.next ?_
  refine J.cond (!(decide (((zv z).natAbs) ≠ 0))) k_ (fun c10 => ?_) (fun c10 => ?_)
  · skip
    replace c10 := of_decide_eq_false ((Bool.not_eq_true' _).mp c10)
    have h0 : zv z = 0 := by simpa using c10
    refine J.sreg ?_
    refine RN.bat [none, none, some 1, some 0, none] [4, 5, 6] [b6, b6, b5, b5] (k' := 5) (l' := [(4, pt b5), (5, pt b6), (6, .bool false)]) (M' := [(b6, .cells #[.bool false, sl saNil ([] : List Nat).length] 25 (0, 0)), (b5, .cells #[.bool false, sl saNil ([] : List Nat).length] 25 (0, 0)), (b4, .cells #[.bool (decide ((zv z) < 0)), sl y8 (toL ((zv z).natAbs)).length] 25 (0, 0)), (b3, .cells #[.bool (decide ((zv x) < 0)), sl y7 (toL ((zv x).natAbs)).length] 25 (0, 0))]) k_ ?_
    refine RN.done k_ ?_
    refine KN.next ?_
    have e_1 : (encZ (zv x / zv z)) = (⟨false, ([] : List Nat)⟩ : RawI) := by first | (rw [h0, Int.ediv_zero, encZ_zero]; done) | (rw [if_pos h0, encZ_zero]; done) | simp [h0]
    have e_2 : (toL ((zv x / zv z).natAbs)) = ([] : List Nat) := congrArg RawI.mag e_1
    have e_3 : (encZ (if zv z = 0 then 0 else zv x % zv z)) = (⟨false, ([] : List Nat)⟩ : RawI) := by first | (rw [h0, Int.ediv_zero, encZ_zero]; done) | (rw [if_pos h0, encZ_zero]; done) | simp [h0]
    have e_4 : (toL ((if zv z = 0 then 0 else zv x % zv z).natAbs)) = ([] : List Nat) := congrArg RawI.mag e_3
    have e_5 : (decide (zv z ≠ 0)) = false := by first | (rw [h0, Int.ediv_zero, encZ_zero]; done) | (rw [if_pos h0, encZ_zero]; done) | simp [h0]
    refine J.also (fU saNil ([] : List Nat)) (fun w h => fU_nil w) ?_
    refine J.ret (KR.next (KR.ret (v := .tuple #[intV saNil (⟨false, ([] : List Nat)⟩ : RawI), intV saNil (⟨false, ([] : List Nat)⟩ : RawI), .bool false]) (⟨saNil, saNil⟩) [some 1, some 0, none] [0, 0] [b5, b5, b6, b6] k_ (by first | rfl | (rw [e_1, e_3, e_5]; done) | (simp only [e_1, e_3, e_5]; done) | (rw [e_2, e_4]; done) | (rw [e_1, e_2, e_3, e_4, e_5]; rfl) | (simp only [e_1, e_2, e_3, e_4, e_5]; done) | (simp only [e_1, e_2, e_3, e_4, e_5]; rfl)) (trivial) (by first | rfl | (rw [e_1, e_3, e_5]; done) | (simp only [e_1, e_3, e_5]; done) | (rw [e_2, e_4]; done) | (rw [e_1, e_2, e_3, e_4, e_5]; rfl) | (simp only [e_1, e_2, e_3, e_4, e_5]; done) | (simp only [e_1, e_2, e_3, e_4, e_5]; rfl))))
  · skip
    replace c10 := of_decide_eq_true ((Bool.not_eq_false' _).mp c10)
    have h0 : zv z ≠ 0 := by simpa using c10
    have hn0 : ¬ (zv z).natAbs = 0 := by omega
    have hml := length_toL_mono (Nat.le_of_lt (Nat.mod_lt (zv x).natAbs (by omega : 0 < (zv z).natAbs)))
    rw [show (if ((zv z).natAbs) = 0 then 0 else ((zv x).natAbs) % ((zv z).natAbs)) = ((zv x).natAbs) % ((zv z).natAbs) from if_neg hn0]
    refine J.skip ?_
    refine KN.next ?_
    refine J.seq ?_
    refine J.sreg ?_
    refine RN.bq [none, some 3, none] [2, 3, 4, 5, 7, 8, 29] [b3] (k' := 3) (l' := [(2, pt b3), (3, pt b4), (4, pt b5), (5, pt b6), (7, sl y9.1 (toL (((zv x).natAbs) / ((zv z).natAbs))).length), (8, sl y9.2 (toL (((zv x).natAbs) % ((zv z).natAbs))).length), (29, .bool (decide ((zv x) < 0)))]) k_ ?_
    refine RN.split 29 (decide ((zv x) < 0)) k_ (fun c11 => ?_) (fun c11 => ?_)
    · skip
      replace c11 := of_decide_eq_true c11
      have hneg := c11
      refine RN.bq (no 4) [2, 3, 4, 5, 7, 8, 33] [] (k' := 7) (l' := [(2, pt b3), (3, pt b4), (4, pt b5), (5, pt b6), (7, sl y9.1 (toL (((zv x).natAbs) / ((zv z).natAbs))).length), (8, sl y9.2 (toL (((zv x).natAbs) % ((zv z).natAbs))).length), (33, .bool (decide ((((toL (((zv x).natAbs) % ((zv z).natAbs))).length : Nat) : Int) > 0)))]) k_ ?_
      refine RN.done k_ ?_
      refine KN.next ?_
      refine J.cond (decide ((((toL (((zv x).natAbs) % ((zv z).natAbs))).length : Nat) : Int) > 0)) k_ (fun c12 => ?_) (fun c12 => ?_)
      · skip
        replace c12 := of_decide_eq_true c12
        have hr0 : (zv x).natAbs % (zv z).natAbs ≠ 0 := toL_len_ne (by omega)
        have hE := ediv_1 h0 hneg hr0
        refine J.sreg ?_
        refine RN.bq (no 1) [2, 3, 4, 5, 8, 34] [] (k' := 1) (l' := [(2, pt b3), (3, pt b4), (4, pt b5), (5, pt b6), (8, sl y9.2 (toL (((zv x).natAbs) % ((zv z).natAbs))).length), (34, sl y9.1 (toL (((zv x).natAbs) / ((zv z).natAbs))).length)]) k_ ?_
        refine RN.new (fun b => .slice (some ⟨b, 0, none⟩) 1 1) (.cells (encU ([1] : List Nat)) 82 (0, 0)) k_ k_ (fun w => by kernel_rfl) (fun b13 => ?_)
        refine RN.share 0 rfl rfl ?_
        refine RN.also (fU (⟨some ⟨b13, 0, none⟩, 1⟩ : SA) ([1] : List Nat)) (fun w h => fU_own (h _ (.head _)) x_ x_) ?_
        refine RN.turn 35 (v := .slice (some ⟨b13, 0, none⟩) 1 1) (v' := sl (⟨some ⟨b13, 0, none⟩, 1⟩ : SA) ([1] : List Nat).length) k_ (sl_eq x_) ?_
        refine RN.call (r01_Add y9.1 (toL (((zv x).natAbs) / ((zv z).natAbs))) (⟨some ⟨b13, 0, none⟩, 1⟩ : SA) ([1] : List Nat) y_r02_Div y_r02_Div y_r02_Div y_r02_Div) [2, 0] k_ k_ k_ rfl (fun y14 _ => ?_)
        refine RN.bq (no 1) [2, 3, 4, 5, 7, 8] [] (k' := 4) (l' := [(2, pt b3), (3, pt b4), (4, pt b5), (5, pt b6), (7, sl y14 (toL (nv (toL (((zv x).natAbs) / ((zv z).natAbs))) + nv ([1] : List Nat))).length), (8, sl y9.2 (toL (((zv x).natAbs) % ((zv z).natAbs))).length)]) k_ ?_
        refine RN.done k_ ?_
        refine KN.next ?_
        refine J.regN ?_
        refine RN.bq [none, some 2, none] [2, 3, 4, 5, 7, 39, 40] [b4] (k' := 3) (l' := [(2, pt b3), (3, pt b4), (4, pt b5), (5, pt b6), (7, sl y14 (toL (nv (toL (((zv x).natAbs) / ((zv z).natAbs))) + nv ([1] : List Nat))).length), (39, sl y8 (toL ((zv z).natAbs)).length), (40, sl y9.2 (toL (((zv x).natAbs) % ((zv z).natAbs))).length)]) k_ ?_
        refine RN.call (r01_Sub_c y8 ((zv z).natAbs) y9.2 (((zv x).natAbs) % ((zv z).natAbs)) y_r02_Div y_r02_Div) [5, 4] k_ k_ k_ rfl (fun y15 _ => ?_)
        refine RN.bq (no 4) [2, 3, 4, 5, 7, 8] [] (k' := 8) (l' := [(2, pt b3), (3, pt b4), (4, pt b5), (5, pt b6), (7, sl y14 (toL (nv (toL (((zv x).natAbs) / ((zv z).natAbs))) + nv ([1] : List Nat))).length), (8, sl y15 (toL (((zv z).natAbs) - (((zv x).natAbs) % ((zv z).natAbs)))).length)]) k_ ?_
        refine RN.done k_ ?_
        refine KN.next ?_
        refine J.sreg ?_
        refine RN.bq [none, some 3, none, some 2, none, none] [4, 5, 8, 48, 49] [b4, b3] (k' := 6) (l' := [(4, pt b5), (5, pt b6), (8, sl y15 (toL (((zv z).natAbs) - (((zv x).natAbs) % ((zv z).natAbs)))).length), (48, .bool ((decide ((zv x) < 0)) != (decide ((zv z) < 0)))), (49, sl y14 (toL (nv (toL (((zv x).natAbs) / ((zv z).natAbs))) + nv ([1] : List Nat))).length)]) k_ ?_
        refine RN.call (r02_signed ((decide ((zv x) < 0)) != (decide ((zv z) < 0))) y14 (nv (toL (((zv x).natAbs) / ((zv z).natAbs))) + nv ([1] : List Nat))) [1] k_ k_ k_ rfl (fun y16 _ => ?_)
        refine RN.bq (no 1) [4, 5, 50, 51] [] (k' := 8) (l' := [(4, pt b5), (5, pt b6), (50, intV y16 (encZ (sgn ((decide ((zv x) < 0)) != (decide ((zv z) < 0))) (nv (toL (((zv x).natAbs) / ((zv z).natAbs))) + nv ([1] : List Nat))))), (51, sl y15 (toL (((zv z).natAbs) - (((zv x).natAbs) % ((zv z).natAbs)))).length)]) k_ ?_
        refine RN.call (r02_signed false y15 (((zv z).natAbs) - (((zv x).natAbs) % ((zv z).natAbs)))) [1] k_ k_ k_ rfl (fun y17 _ => ?_)
        refine RN.bat [some 1, some 0, none] [4, 5, 6] [b6, b6, b5, b5] (k' := 12) (l' := [(4, pt b5), (5, pt b6), (6, .bool true)]) (M' := [(b6, .cells #[.bool (decide ((sgn false (((zv z).natAbs) - (((zv x).natAbs) % ((zv z).natAbs)))) < 0)), sl y17 (toL ((sgn false (((zv z).natAbs) - (((zv x).natAbs) % ((zv z).natAbs)))).natAbs)).length] 25 (0, 0)), (b5, .cells #[.bool (decide ((sgn ((decide ((zv x) < 0)) != (decide ((zv z) < 0))) (nv (toL (((zv x).natAbs) / ((zv z).natAbs))) + nv ([1] : List Nat))) < 0)), sl y16 (toL ((sgn ((decide ((zv x) < 0)) != (decide ((zv z) < 0))) (nv (toL (((zv x).natAbs) / ((zv z).natAbs))) + nv ([1] : List Nat))).natAbs)).length] 25 (0, 0)), (b4, .cells #[.bool (decide ((zv z) < 0)), sl y8 (toL ((zv z).natAbs)).length] 25 (0, 0)), (b3, .cells #[.bool (decide ((zv x) < 0)), sl y7 (toL ((zv x).natAbs)).length] 25 (0, 0))]) k_ ?_
        refine RN.done k_ ?_
        refine KN.next ?_
        have e_1 : (zv x / zv z) = (sgn ((decide ((zv x) < 0)) != (decide ((zv z) < 0))) (nv (toL (((zv x).natAbs) / ((zv z).natAbs))) + nv ([1] : List Nat))) := by first | (rw [nv_toL, nv_one]; exact hE.1.symm) | (rw [if_neg h0, ← hE.2]; rfl) | simp [h0]
        have e_2 : (if zv z = 0 then 0 else zv x % zv z) = (sgn false (((zv z).natAbs) - (((zv x).natAbs) % ((zv z).natAbs)))) := by first | (rw [nv_toL, nv_one]; exact hE.1.symm) | (rw [if_neg h0, ← hE.2]; rfl) | simp [h0]
        have e_3 : (decide (zv z ≠ 0)) = true := by first | (rw [nv_toL, nv_one]; exact hE.1.symm) | (rw [if_neg h0, ← hE.2]; rfl) | simp [h0]
        refine J.ret (KR.ret (v := .tuple #[intV y16 (encZ (sgn ((decide ((zv x) < 0)) != (decide ((zv z) < 0))) (nv (toL (((zv x).natAbs) / ((zv z).natAbs))) + nv ([1] : List Nat)))), intV y17 (encZ (sgn false (((zv z).natAbs) - (((zv x).natAbs) % ((zv z).natAbs))))), .bool true]) (⟨y16, y17⟩) [some 1, some 0, none] [1, 0] [b5, b5, b6, b6] k_ v3_ (trivial) v3_)
      · skip
        replace c12 := of_decide_eq_false c12
        have hr0 : (zv x).natAbs % (zv z).natAbs = 0 := toL_len_eq (by omega)
        have hE := ediv_0 h0 (fun h => h.2 hr0)
        refine J.skip ?_
        refine KN.next ?_
        refine J.sreg ?_
        refine RN.bq [none, some 3, none, some 2, none, none] [4, 5, 8, 48, 49] [b4, b3] (k' := 6) (l' := [(4, pt b5), (5, pt b6), (8, sl y9.2 (toL (((zv x).natAbs) % ((zv z).natAbs))).length), (48, .bool ((decide ((zv x) < 0)) != (decide ((zv z) < 0)))), (49, sl y9.1 (toL (((zv x).natAbs) / ((zv z).natAbs))).length)]) k_ ?_
        refine RN.call (r02_signed ((decide ((zv x) < 0)) != (decide ((zv z) < 0))) y9.1 (((zv x).natAbs) / ((zv z).natAbs))) [0] k_ k_ k_ rfl (fun y18 _ => ?_)
        refine RN.bq (no 1) [4, 5, 50, 51] [] (k' := 8) (l' := [(4, pt b5), (5, pt b6), (50, intV y18 (encZ (sgn ((decide ((zv x) < 0)) != (decide ((zv z) < 0))) (((zv x).natAbs) / ((zv z).natAbs))))), (51, sl y9.2 (toL (((zv x).natAbs) % ((zv z).natAbs))).length)]) k_ ?_
        refine RN.call (r02_signed false y9.2 (((zv x).natAbs) % ((zv z).natAbs))) [2] k_ k_ k_ rfl (fun y19 _ => ?_)
        refine RN.bat [some 1, some 0, none] [4, 5, 6] [b6, b6, b5, b5] (k' := 12) (l' := [(4, pt b5), (5, pt b6), (6, .bool true)]) (M' := [(b6, .cells #[.bool (decide ((sgn false (((zv x).natAbs) % ((zv z).natAbs))) < 0)), sl y19 (toL ((sgn false (((zv x).natAbs) % ((zv z).natAbs))).natAbs)).length] 25 (0, 0)), (b5, .cells #[.bool (decide ((sgn ((decide ((zv x) < 0)) != (decide ((zv z) < 0))) (((zv x).natAbs) / ((zv z).natAbs))) < 0)), sl y18 (toL ((sgn ((decide ((zv x) < 0)) != (decide ((zv z) < 0))) (((zv x).natAbs) / ((zv z).natAbs))).natAbs)).length] 25 (0, 0)), (b4, .cells #[.bool (decide ((zv z) < 0)), sl y8 (toL ((zv z).natAbs)).length] 25 (0, 0)), (b3, .cells #[.bool (decide ((zv x) < 0)), sl y7 (toL ((zv x).natAbs)).length] 25 (0, 0))]) k_ ?_
        refine RN.done k_ ?_
        refine KN.next ?_
        have e_1 : (zv x / zv z) = (sgn ((decide ((zv x) < 0)) != (decide ((zv z) < 0))) (((zv x).natAbs) / ((zv z).natAbs))) := by first | exact hE.1.symm | (rw [if_neg h0, ← hE.2]; rfl) | simp [h0]
        have e_2 : (if zv z = 0 then 0 else zv x % zv z) = (sgn false (((zv x).natAbs) % ((zv z).natAbs))) := by first | exact hE.1.symm | (rw [if_neg h0, ← hE.2]; rfl) | simp [h0]
        have e_3 : (decide (zv z ≠ 0)) = true := by first | exact hE.1.symm | (rw [if_neg h0, ← hE.2]; rfl) | simp [h0]
        refine J.ret (KR.ret (v := .tuple #[intV y18 (encZ (sgn ((decide ((zv x) < 0)) != (decide ((zv z) < 0))) (((zv x).natAbs) / ((zv z).natAbs)))), intV y19 (encZ (sgn false (((zv x).natAbs) % ((zv z).natAbs)))), .bool true]) (⟨y18, y19⟩) [some 1, some 0, none] [1, 0] [b5, b5, b6, b6] k_ v3_ (trivial) v3_)
    · skip
      replace c11 := of_decide_eq_false c11
      have hneg := c11
      refine RN.bq (no 4) [2, 3, 4, 5, 7, 8, 33] [] (k' := 7) (l' := [(2, pt b3), (3, pt b4), (4, pt b5), (5, pt b6), (7, sl y9.1 (toL (((zv x).natAbs) / ((zv z).natAbs))).length), (8, sl y9.2 (toL (((zv x).natAbs) % ((zv z).natAbs))).length), (33, .bool false)]) k_ ?_
      refine RN.done k_ ?_
      refine KN.next ?_
      refine J.condF k_ ?_
      refine J.skip ?_
      refine KN.next ?_
      refine J.sreg ?_
      refine RN.bq [none, some 3, none, some 2, none, none] [4, 5, 8, 48, 49] [b4, b3] (k' := 6) (l' := [(4, pt b5), (5, pt b6), (8, sl y9.2 (toL (((zv x).natAbs) % ((zv z).natAbs))).length), (48, .bool ((decide ((zv x) < 0)) != (decide ((zv z) < 0)))), (49, sl y9.1 (toL (((zv x).natAbs) / ((zv z).natAbs))).length)]) k_ ?_
      refine RN.call (r02_signed ((decide ((zv x) < 0)) != (decide ((zv z) < 0))) y9.1 (((zv x).natAbs) / ((zv z).natAbs))) [0] k_ k_ k_ rfl (fun y20 _ => ?_)
      refine RN.bq (no 1) [4, 5, 50, 51] [] (k' := 8) (l' := [(4, pt b5), (5, pt b6), (50, intV y20 (encZ (sgn ((decide ((zv x) < 0)) != (decide ((zv z) < 0))) (((zv x).natAbs) / ((zv z).natAbs))))), (51, sl y9.2 (toL (((zv x).natAbs) % ((zv z).natAbs))).length)]) k_ ?_
      refine RN.call (r02_signed false y9.2 (((zv x).natAbs) % ((zv z).natAbs))) [2] k_ k_ k_ rfl (fun y21 _ => ?_)
      refine RN.bat [some 1, some 0, none] [4, 5, 6] [b6, b6, b5, b5] (k' := 12) (l' := [(4, pt b5), (5, pt b6), (6, .bool true)]) (M' := [(b6, .cells #[.bool (decide ((sgn false (((zv x).natAbs) % ((zv z).natAbs))) < 0)), sl y21 (toL ((sgn false (((zv x).natAbs) % ((zv z).natAbs))).natAbs)).length] 25 (0, 0)), (b5, .cells #[.bool (decide ((sgn ((decide ((zv x) < 0)) != (decide ((zv z) < 0))) (((zv x).natAbs) / ((zv z).natAbs))) < 0)), sl y20 (toL ((sgn ((decide ((zv x) < 0)) != (decide ((zv z) < 0))) (((zv x).natAbs) / ((zv z).natAbs))).natAbs)).length] 25 (0, 0)), (b4, .cells #[.bool (decide ((zv z) < 0)), sl y8 (toL ((zv z).natAbs)).length] 25 (0, 0)), (b3, .cells #[.bool (decide ((zv x) < 0)), sl y7 (toL ((zv x).natAbs)).length] 25 (0, 0))]) k_ ?_
      refine RN.done k_ ?_
      refine KN.next ?_
      have e_1 : (zv x / zv z) = (sgn ((decide ((zv x) < 0)) != (decide ((zv z) < 0))) (((zv x).natAbs) / ((zv z).natAbs))) := by first | exact (ediv_0 h0 (fun h => hneg h.1)).1.symm | (rw [if_neg h0, ← (ediv_0 h0 (fun h => hneg h.1)).2]; rfl) | simp [h0]
      have e_2 : (if zv z = 0 then 0 else zv x % zv z) = (sgn false (((zv x).natAbs) % ((zv z).natAbs))) := by first | exact (ediv_0 h0 (fun h => hneg h.1)).1.symm | (rw [if_neg h0, ← (ediv_0 h0 (fun h => hneg h.1)).2]; rfl) | simp [h0]
      have e_3 : (decide (zv z ≠ 0)) = true := by first | exact (ediv_0 h0 (fun h => hneg h.1)).1.symm | (rw [if_neg h0, ← (ediv_0 h0 (fun h => hneg h.1)).2]; rfl) | simp [h0]
      refine J.ret (KR.ret (v := .tuple #[intV y20 (encZ (sgn ((decide ((zv x) < 0)) != (decide ((zv z) < 0))) (((zv x).natAbs) / ((zv z).natAbs)))), intV y21 (encZ (sgn false (((zv x).natAbs) % ((zv z).natAbs)))), .bool true]) (⟨y20, y21⟩) [some 1, some 0, none] [1, 0] [b5, b5, b6, b6] k_ v3_ (trivial) v3_)
theorem r02_Div_c (s : SA) (x' : Int) (t : SA) (z' : Int) (hxl : (toL (x'.natAbs)).length ≤ 137438953472) (hzl : (toL (z'.natAbs)).length ≤ 137438953472) : Spec Tryz.prog 103 #[intV s (encZ x'), intV t (encZ z')] [fU s (toL (x'.natAbs)), fU t (toL (z'.natAbs))] (ι := SA × SA) (fun y => .tuple #[intV y.1 (encZ (x' / z')), intV y.2 (encZ (if z' = 0 then 0 else x' % z')), .bool (decide (z' ≠ 0))]) (fun y => True) (fun y => [fU y.1 (toL ((x' / z').natAbs)), fU y.2 (toL ((if z' = 0 then 0 else x' % z').natAbs))]) := by
  have H := r02_Div s (encZ x') t (encZ z') (Lb_toL _) (by first | exact hxl | simpa only [zv_encZ, zv_encZ] using hxl) (Lb_toL _) (by first | exact hzl | simpa only [zv_encZ, zv_encZ] using hzl)
  first | exact H | (simp only [zv_encZ, validZ_encZ] at H; exact H)
end Go.Proofs.YtegnonhgildhoaaGreat.E
