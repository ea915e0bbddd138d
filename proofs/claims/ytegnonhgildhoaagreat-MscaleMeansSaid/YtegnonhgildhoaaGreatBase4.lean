import Derived.Test.YtegnonhgildhoaaGreatBase3
import Derived.Test.YtegnonhgildhoaaGreatN7
namespace Go.Proofs.YtegnonhgildhoaaGreat.E
open Go Go.RowKit
set_option linter.unusedVariables false
set_option linter.unusedSimpArgs false
theorem nv_nil : nv [] = 0 := rfl
theorem natural_Add_nil (s : SA) (a : Nat) (hl : (toL a).length ≤ 1099511627776) : Spec Tryz.prog 114 #[sl s (toL a).length, .slice none 0 0] [fU s (toL a), fU saNil ([] : List Nat)] (ι := SA) (fun y => sl y (toL a).length) (fun y => True) (fun y => [fU y (toL a)]) := by
  have H := natural_Add s (toL a) saNil [] (Lb_toL _) Lb_nil hl (by simp)
  simp only [nv_toL, nv_nil, Nat.add_zero] at H
  exact H
theorem integer_Valid (s : SA) (z : RawI) : Spec Tryz.prog 132 #[intV s z] [fU s z.mag] (ι := Unit) (fun y => .bool (validZ z)) (fun y => True) (fun y => []) := by
  refine Spec.of_body _ (fn := Tryz.f132) k_ rfl k_ (fun X w0 => ?_)
  refine J.fact (φ := z.mag.length ≤ 140737488355328) (fun w h => by have := (h _ (.head _)).1; omega) (fun hl1 => ?_)
  refine J.sreg ?_
  refine RN.new (fun b => pt b) (.cells #[.bool z.neg, sl s z.mag.length] 25 (0, 0)) k_ k_ (fun w => by kernel_rfl) (fun b2 => ?_)
  refine RN.bq (no 1) [1] [] (k' := 2) (l' := [(1, pt b2)]) k_ ?_
  refine RN.done k_ ?_
  refine KN.next ?_
  refine J.sreg ?_
  refine RN.bq [none, some 0] [1, 4] [b2] (k' := 2) (l' := [(1, pt b2), (4, sl s z.mag.length)]) k_ ?_
  refine RN.call (natural_Valid s z.mag) [0] k_ k_ k_ rfl (fun y3 _ => ?_)
  refine RN.bq (no 1) [1, 6] [] (k' := 4) (l' := [(1, pt b2), (6, .bool (validU z.mag))]) k_ ?_
  refine RN.split 6 (validU z.mag) k_ (fun c4 => ?_) (fun c4 => ?_)
  · skip
    refine RN.bq [none, some 0, none, none, none] [1, 6, 11] [b2] (k' := 9) (l' := [(1, pt b2), (6, .bool true), (11, .bool (decide (((z.mag.length : Nat) : Int) > 0)))]) k_ ?_
    refine RN.split 11 (decide (((z.mag.length : Nat) : Int) > 0)) k_ (fun c5 => ?_) (fun c5 => ?_)
    · skip
      replace c5 := of_decide_eq_true c5
      refine RN.bq (no 6) [2] [] (k' := 15) (l' := [(2, .bool true)]) k_ ?_
      refine RN.done k_ ?_
      refine KN.next ?_
      have e_1 : (validZ z) = true := by rcases z with ⟨neg, mag⟩; cases mag <;> simp_all [validZ]
      refine J.ret (KR.ret (v := .bool true) (()) [none] [] [] k_ v1_ (trivial) v1_)
    · skip
      replace c5 := of_decide_eq_false c5
      refine RN.bq [none, some 0, none, none, none, none] [2] [b2] (k' := 15) (l' := [(2, .bool (!z.neg))]) k_ ?_
      refine RN.done k_ ?_
      refine KN.next ?_
      have e_1 : (validZ z) = (!z.neg) := by rcases z with ⟨neg, mag⟩; cases mag <;> simp_all [validZ]
      refine J.ret (KR.ret (v := .bool (!z.neg)) (()) [none] [] [] k_ v1_ (trivial) v1_)
  · skip
    refine RN.bq (no 11) [2] [] (k' := 15) (l' := [(2, .bool false)]) k_ ?_
    refine RN.done k_ ?_
    refine KN.next ?_
    have e_1 : (validZ z) = false := by rcases z with ⟨neg, mag⟩; cases mag <;> simp_all [validZ]
    refine J.ret (KR.ret (v := .bool false) (()) [none] [] [] k_ v1_ (trivial) v1_)
theorem integer_value (s : SA) (z : RawI) (hz : Lb z.mag) : Spec Tryz.prog 109 #[intV s z] [fU s z.mag] (ι := SA) (fun y => intV y (encZ (zv z))) (fun y => True) (fun y => [fU y (toL ((zv z).natAbs))]) := by
  refine Spec.of_body _ (fn := Tryz.f109) k_ rfl k_ (fun X w0 => ?_)
  refine J.fact (φ := z.mag.length ≤ 140737488355328) (fun w h => by have := (h _ (.head _)).1; omega) (fun hl1 => ?_)
  refine J.sreg ?_
  refine RN.new (fun b => pt b) (.cells #[.bool z.neg, sl s z.mag.length] 25 (0, 0)) k_ k_ (fun w => by kernel_rfl) (fun b2 => ?_)
  refine RN.new (fun b => pt b) (.cells #[.bool false, sl saNil ([] : List Nat).length] 25 (0, 0)) k_ k_ (fun w => by kernel_rfl) (fun b3 => ?_)
  refine RN.done k_ ?_
  refine KN.next ?_
  refine J.seq ?_
  refine J.sreg ?_
  refine RN.bq [some 1] [1, 2, 3] [b2, b2] (k' := 1) (l' := [(1, pt b2), (2, pt b3), (3, intV s z)]) k_ ?_
  refine RN.call (integer_Valid s z) [0] k_ k_ k_ rfl (fun y4 _ => ?_)
  refine RN.done k_ ?_
  refine KN.next ?_
  refine J.cond (validZ z) k_ (fun c5 => ?_) (fun c5 => ?_)
  · skip
    refine J.sreg ?_
    refine RN.bat [some 1, some 0] [2] [b3, b3, b2, b2] (k' := 2) (l' := [(2, pt b3)]) (M' := [(b3, .cells #[.bool z.neg, sl s z.mag.length] 25 (0, 0)), (b2, .cells #[.bool z.neg, sl s z.mag.length] 25 (0, 0))]) k_ ?_
    refine RN.done k_ ?_
    refine KN.next ?_
    have e_1 : (encZ (zv z)) = z := by exact encZ_zv hz ‹_›
    have e_2 : (toL ((zv z).natAbs)) = z.mag := congrArg RawI.mag e_1
    refine J.ret (KR.next (KR.ret (v := intV s z) (s) [some 0] [0] [b3, b3] k_ (by first | rfl | (rw [e_1]; done) | (simp only [e_1]; done) | (rw [e_2]; done) | (rw [e_1, e_2]; rfl) | (simp only [e_1, e_2]; done) | (simp only [e_1, e_2]; rfl)) (trivial) (by first | rfl | (rw [e_1]; done) | (simp only [e_1]; done) | (rw [e_2]; done) | (rw [e_1, e_2]; rfl) | (simp only [e_1, e_2]; done) | (simp only [e_1, e_2]; rfl))))
  · skip
    refine J.skip ?_
    refine KN.next ?_
    refine J.sreg ?_
    refine RN.bat [none, some 0] [2] [b3, b3] (k' := 2) (l' := [(2, pt b3)]) (M' := [(b3, .cells #[.bool false, sl saNil ([] : List Nat).length] 25 (0, 0)), (b2, .cells #[.bool z.neg, sl s z.mag.length] 25 (0, 0))]) k_ ?_
    refine RN.done k_ ?_
    refine KN.next ?_
    have e_1 : (encZ (zv z)) = (⟨false, ([] : List Nat)⟩ : RawI) := by exact encZ_zv_f ‹_›
    have e_2 : (toL ((zv z).natAbs)) = ([] : List Nat) := congrArg RawI.mag e_1
    refine J.also (fU saNil ([] : List Nat)) (fun w h => fU_nil w) ?_
    refine J.ret (KR.ret (v := intV saNil (⟨false, ([] : List Nat)⟩ : RawI)) (saNil) [some 0] [0] [b3, b3] k_ (by first | rfl | (rw [e_1]; done) | (simp only [e_1]; done) | (rw [e_2]; done) | (rw [e_1, e_2]; rfl) | (simp only [e_1, e_2]; done) | (simp only [e_1, e_2]; rfl)) (trivial) (by first | rfl | (rw [e_1]; done) | (simp only [e_1]; done) | (rw [e_2]; done) | (rw [e_1, e_2]; rfl) | (simp only [e_1, e_2]; done) | (simp only [e_1, e_2]; rfl)))
theorem sgn_true (n : Nat) : encZ (sgn true n) = ⟨decide (((toL n).length : Int) > 0), toL n⟩ := by
  have := toL_len_pos (n := n)
  rw [encZ_sgn]; congr 1
  by_cases h : n = 0
  · subst h; simp [toL_zero]
  · simp [h]; omega
theorem sgn_false (n : Nat) : encZ (sgn false n) = ⟨false, toL n⟩ := by rw [encZ_sgn]; rfl
theorem integer_signed (b : Bool) (s : SA) (n : Nat) : Spec Tryz.prog 115 #[.bool b, sl s (toL n).length] [fU s (toL n)] (ι := SA) (fun y => intV y (encZ (sgn b n))) (fun y => True) (fun y => [fU y (toL ((sgn b n).natAbs))]) := by
  refine Spec.of_body _ (fn := Tryz.f115) k_ rfl k_ (fun X w0 => ?_)
  refine J.fact (φ := (toL n).length ≤ 140737488355328) (fun w h => by have := (h _ (.head _)).1; omega) (fun hl1 => ?_)
  refine J.sreg ?_
  refine RN.new (fun b => pt b) (.cells #[.bool false, sl saNil ([] : List Nat).length] 25 (0, 0)) k_ k_ (fun w => by kernel_rfl) (fun b2 => ?_)
  refine RN.done k_ ?_
  refine KN.next ?_
  refine J.sreg ?_
  refine RN.bq (no 2) [1, 4, 6] [] (k' := 2) (l' := [(1, sl s (toL n).length), (4, pt b2), (6, .bool b)]) k_ ?_
  refine RN.split 6 (b) k_ (fun c3 => ?_) (fun c3 => ?_)
  · skip
    refine RN.bat [none, none, none, none, none, none, some 0] [4] [b2, b2] (k' := 9) (l' := [(4, pt b2)]) (M' := [(b2, .cells #[.bool (decide ((((toL n).length : Nat) : Int) > 0)), sl s (toL n).length] 25 (0, 0))]) k_ ?_
    refine RN.done k_ ?_
    refine KN.next ?_
    have e_1 : (encZ (sgn b n)) = (⟨decide ((((toL n).length : Nat) : Int) > 0), toL n⟩ : RawI) := by first | (rw [‹b = true›]; exact sgn_true _) | (rw [‹b = false›]; exact sgn_false _) | (rw [‹b = false›]; rfl)
    have e_2 : (toL ((sgn b n).natAbs)) = (toL n) := congrArg RawI.mag e_1
    refine J.ret (KR.ret (v := intV s (⟨decide ((((toL n).length : Nat) : Int) > 0), toL n⟩ : RawI)) (s) [some 0] [0] [b2, b2] k_ (by first | rfl | (rw [e_1]; done) | (simp only [e_1]; done) | (rw [e_2]; done) | (rw [e_1, e_2]; rfl) | (simp only [e_1, e_2]; done) | (simp only [e_1, e_2]; rfl)) (trivial) (by first | rfl | (rw [e_1]; done) | (simp only [e_1]; done) | (rw [e_2]; done) | (rw [e_1, e_2]; rfl) | (simp only [e_1, e_2]; done) | (simp only [e_1, e_2]; rfl)))
  · skip
    refine RN.bat [none, none, none, none, none, none, some 0] [4] [b2, b2] (k' := 9) (l' := [(4, pt b2)]) (M' := [(b2, .cells #[.bool false, sl s (toL n).length] 25 (0, 0))]) k_ ?_
    refine RN.done k_ ?_
    refine KN.next ?_
    have e_1 : (sgn b n) = ((n : Nat) : Int) := by first | (rw [‹b = true›]; exact sgn_true _) | (rw [‹b = false›]; exact sgn_false _) | (rw [‹b = false›]; rfl)
    refine J.ret (KR.ret (v := intV s (encZ ((n : Nat) : Int))) (s) [some 0] [0] [b2, b2] k_ v1_ (trivial) v1_)
theorem integer_copied (s : SA) (n : Int) (hl : (toL n.natAbs).length ≤ 1099511627776) : Spec Tryz.prog 134 #[intV s (encZ n)] [fU s (toL (n.natAbs))] (ι := SA) (fun y => intV y (encZ n)) (fun y => True) (fun y => [fU y (toL (n.natAbs))]) := by
  refine Spec.of_body _ (fn := Tryz.f134) k_ rfl k_ (fun X w0 => ?_)
  refine J.fact (φ := (toL (n.natAbs)).length ≤ 140737488355328) (fun w h => by have := (h _ (.head _)).1; omega) (fun hl1 => ?_)
  refine J.sreg ?_
  refine RN.new (fun b => pt b) (.cells #[.bool (decide (n < 0)), sl s (toL (n.natAbs)).length] 25 (0, 0)) k_ k_ (fun w => by kernel_rfl) (fun b2 => ?_)
  refine RN.new (fun b => pt b) (.cells #[.bool false, sl saNil ([] : List Nat).length] 25 (0, 0)) k_ k_ (fun w => by kernel_rfl) (fun b3 => ?_)
  refine RN.done k_ ?_
  refine KN.next ?_
  refine J.seq ?_
  refine J.regD k_ [6] ?_
  refine RD.bat k_ [(0, none), (1, some 1), (2, none), (3, some 1)] [2, 4, 6] [b2, b2] (L' := [3, 2, 1, 0]) (l' := [(2, pt b3), (4, .bool (decide (n < 0))), (6, sl s (toL (n.natAbs)).length)]) k_ ?_
  refine RD.also (fU saNil ([] : List Nat)) (fun w h => fU_nil w) k_ ?_
  refine RD.call (i := 4) (natural_Add_nil s (n.natAbs) y_) [1, 0] k_ k_ k_ k_ k_ rfl (fun y4 _ => ?_)
  refine RD.call (i := 5) (integer_signed (decide (n < 0)) y4 (n.natAbs)) [0] k_ k_ k_ k_ k_ rfl (fun y5 _ => ?_)
  refine RD.last (i := 6) (some 0) [2] [b3, b3] k_ k_ k_ (l' := [(2, pt b3)]) (M' := [(b3, .cells #[.bool (decide ((sgn (decide (n < 0)) (n.natAbs)) < 0)), sl y5 (toL ((sgn (decide (n < 0)) (n.natAbs)).natAbs)).length] 25 (0, 0)), (b2, .cells #[.bool (decide (n < 0)), sl s (toL (n.natAbs)).length] 25 (0, 0))]) k_ ?_
  refine RD.done k_ ?_
  refine KN.next ?_
  have e_1 : n = (sgn (decide (n < 0)) (n.natAbs)) := by rw [sgn_self]
  refine J.ret (KR.ret (v := intV y5 (encZ (sgn (decide (n < 0)) (n.natAbs)))) (y5) [some 0] [0] [b3, b3] k_ v1_ (trivial) v1_)
theorem u64_pos {v : Int} (h : 0 ≤ v) (h2 : v < 9223372036854775808) : IntKind.u64.wrap v = (v.natAbs : Nat) := by
  simp [IntKind.wrap, IntKind.signed, IntKind.bits]; omega
theorem u64_neg {v : Int} (h : v < 0) (h2 : -9223372036854775808 ≤ v) : IntKind.u64.wrap (0 - IntKind.u64.wrap v) = (v.natAbs : Nat) := by
  simp [IntKind.wrap, IntKind.signed, IntKind.bits]; omega
theorem integer_FromInt (v : Int) (h1 : -9223372036854775808 ≤ v) (h2 : v < 9223372036854775808) : Spec Tryz.prog 108 #[.int .i64 v] [] (ι := SA) (fun y => intV y (encZ v)) (fun y => True) (fun y => [fU y (toL (v.natAbs))]) := by
  refine Spec.of_body _ (fn := Tryz.f108) k_ rfl k_ (fun X w0 => ?_)
  refine J.sreg ?_
  refine RN.new (fun b => pt b) (.cells #[.bool false, sl saNil ([] : List Nat).length] 25 (0, 0)) k_ k_ (fun w => by kernel_rfl) (fun b1 => ?_)
  refine RN.done k_ ?_
  refine KN.next ?_
  refine J.seq ?_
  refine J.sreg ?_
  refine RN.bq (no 2) [0, 2, 4] [] (k' := 2) (l' := [(0, .int .i64 v), (2, pt b1), (4, .bool (decide (v < 0)))]) k_ ?_
  refine RN.done k_ ?_
  refine KN.next ?_
  refine J.cond (decide (v < 0)) k_ (fun c2 => ?_) (fun c2 => ?_)
  · skip
    replace c2 := of_decide_eq_true c2
    refine J.sreg ?_
    refine RN.bq (no 3) [2, 7] [] (k' := 3) (l' := [(2, pt b1), (7, .int .u64 (IntKind.u64.wrap (0 - (IntKind.u64.wrap v))))]) k_ ?_
    rw [show (IntKind.u64.wrap (0 - (IntKind.u64.wrap v))) = ((v.natAbs : Nat) : Int) from by exact u64_neg (by omega) (by omega)]
    refine RN.call (natural_FromUint (v.natAbs) y_) [] k_ k_ k_ rfl (fun y3 _ => ?_)
    refine RN.call (integer_signed true y3 (v.natAbs)) [0] k_ k_ k_ rfl (fun y4 _ => ?_)
    refine RN.bat [some 0] [2] [b1, b1] (k' := 6) (l' := [(2, pt b1)]) (M' := [(b1, .cells #[.bool (decide ((sgn true (v.natAbs)) < 0)), sl y4 (toL ((sgn true (v.natAbs)).natAbs)).length] 25 (0, 0))]) k_ ?_
    refine RN.done k_ ?_
    refine KN.next ?_
    have e_1 : v = (sgn true (v.natAbs)) := by simp [sgn]; omega
    refine J.ret (KR.next (KR.ret (v := intV y4 (encZ (sgn true (v.natAbs)))) (y4) [some 0] [0] [b1, b1] k_ v1_ (trivial) v1_))
  · skip
    replace c2 := of_decide_eq_false c2
    refine J.skip ?_
    refine KN.next ?_
    refine J.sreg ?_
    refine RN.bq (no 2) [2, 11] [] (k' := 2) (l' := [(2, pt b1), (11, .int .u64 (IntKind.u64.wrap v))]) k_ ?_
    rw [show (IntKind.u64.wrap v) = ((v.natAbs : Nat) : Int) from by exact u64_pos (by omega) (by omega)]
    refine RN.call (natural_FromUint (v.natAbs) y_) [] k_ k_ k_ rfl (fun y5 _ => ?_)
    refine RN.call (integer_signed false y5 (v.natAbs)) [0] k_ k_ k_ rfl (fun y6 _ => ?_)
    refine RN.bat [some 0] [2] [b1, b1] (k' := 5) (l' := [(2, pt b1)]) (M' := [(b1, .cells #[.bool (decide ((sgn false (v.natAbs)) < 0)), sl y6 (toL ((sgn false (v.natAbs)).natAbs)).length] 25 (0, 0))]) k_ ?_
    refine RN.done k_ ?_
    refine KN.next ?_
    have e_1 : v = (sgn false (v.natAbs)) := by simp [sgn]; omega
    refine J.ret (KR.ret (v := intV y6 (encZ (sgn false (v.natAbs)))) (y6) [some 0] [0] [b1, b1] k_ v1_ (trivial) v1_)
theorem integer_Sign (s : SA) (z : RawI) (hz : Lb z.mag) : Spec Tryz.prog 81 #[intV s z] [fU s z.mag] (ι := Unit) (fun y => .int .i64 (Int.sign (zv z))) (fun y => True) (fun y => []) := by
  refine Spec.of_body _ (fn := Tryz.f81) k_ rfl k_ (fun X w0 => ?_)
  refine J.fact (φ := z.mag.length ≤ 140737488355328) (fun w h => by have := (h _ (.head _)).1; omega) (fun hl1 => ?_)
  refine J.sreg ?_
  refine RN.new (fun b => pt b) (.cells #[.bool z.neg, sl s z.mag.length] 25 (0, 0)) k_ k_ (fun w => by kernel_rfl) (fun b2 => ?_)
  refine RN.bq (no 1) [1] [] (k' := 2) (l' := [(1, pt b2)]) k_ ?_
  refine RN.done k_ ?_
  refine KN.next ?_
  refine J.seq ?_
  refine J.sreg ?_
  refine RN.bq [some 0] [1, 3] [b2, b2] (k' := 1) (l' := [(1, pt b2), (3, intV s z)]) k_ ?_
  refine RN.call (integer_value s z y_) [0] k_ k_ k_ rfl (fun y3 _ => ?_)
  refine RN.bat [some 0] [1] [b2, b2] (k' := 3) (l' := [(1, pt b2)]) (M' := [(b2, .cells #[.bool (decide ((zv z) < 0)), sl y3 (toL ((zv z).natAbs)).length] 25 (0, 0))]) k_ ?_
  refine RN.done k_ ?_
  refine KN.next ?_
  refine J.block ?_
  refine J.sreg ?_
  refine RN.bq [none, some 0, none, none, none] [1, 5] [b2] (k' := 5) (l' := [(1, pt b2), (5, .bool (((((toL ((zv z).natAbs)).length : Nat) : Int) : Int) == 0))]) k_ ?_
  refine RN.done k_ ?_
  refine KN.next ?_
  refine J.cond (((((toL ((zv z).natAbs)).length : Nat) : Int) : Int) == 0) k_ (fun c4 => ?_) (fun c4 => ?_)
  · skip
    replace c4 := eq_of_beq c4
    refine J.sreg ?_
    refine RN.bq (no 1) [2] [] (k' := 1) (l' := [(2, .int .i64 0)]) k_ ?_
    refine RN.done k_ ?_
    refine KN.next ?_
    have e_1 : (Int.sign (zv z) : Int) = (0 : Int) := by rw [show zv z = 0 from by have := toL_len0.1 (by omega : (toL ((zv z).natAbs)).length = 0); omega]; rfl
    refine J.ret (KR.blk (KR.next (KR.ret (v := .int .i64 0) (()) [none] [] [] k_ v1_ (trivial) v1_)))
  · skip
    replace c4 := ne_of_beq_false c4
    refine J.sreg ?_
    refine RN.bq [none, some 0, none] [10] [b2] (k' := 3) (l' := [(10, .bool (decide ((zv z) < 0)))]) k_ ?_
    refine RN.done k_ ?_
    refine KN.next ?_
    refine J.cond (decide ((zv z) < 0)) k_ (fun c5 => ?_) (fun c5 => ?_)
    · skip
      replace c5 := of_decide_eq_true c5
      refine J.sreg ?_
      refine RN.bq (no 1) [2] [] (k' := 1) (l' := [(2, .int .i64 (-1))]) k_ ?_
      refine RN.done k_ ?_
      refine KN.next ?_
      have e_1 : (Int.sign (zv z) : Int) = ((-1) : Int) := by exact Int.sign_eq_neg_one_of_neg (by simpa using ‹_›)
      refine J.ret (KR.blk (KR.next (KR.ret (v := .int .i64 (-1)) (()) [none] [] [] k_ v1_ (trivial) v1_)))
    · skip
      replace c5 := of_decide_eq_false c5
      refine J.skip ?_
      refine KN.blk ?_
      refine KN.next ?_
      refine J.sreg ?_
      refine RN.bq (no 1) [2] [] (k' := 1) (l' := [(2, .int .i64 1)]) k_ ?_
      refine RN.done k_ ?_
      refine KN.next ?_
      have e_1 : (Int.sign (zv z) : Int) = (1 : Int) := by exact Int.sign_eq_one_of_pos (by have h1 := mt toL_len0.2 (by omega : ¬ (toL ((zv z).natAbs)).length = 0); simp at *; omega)
      refine J.ret (KR.ret (v := .int .i64 1) (()) [none] [] [] k_ v1_ (trivial) v1_)
theorem integer_Sign_c (s : SA) (z' : Int) : Spec Tryz.prog 81 #[intV s (encZ z')] [fU s (toL (z'.natAbs))] (ι := Unit) (fun y => .int .i64 (Int.sign z')) (fun y => True) (fun y => []) := by
  have H := integer_Sign s (encZ z') (Lb_toL _)
  first | exact H | (simp only [zv_encZ, validZ_encZ] at H; exact H)
theorem integer_Neg (s : SA) (z : RawI) (hz : Lb z.mag) (hzl : z.mag.length ≤ 1099511627776) : Spec Tryz.prog 113 #[intV s z] [fU s z.mag] (ι := SA) (fun y => intV y (encZ (-zv z))) (fun y => True) (fun y => [fU y (toL ((-zv z).natAbs))]) := by
  refine Spec.of_body _ (fn := Tryz.f113) k_ rfl k_ (fun X w0 => ?_)
  refine J.fact (φ := z.mag.length ≤ 140737488355328) (fun w h => by have := (h _ (.head _)).1; omega) (fun hl1 => ?_)
  have hzv := Nat.le_trans (zv_len hz) hzl
  refine J.sreg ?_
  refine RN.new (fun b => pt b) (.cells #[.bool z.neg, sl s z.mag.length] 25 (0, 0)) k_ k_ (fun w => by kernel_rfl) (fun b2 => ?_)
  refine RN.new (fun b => pt b) (.cells #[.bool false, sl saNil ([] : List Nat).length] 25 (0, 0)) k_ k_ (fun w => by kernel_rfl) (fun b3 => ?_)
  refine RN.done k_ ?_
  refine KN.next ?_
  refine J.sreg ?_
  refine RN.bq [some 1] [1, 2, 3] [b2, b2] (k' := 1) (l' := [(1, pt b2), (2, pt b3), (3, intV s z)]) k_ ?_
  refine RN.call (integer_value s z y_) [0] k_ k_ k_ rfl (fun y4 _ => ?_)
  refine RN.call (integer_copied y4 (zv z) y_) [0] k_ k_ k_ rfl (fun y5 _ => ?_)
  refine RN.bat [some 1] [1, 2] [b2, b2] (k' := 4) (l' := [(1, pt b2), (2, pt b3)]) (M' := [(b3, .cells #[.bool false, sl saNil ([] : List Nat).length] 25 (0, 0)), (b2, .cells #[.bool (decide ((zv z) < 0)), sl y5 (toL ((zv z).natAbs)).length] 25 (0, 0))]) k_ ?_
  refine RN.done k_ ?_
  refine KN.next ?_
  refine J.sreg ?_
  refine RN.bq [none, some 1, none, none, some 1] [2, 8, 10] [b2, b2] (k' := 5) (l' := [(2, pt b3), (8, .bool (!(decide ((zv z) < 0)))), (10, sl y5 (toL ((zv z).natAbs)).length)]) k_ ?_
  refine RN.call (integer_signed (!(decide ((zv z) < 0))) y5 ((zv z).natAbs)) [0] k_ k_ k_ rfl (fun y6 _ => ?_)
  refine RN.bat [some 0] [2] [b3, b3] (k' := 7) (l' := [(2, pt b3)]) (M' := [(b3, .cells #[.bool (decide ((sgn (!(decide ((zv z) < 0))) ((zv z).natAbs)) < 0)), sl y6 (toL ((sgn (!(decide ((zv z) < 0))) ((zv z).natAbs)).natAbs)).length] 25 (0, 0)), (b2, .cells #[.bool (decide ((zv z) < 0)), sl y5 (toL ((zv z).natAbs)).length] 25 (0, 0))]) k_ ?_
  refine RN.done k_ ?_
  refine KN.next ?_
  have e_1 : (-zv z) = (sgn (!(decide ((zv z) < 0))) ((zv z).natAbs)) := by rw [sgn_not]
  refine J.ret (KR.ret (v := intV y6 (encZ (sgn (!(decide ((zv z) < 0))) ((zv z).natAbs)))) (y6) [some 0] [0] [b3, b3] k_ v1_ (trivial) v1_)
theorem integer_Neg_c (s : SA) (z' : Int) (hzl : (toL (z'.natAbs)).length ≤ 1099511627776) : Spec Tryz.prog 113 #[intV s (encZ z')] [fU s (toL (z'.natAbs))] (ι := SA) (fun y => intV y (encZ (-z'))) (fun y => True) (fun y => [fU y (toL ((-z').natAbs))]) := by
  have H := integer_Neg s (encZ z') (Lb_toL _) (by first | exact hzl | simpa only [zv_encZ] using hzl)
  first | exact H | (simp only [zv_encZ, validZ_encZ] at H; exact H)
theorem integer_Compare (s : SA) (x : RawI) (t : SA) (z : RawI) (hx : Lb x.mag) (hz : Lb z.mag) : Spec Tryz.prog 83 #[intV s x, intV t z] [fU s x.mag, fU t z.mag] (ι := Unit) (fun y => .int .i64 (cmpI (zv x) (zv z))) (fun y => True) (fun y => []) := by
  refine Spec.of_body _ (fn := Tryz.f83) k_ rfl k_ (fun X w0 => ?_)
  refine J.fact (φ := x.mag.length ≤ 140737488355328) (fun w h => by have := (h _ (.head _)).1; omega) (fun hl1 => ?_)
  refine J.fact (φ := z.mag.length ≤ 140737488355328) (fun w h => by have := (h _ (.tail _ ((.head _)))).1; omega) (fun hl2 => ?_)
  refine J.sreg ?_
  refine RN.new (fun b => pt b) (.cells #[.bool x.neg, sl s x.mag.length] 25 (0, 0)) k_ k_ (fun w => by kernel_rfl) (fun b3 => ?_)
  refine RN.new (fun b => pt b) (.cells #[.bool z.neg, sl t z.mag.length] 25 (0, 0)) k_ k_ (fun w => by kernel_rfl) (fun b4 => ?_)
  refine RN.bq (no 1) [2, 3] [] (k' := 3) (l' := [(2, pt b3), (3, pt b4)]) k_ ?_
  refine RN.done k_ ?_
  refine KN.next ?_
  refine J.seq ?_
  refine J.regD k_ [4, 5] ?_
  refine RD.bat k_ [(0, some 1), (2, some 0)] [2, 3, 7, 9] [b4, b4, b3, b3] (L' := [2, 0]) (l' := [(2, pt b3), (3, pt b4), (7, intV s x), (9, intV t z)]) k_ ?_
  refine RD.call (i := 1) (integer_value s x y_) [0] k_ k_ k_ k_ k_ rfl (fun y5 _ => ?_)
  refine RD.call (i := 3) (integer_value t z y_) [2] k_ k_ k_ k_ k_ rfl (fun y6 _ => ?_)
  refine RD.last (i := 4) (some 1) [2, 3, 10] [b3, b3] k_ k_ k_ (l' := [(2, pt b3), (3, pt b4), (10, intV y6 (encZ (zv z)))]) (M' := [(b4, .cells #[.bool z.neg, sl t z.mag.length] 25 (0, 0)), (b3, .cells #[.bool (decide ((zv x) < 0)), sl y5 (toL ((zv x).natAbs)).length] 25 (0, 0))]) k_ ?_
  refine RD.last (i := 5) (some 0) [2, 3] [b4, b4] k_ k_ k_ (l' := [(2, pt b3), (3, pt b4)]) (M' := [(b4, .cells #[.bool (decide ((zv z) < 0)), sl y6 (toL ((zv z).natAbs)).length] 25 (0, 0)), (b3, .cells #[.bool (decide ((zv x) < 0)), sl y5 (toL ((zv x).natAbs)).length] 25 (0, 0))]) k_ ?_
  refine RD.done k_ ?_
  refine KN.next ?_
  refine J.seq ?_
  refine J.regD k_ [] ?_
  refine RD.bat k_ [(0, some 1), (2, some 0)] [2, 3, 11, 13] [b4, b4, b3, b3] (L' := [2, 0]) (l' := [(2, pt b3), (3, pt b4), (11, intV y5 (encZ (zv x))), (13, intV y6 (encZ (zv z)))]) k_ ?_
  refine RD.call (i := 1) (integer_Sign_c y5 (zv x)) [1] k_ k_ k_ k_ k_ rfl (fun y7 _ => ?_)
  refine RD.call (i := 3) (integer_Sign_c y6 (zv z)) [0] k_ k_ k_ k_ k_ rfl (fun y8 _ => ?_)
  refine RD.bat k_ [(4, none), (5, none)] [2, 3, 5, 6] [] (L' := [5, 4, 3, 1, 2, 0]) (l' := [(2, pt b3), (3, pt b4), (5, .int .i64 (Int.sign (zv x))), (6, .int .i64 (Int.sign (zv z)))]) k_ ?_
  refine RD.done k_ ?_
  refine KN.next ?_
  refine J.seq ?_
  refine J.block ?_
  refine J.sreg ?_
  refine RN.bq (no 4) [2, 3, 5, 6, 15] [] (k' := 4) (l' := [(2, pt b3), (3, pt b4), (5, .int .i64 (Int.sign (zv x))), (6, .int .i64 (Int.sign (zv z))), (15, .bool (decide ((Int.sign (zv x)) < (Int.sign (zv z)))))]) k_ ?_
  refine RN.done k_ ?_
  refine KN.next ?_
  refine J.cond (decide ((Int.sign (zv x)) < (Int.sign (zv z)))) k_ (fun c9 => ?_) (fun c9 => ?_)
  · skip
    replace c9 := of_decide_eq_true c9
    refine J.sreg ?_
    refine RN.bq (no 1) [4] [] (k' := 1) (l' := [(4, .int .i64 (-1))]) k_ ?_
    refine RN.done k_ ?_
    refine KN.next ?_
    have e_1 : (cmpI (zv x) (zv z) : Int) = ((-1) : Int) := by exact cmpI_of_sign_lt ‹_›
    refine J.ret (KR.blk (KR.next (KR.ret (v := .int .i64 (-1)) (()) [none] [] [] k_ v1_ (trivial) v1_)))
  · skip
    replace c9 := of_decide_eq_false c9
    refine J.sreg ?_
    refine RN.bq (no 4) [2, 3, 5, 19] [] (k' := 4) (l' := [(2, pt b3), (3, pt b4), (5, .int .i64 (Int.sign (zv x))), (19, .bool (decide ((Int.sign (zv x)) > (Int.sign (zv z)))))]) k_ ?_
    refine RN.done k_ ?_
    refine KN.next ?_
    refine J.cond (decide ((Int.sign (zv x)) > (Int.sign (zv z)))) k_ (fun c10 => ?_) (fun c10 => ?_)
    · skip
      replace c10 := of_decide_eq_true c10
      refine J.sreg ?_
      refine RN.bq (no 1) [4] [] (k' := 1) (l' := [(4, .int .i64 1)]) k_ ?_
      refine RN.done k_ ?_
      refine KN.next ?_
      have e_1 : (cmpI (zv x) (zv z) : Int) = (1 : Int) := by exact cmpI_of_sign_gt ‹_›
      refine J.ret (KR.blk (KR.next (KR.ret (v := .int .i64 1) (()) [none] [] [] k_ v1_ (trivial) v1_)))
    · skip
      replace c10 := of_decide_eq_false c10
      refine J.skip ?_
      refine KN.blk ?_
      refine KN.next ?_
      refine J.sreg ?_
      refine RN.bq [none, none, some 1, none, some 0] [23, 25, 27] [b4, b3] (k' := 5) (l' := [(23, .int .i64 (Int.sign (zv x))), (25, sl y5 (toL ((zv x).natAbs)).length), (27, sl y6 (toL ((zv z).natAbs)).length)]) k_ ?_
      refine RN.call (natural_Compare_c y5 ((zv x).natAbs) y6 ((zv z).natAbs)) [1, 0] k_ k_ k_ rfl (fun y11 _ => ?_)
      refine RN.bq (no 1) [29] [] (k' := 7) (l' := [(29, .int .i64 (IntKind.i64.wrap ((Int.sign (zv x)) * (cmpN ((zv x).natAbs) ((zv z).natAbs)))))]) k_ ?_
      rw [show (IntKind.i64.wrap ((Int.sign (zv x)) * (cmpN ((zv x).natAbs) ((zv z).natAbs)))) = cmpI (zv x) (zv z) from by rw [cmpI_same ‹_› ‹_›]; exact cmpI_wrap _ _]
      refine RN.bq (no 1) [4] [] (k' := 8) (l' := [(4, .int .i64 (cmpI (zv x) (zv z)))]) k_ ?_
      refine RN.done k_ ?_
      refine KN.next ?_
      refine J.ret (KR.ret (v := .int .i64 (cmpI (zv x) (zv z))) (()) [none] [] [] k_ rfl (trivial) rfl)
theorem integer_Compare_c (s : SA) (x' : Int) (t : SA) (z' : Int) : Spec Tryz.prog 83 #[intV s (encZ x'), intV t (encZ z')] [fU s (toL (x'.natAbs)), fU t (toL (z'.natAbs))] (ι := Unit) (fun y => .int .i64 (cmpI x' z')) (fun y => True) (fun y => []) := by
  have H := integer_Compare s (encZ x') t (encZ z') (Lb_toL _) (Lb_toL _)
  first | exact H | (simp only [zv_encZ, validZ_encZ] at H; exact H)
theorem integer_Add (s : SA) (x : RawI) (t : SA) (z : RawI) (hx : Lb x.mag) (hxl : x.mag.length ≤ 1099511627776) (hz : Lb z.mag) (hzl : z.mag.length ≤ 1099511627776) : Spec Tryz.prog 91 #[intV s x, intV t z] [fU s x.mag, fU t z.mag] (ι := SA) (fun y => intV y (encZ (zv x + zv z))) (fun y => True) (fun y => [fU y (toL ((zv x + zv z).natAbs))]) := by
  refine Spec.of_body _ (fn := Tryz.f91) k_ rfl k_ (fun X w0 => ?_)
  refine J.fact (φ := x.mag.length ≤ 140737488355328) (fun w h => by have := (h _ (.head _)).1; omega) (fun hl1 => ?_)
  refine J.fact (φ := z.mag.length ≤ 140737488355328) (fun w h => by have := (h _ (.tail _ ((.head _)))).1; omega) (fun hl2 => ?_)
  have hxv := Nat.le_trans (zv_len hx) hxl
  have hzv := Nat.le_trans (zv_len hz) hzl
  refine J.sreg ?_
  refine RN.new (fun b => pt b) (.cells #[.bool x.neg, sl s x.mag.length] 25 (0, 0)) k_ k_ (fun w => by kernel_rfl) (fun b3 => ?_)
  refine RN.new (fun b => pt b) (.cells #[.bool z.neg, sl t z.mag.length] 25 (0, 0)) k_ k_ (fun w => by kernel_rfl) (fun b4 => ?_)
  refine RN.new (fun b => pt b) (.cells #[.bool false, sl saNil ([] : List Nat).length] 25 (0, 0)) k_ k_ (fun w => by kernel_rfl) (fun b5 => ?_)
  refine RN.done k_ ?_
  refine KN.next ?_
  refine J.seq ?_
  refine J.regD k_ [4, 5] ?_
  refine RD.bat k_ [(0, some 2), (2, some 1)] [2, 3, 4, 9, 11] [b4, b4, b3, b3] (L' := [2, 0]) (l' := [(2, pt b3), (3, pt b4), (4, pt b5), (9, intV s x), (11, intV t z)]) k_ ?_
  refine RD.call (i := 1) (integer_value s x y_) [0] k_ k_ k_ k_ k_ rfl (fun y6 _ => ?_)
  refine RD.call (i := 3) (integer_value t z y_) [2] k_ k_ k_ k_ k_ rfl (fun y7 _ => ?_)
  refine RD.last (i := 4) (some 2) [2, 3, 4, 12] [b3, b3] k_ k_ k_ (l' := [(2, pt b3), (3, pt b4), (4, pt b5), (12, intV y7 (encZ (zv z)))]) (M' := [(b5, .cells #[.bool false, sl saNil ([] : List Nat).length] 25 (0, 0)), (b4, .cells #[.bool z.neg, sl t z.mag.length] 25 (0, 0)), (b3, .cells #[.bool (decide ((zv x) < 0)), sl y6 (toL ((zv x).natAbs)).length] 25 (0, 0))]) k_ ?_
  refine RD.last (i := 5) (some 1) [2, 3, 4] [b4, b4] k_ k_ k_ (l' := [(2, pt b3), (3, pt b4), (4, pt b5)]) (M' := [(b5, .cells #[.bool false, sl saNil ([] : List Nat).length] 25 (0, 0)), (b4, .cells #[.bool (decide ((zv z) < 0)), sl y7 (toL ((zv z).natAbs)).length] 25 (0, 0)), (b3, .cells #[.bool (decide ((zv x) < 0)), sl y6 (toL ((zv x).natAbs)).length] 25 (0, 0))]) k_ ?_
  refine RD.done k_ ?_
  refine KN.next ?_
  refine J.seq ?_
  refine J.sreg ?_
  refine RN.bq [none, some 2, none, some 1, none] [2, 3, 4, 17] [b4, b3] (k' := 5) (l' := [(2, pt b3), (3, pt b4), (4, pt b5), (17, .bool ((decide ((zv x) < 0)) == (decide ((zv z) < 0))))]) k_ ?_
  refine RN.done k_ ?_
  refine KN.next ?_
  refine J.cond ((decide ((zv x) < 0)) == (decide ((zv z) < 0))) k_ (fun c8 => ?_) (fun c8 => ?_)
  · skip
    refine J.seq ?_
    refine J.regD k_ [8] ?_
    refine RD.bat k_ [(0, none), (1, some 2), (2, none), (3, some 2), (4, none), (5, some 1)] [4, 19, 21, 23] [b4, b3, b3] (L' := [5, 4, 3, 2, 1, 0]) (l' := [(4, pt b5), (19, .bool (decide ((zv x) < 0))), (21, sl y6 (toL ((zv x).natAbs)).length), (23, sl y7 (toL ((zv z).natAbs)).length)]) k_ ?_
    refine RD.call (i := 6) (natural_Add_c y6 ((zv x).natAbs) y7 ((zv z).natAbs) y_ y_) [1, 0] k_ k_ k_ k_ k_ rfl (fun y9 _ => ?_)
    refine RD.call (i := 7) (integer_signed (decide ((zv x) < 0)) y9 (((zv x).natAbs) + ((zv z).natAbs))) [0] k_ k_ k_ k_ k_ rfl (fun y10 _ => ?_)
    refine RD.last (i := 8) (some 0) [4] [b5, b5] k_ k_ k_ (l' := [(4, pt b5)]) (M' := [(b5, .cells #[.bool (decide ((sgn (decide ((zv x) < 0)) (((zv x).natAbs) + ((zv z).natAbs))) < 0)), sl y10 (toL ((sgn (decide ((zv x) < 0)) (((zv x).natAbs) + ((zv z).natAbs))).natAbs)).length] 25 (0, 0)), (b4, .cells #[.bool (decide ((zv z) < 0)), sl y7 (toL ((zv z).natAbs)).length] 25 (0, 0)), (b3, .cells #[.bool (decide ((zv x) < 0)), sl y6 (toL ((zv x).natAbs)).length] 25 (0, 0))]) k_ ?_
    refine RD.done k_ ?_
    refine KN.next ?_
    have e_1 : (zv x + zv z) = (sgn (decide ((zv x) < 0)) (((zv x).natAbs) + ((zv z).natAbs))) := by rw [sgn_add ‹_›]
    refine J.ret (KR.next (KR.ret (v := intV y10 (encZ (sgn (decide ((zv x) < 0)) (((zv x).natAbs) + ((zv z).natAbs))))) (y10) [some 0] [0] [b5, b5] k_ v1_ (trivial) v1_))
  · skip
    refine J.skip ?_
    refine KN.next ?_
    refine J.seq ?_
    refine J.sreg ?_
    refine RN.bq [none, some 2, none, some 1] [2, 3, 4, 28, 30] [b4, b3] (k' := 4) (l' := [(2, pt b3), (3, pt b4), (4, pt b5), (28, sl y6 (toL ((zv x).natAbs)).length), (30, sl y7 (toL ((zv z).natAbs)).length)]) k_ ?_
    refine RN.call (natural_Sub_c y6 ((zv x).natAbs) y7 ((zv z).natAbs) y_ y_) [1, 0] k_ k_ k_ rfl (fun y11 _ => ?_)
    refine RN.bq (no 5) [2, 3, 4, 5, 6] [] (k' := 10) (l' := [(2, pt b3), (3, pt b4), (4, pt b5), (5, sl y11 (toL (((zv x).natAbs) - ((zv z).natAbs))).length), (6, .bool (decide (((zv z).natAbs) ≤ ((zv x).natAbs))))]) k_ ?_
    refine RN.done k_ ?_
    refine KN.next ?_
    refine J.sreg ?_
    refine RN.bq (no 1) [2, 3, 4, 5, 34] [] (k' := 1) (l' := [(2, pt b3), (3, pt b4), (4, pt b5), (5, sl y11 (toL (((zv x).natAbs) - ((zv z).natAbs))).length), (34, .bool (decide (((zv z).natAbs) ≤ ((zv x).natAbs))))]) k_ ?_
    refine RN.done k_ ?_
    refine KN.next ?_
    refine J.cond (decide (((zv z).natAbs) ≤ ((zv x).natAbs))) k_ (fun c12 => ?_) (fun c12 => ?_)
    · skip
      replace c12 := of_decide_eq_true c12
      refine J.sreg ?_
      refine RN.bq [none, some 2, none] [4, 36, 37] [b3] (k' := 3) (l' := [(4, pt b5), (36, .bool (decide ((zv x) < 0))), (37, sl y11 (toL (((zv x).natAbs) - ((zv z).natAbs))).length)]) k_ ?_
      refine RN.call (integer_signed (decide ((zv x) < 0)) y11 (((zv x).natAbs) - ((zv z).natAbs))) [0] k_ k_ k_ rfl (fun y13 _ => ?_)
      refine RN.bat [some 0] [4] [b5, b5] (k' := 5) (l' := [(4, pt b5)]) (M' := [(b5, .cells #[.bool (decide ((sgn (decide ((zv x) < 0)) (((zv x).natAbs) - ((zv z).natAbs))) < 0)), sl y13 (toL ((sgn (decide ((zv x) < 0)) (((zv x).natAbs) - ((zv z).natAbs))).natAbs)).length] 25 (0, 0)), (b4, .cells #[.bool (decide ((zv z) < 0)), sl y7 (toL ((zv z).natAbs)).length] 25 (0, 0)), (b3, .cells #[.bool (decide ((zv x) < 0)), sl y6 (toL ((zv x).natAbs)).length] 25 (0, 0))]) k_ ?_
      refine RN.done k_ ?_
      refine KN.next ?_
      have e_1 : (zv x + zv z) = (sgn (decide ((zv x) < 0)) (((zv x).natAbs) - ((zv z).natAbs))) := by rw [sgn_sub ‹_› ‹_›]
      refine J.ret (KR.next (KR.ret (v := intV y13 (encZ (sgn (decide ((zv x) < 0)) (((zv x).natAbs) - ((zv z).natAbs))))) (y13) [some 0] [0] [b5, b5] k_ v1_ (trivial) v1_))
    · skip
      replace c12 := of_decide_eq_false c12
      refine J.skip ?_
      refine KN.next ?_
      refine J.sreg ?_
      refine RN.bq [none, some 1, none, some 2] [3, 4, 41, 43] [b3, b4] (k' := 4) (l' := [(3, pt b4), (4, pt b5), (41, sl y7 (toL ((zv z).natAbs)).length), (43, sl y6 (toL ((zv x).natAbs)).length)]) k_ ?_
      refine RN.call (natural_Sub_c y7 ((zv z).natAbs) y6 ((zv x).natAbs) y_ y_) [1, 2] k_ k_ k_ rfl (fun y14 _ => ?_)
      refine RN.bq (no 5) [3, 4, 7] [] (k' := 10) (l' := [(3, pt b4), (4, pt b5), (7, sl y14 (toL (((zv z).natAbs) - ((zv x).natAbs))).length)]) k_ ?_
      refine RN.done k_ ?_
      refine KN.next ?_
      refine J.sreg ?_
      refine RN.bq [none, some 1, none] [4, 48, 49] [b4] (k' := 3) (l' := [(4, pt b5), (48, .bool (decide ((zv z) < 0))), (49, sl y14 (toL (((zv z).natAbs) - ((zv x).natAbs))).length)]) k_ ?_
      refine RN.call (integer_signed (decide ((zv z) < 0)) y14 (((zv z).natAbs) - ((zv x).natAbs))) [0] k_ k_ k_ rfl (fun y15 _ => ?_)
      refine RN.bat [some 0] [4] [b5, b5] (k' := 5) (l' := [(4, pt b5)]) (M' := [(b5, .cells #[.bool (decide ((sgn (decide ((zv z) < 0)) (((zv z).natAbs) - ((zv x).natAbs))) < 0)), sl y15 (toL ((sgn (decide ((zv z) < 0)) (((zv z).natAbs) - ((zv x).natAbs))).natAbs)).length] 25 (0, 0)), (b4, .cells #[.bool (decide ((zv z) < 0)), sl y7 (toL ((zv z).natAbs)).length] 25 (0, 0)), (b3, .cells #[.bool (decide ((zv x) < 0)), sl y6 (toL ((zv x).natAbs)).length] 25 (0, 0))]) k_ ?_
      refine RN.done k_ ?_
      refine KN.next ?_
      have e_1 : (zv x + zv z) = (sgn (decide ((zv z) < 0)) (((zv z).natAbs) - ((zv x).natAbs))) := by rw [sgn_sub' ‹_› ‹_›]
      refine J.ret (KR.ret (v := intV y15 (encZ (sgn (decide ((zv z) < 0)) (((zv z).natAbs) - ((zv x).natAbs))))) (y15) [some 0] [0] [b5, b5] k_ v1_ (trivial) v1_)
theorem integer_Add_c (s : SA) (x' : Int) (t : SA) (z' : Int) (hxl : (toL (x'.natAbs)).length ≤ 1099511627776) (hzl : (toL (z'.natAbs)).length ≤ 1099511627776) : Spec Tryz.prog 91 #[intV s (encZ x'), intV t (encZ z')] [fU s (toL (x'.natAbs)), fU t (toL (z'.natAbs))] (ι := SA) (fun y => intV y (encZ (x' + z'))) (fun y => True) (fun y => [fU y (toL ((x' + z').natAbs))]) := by
  have H := integer_Add s (encZ x') t (encZ z') (Lb_toL _) (by first | exact hxl | simpa only [zv_encZ, zv_encZ] using hxl) (Lb_toL _) (by first | exact hzl | simpa only [zv_encZ, zv_encZ] using hzl)
  first | exact H | (simp only [zv_encZ, validZ_encZ] at H; exact H)
theorem integer_Mul (s : SA) (x : RawI) (t : SA) (z : RawI) (hx : Lb x.mag) (hxl : x.mag.length ≤ 1099511627776) (hz : Lb z.mag) (hzl : z.mag.length ≤ 1099511627776) : Spec Tryz.prog 87 #[intV s x, intV t z] [fU s x.mag, fU t z.mag] (ι := SA) (fun y => intV y (encZ (zv x * zv z))) (fun y => True) (fun y => [fU y (toL ((zv x * zv z).natAbs))]) := by
  refine Spec.of_body _ (fn := Tryz.f87) k_ rfl k_ (fun X w0 => ?_)
  refine J.fact (φ := x.mag.length ≤ 140737488355328) (fun w h => by have := (h _ (.head _)).1; omega) (fun hl1 => ?_)
  refine J.fact (φ := z.mag.length ≤ 140737488355328) (fun w h => by have := (h _ (.tail _ ((.head _)))).1; omega) (fun hl2 => ?_)
  have hxv := Nat.le_trans (zv_len hx) hxl
  have hzv := Nat.le_trans (zv_len hz) hzl
  refine J.sreg ?_
  refine RN.new (fun b => pt b) (.cells #[.bool x.neg, sl s x.mag.length] 25 (0, 0)) k_ k_ (fun w => by kernel_rfl) (fun b3 => ?_)
  refine RN.new (fun b => pt b) (.cells #[.bool z.neg, sl t z.mag.length] 25 (0, 0)) k_ k_ (fun w => by kernel_rfl) (fun b4 => ?_)
  refine RN.new (fun b => pt b) (.cells #[.bool false, sl saNil ([] : List Nat).length] 25 (0, 0)) k_ k_ (fun w => by kernel_rfl) (fun b5 => ?_)
  refine RN.done k_ ?_
  refine KN.next ?_
  refine J.seq ?_
  refine J.regD k_ [4, 5] ?_
  refine RD.bat k_ [(0, some 2), (2, some 1)] [2, 3, 4, 5, 7] [b4, b4, b3, b3] (L' := [2, 0]) (l' := [(2, pt b3), (3, pt b4), (4, pt b5), (5, intV s x), (7, intV t z)]) k_ ?_
  refine RD.call (i := 1) (integer_value s x y_) [0] k_ k_ k_ k_ k_ rfl (fun y6 _ => ?_)
  refine RD.call (i := 3) (integer_value t z y_) [2] k_ k_ k_ k_ k_ rfl (fun y7 _ => ?_)
  refine RD.last (i := 4) (some 2) [2, 3, 4, 8] [b3, b3] k_ k_ k_ (l' := [(2, pt b3), (3, pt b4), (4, pt b5), (8, intV y7 (encZ (zv z)))]) (M' := [(b5, .cells #[.bool false, sl saNil ([] : List Nat).length] 25 (0, 0)), (b4, .cells #[.bool z.neg, sl t z.mag.length] 25 (0, 0)), (b3, .cells #[.bool (decide ((zv x) < 0)), sl y6 (toL ((zv x).natAbs)).length] 25 (0, 0))]) k_ ?_
  refine RD.last (i := 5) (some 1) [2, 3, 4] [b4, b4] k_ k_ k_ (l' := [(2, pt b3), (3, pt b4), (4, pt b5)]) (M' := [(b5, .cells #[.bool false, sl saNil ([] : List Nat).length] 25 (0, 0)), (b4, .cells #[.bool (decide ((zv z) < 0)), sl y7 (toL ((zv z).natAbs)).length] 25 (0, 0)), (b3, .cells #[.bool (decide ((zv x) < 0)), sl y6 (toL ((zv x).natAbs)).length] 25 (0, 0))]) k_ ?_
  refine RD.done k_ ?_
  refine KN.next ?_
  refine J.seq ?_
  refine J.regD k_ [11] ?_
  refine RD.bat k_ [(0, none), (1, some 2), (2, none), (3, some 1), (4, none), (5, none), (6, some 2), (7, none), (8, some 1)] [4, 13, 15, 17] [b4, b3, b4, b3] (L' := [8, 7, 6, 5, 4, 3, 2, 1, 0]) (l' := [(4, pt b5), (13, .bool ((decide ((zv x) < 0)) != (decide ((zv z) < 0)))), (15, sl y6 (toL ((zv x).natAbs)).length), (17, sl y7 (toL ((zv z).natAbs)).length)]) k_ ?_
  refine RD.call (i := 9) (natural_Mul_c y6 ((zv x).natAbs) y7 ((zv z).natAbs) y_ y_) [1, 0] k_ k_ k_ k_ k_ rfl (fun y8 _ => ?_)
  refine RD.call (i := 10) (integer_signed ((decide ((zv x) < 0)) != (decide ((zv z) < 0))) y8 (((zv x).natAbs) * ((zv z).natAbs))) [0] k_ k_ k_ k_ k_ rfl (fun y9 _ => ?_)
  refine RD.last (i := 11) (some 0) [4] [b5, b5] k_ k_ k_ (l' := [(4, pt b5)]) (M' := [(b5, .cells #[.bool (decide ((sgn ((decide ((zv x) < 0)) != (decide ((zv z) < 0))) (((zv x).natAbs) * ((zv z).natAbs))) < 0)), sl y9 (toL ((sgn ((decide ((zv x) < 0)) != (decide ((zv z) < 0))) (((zv x).natAbs) * ((zv z).natAbs))).natAbs)).length] 25 (0, 0)), (b4, .cells #[.bool (decide ((zv z) < 0)), sl y7 (toL ((zv z).natAbs)).length] 25 (0, 0)), (b3, .cells #[.bool (decide ((zv x) < 0)), sl y6 (toL ((zv x).natAbs)).length] 25 (0, 0))]) k_ ?_
  refine RD.done k_ ?_
  refine KN.next ?_
  have e_1 : (zv x * zv z) = (sgn ((decide ((zv x) < 0)) != (decide ((zv z) < 0))) (((zv x).natAbs) * ((zv z).natAbs))) := by rw [sgn_mul]
  refine J.ret (KR.ret (v := intV y9 (encZ (sgn ((decide ((zv x) < 0)) != (decide ((zv z) < 0))) (((zv x).natAbs) * ((zv z).natAbs))))) (y9) [some 0] [0] [b5, b5] k_ v1_ (trivial) v1_)
theorem integer_Mul_c (s : SA) (x' : Int) (t : SA) (z' : Int) (hxl : (toL (x'.natAbs)).length ≤ 1099511627776) (hzl : (toL (z'.natAbs)).length ≤ 1099511627776) : Spec Tryz.prog 87 #[intV s (encZ x'), intV t (encZ z')] [fU s (toL (x'.natAbs)), fU t (toL (z'.natAbs))] (ι := SA) (fun y => intV y (encZ (x' * z'))) (fun y => True) (fun y => [fU y (toL ((x' * z').natAbs))]) := by
  have H := integer_Mul s (encZ x') t (encZ z') (Lb_toL _) (by first | exact hxl | simpa only [zv_encZ, zv_encZ] using hxl) (Lb_toL _) (by first | exact hzl | simpa only [zv_encZ, zv_encZ] using hzl)
  first | exact H | (simp only [zv_encZ, validZ_encZ] at H; exact H)
end Go.Proofs.YtegnonhgildhoaaGreat.E
