/- Lemmas and contracts of functions on the way to the law, part 4. -/
import Derived.Test.YtegnonhgildhoaaA3
namespace Go.Proofs.Ytegnonhgildhoaa.E
open Go Go.RowKit
set_option linter.unusedVariables false
set_option linter.unusedSimpArgs false
instance : DecidableEq RawI := fun a b => decidable_of_iff (a.neg = b.neg ∧ a.mag = b.mag) ⟨fun h => by cases a; cases b; simp_all, fun h => by subst h; exact ⟨rfl, rfl⟩⟩
instance : DecidableEq Raw := fun a b => decidable_of_iff (a.neg = b.neg ∧ a.mag = b.mag ∧ a.den = b.den) ⟨fun h => by cases a; cases b; simp_all, fun h => by subst h; exact ⟨rfl, rfl, rfl⟩⟩
theorem encZ_take {z : RawI} (hb : Lb z.mag) (h : validZ z = true) : encZ (zv z) = ⟨z.neg, toL (nv z.mag)⟩ := by
  rw [encZ_zv hb h]
  have hv := validZ_mag h
  rw [nv_of_valid hv, toL_lv hb hv]
theorem r02_Valid (s : SA) (z : RawI) : Spec Try.prog 77 #[intV s z] [fU s z.mag] (ι := Unit) (fun y => .bool (validZ z)) (fun y => True) (fun y => []) := by
 refine Spec.of_body _ (fn := Try.f77) k_ rfl k_ (fun X w0 => ?_)
 refine J.fact (φ := z.mag.length ≤ 140737488355328) (fun w h => by have := (h _ (.head _)).1; omega) (fun hl1 => ?_)
 refine J.sreg ?_
 refine RN.new (fun b => pt b) (.cells #[.bool z.neg, sl s z.mag.length] 25 (0, 0)) k_ k_ (fun w => by kernel_rfl) (fun b2 => ?_)
 refine RN.bq (no 1) [1] [] 2 [(1, pt b2)] k_ ?_
 refine RN.fs k_ ?_
 refine RN.bq [none, some 0] [1, 4] [b2] 2 [(1, pt b2), (4, sl s z.mag.length)] k_ ?_
 refine RN.call (r01_Valid s z.mag) [0] k_ k_ k_ rfl (fun y3 _ => ?_)
 refine RN.bq (no 1) [1, 6] [] 4 [(1, pt b2), (6, .bool (validU z.mag))] k_ ?_
 refine RN.split 6 (validU z.mag) k_ (fun c4 => ?_) (fun c4 => ?_)
 ·refine RN.bq [none, some 0, none] [1, 6, 9] [b2] 7 [(1, pt b2), (6, .bool true), (9, .bool z.neg)] k_ ?_
  refine RN.split 9 (z.neg) k_ (fun c5 => ?_) (fun c5 => ?_)
  ·refine RN.bq [none, some 0, none, none, none, none, none, none] [2] [b2] 15 [(2, .bool (!((((z.mag.length : Nat) : Int) : Int) == 0)))] k_ ?_
   refine RN.fin k_ ?_
   have e_1 : (validZ z) = (!((((z.mag.length : Nat) : Int) : Int) == 0)) := by rcases z with ⟨neg, mag⟩; cases mag <;> simp_all [validZ] <;> omega
   refine J.ret (KR.ret (v := .bool (!((((z.mag.length : Nat) : Int) : Int) == 0))) (()) [none] [] [] k_ v1_ (trivial) v1_)
  ·refine RN.bq (no 8) [2] [] 15 [(2, .bool true)] k_ ?_
   refine RN.fin k_ ?_
   have e_1 : (validZ z) = true := by rcases z with ⟨neg, mag⟩; cases mag <;> simp_all [validZ] <;> omega
   refine J.ret (KR.ret (v := .bool true) (()) [none] [] [] k_ v1_ (trivial) v1_)
 ·refine RN.bq (no 11) [2] [] 15 [(2, .bool false)] k_ ?_
  refine RN.fin k_ ?_
  have e_1 : (validZ z) = false := by rcases z with ⟨neg, mag⟩; cases mag <;> simp_all [validZ] <;> omega
  refine J.ret (KR.ret (v := .bool false) (()) [none] [] [] k_ v1_ (trivial) v1_)
theorem r02_Take (s : SA) (z : RawI) (hz : Lb z.mag) (hzl : z.mag.length ≤ 1099511627776) : Spec Try.prog 57 #[intV s z] [fU s z.mag] (ι := SA) (fun y => intV y (encZ (zv z))) (fun y => True) (fun y => [fU y (toL ((zv z).natAbs))]) := by
 refine Spec.of_body _ (fn := Try.f57) k_ rfl k_ (fun X w0 => ?_)
 refine J.fact (φ := z.mag.length ≤ 140737488355328) (fun w h => by have := (h _ (.head _)).1; omega) (fun hl1 => ?_)
 refine J.sreg ?_
 refine RN.new (fun b => pt b) (.cells #[.bool z.neg, sl s z.mag.length] 25 (0, 0)) k_ k_ (fun w => by kernel_rfl) (fun b2 => ?_)
 refine RN.new (fun b => pt b) (.cells #[.bool false, sl saNil ([] : List Nat).length] 25 (0, 0)) k_ k_ (fun w => by kernel_rfl) (fun b3 => ?_)
 refine RN.fin k_ ?_
 refine J.seq ?_
 refine J.sreg ?_
 refine RN.bq [some 1] [1, 2, 3] [b2, b2] 1 [(1, pt b2), (2, pt b3), (3, intV s z)] k_ ?_
 refine RN.call (r02_Valid s z) [0] k_ k_ k_ rfl (fun y4 _ => ?_)
 refine RN.bq (no 1) [1, 2, 5] [] 3 [(1, pt b2), (2, pt b3), (5, .bool (!(validZ z)))] k_ ?_
 refine RN.fin k_ ?_
 refine J.cond (!(validZ z)) k_ (fun c5 => ?_) (fun c5 => ?_)
 ·refine J.sreg ?_
  refine RN.bs [none, some 0] [2] [b3, b3] 2 [(2, pt b3)] ([(b3, .cells #[.bool false, sl saNil ([] : List Nat).length] 25 (0, 0)), (b2, .cells #[.bool z.neg, sl s z.mag.length] 25 (0, 0))]) k_ ?_
  refine RN.fin k_ ?_
  have e_1 : (encZ (zv z)) = (⟨false, ([] : List Nat)⟩ : RawI) := by exact encZ_zv_f (by simpa using ‹(!validZ z) = true›)
  have e_2 : (toL ((zv z).natAbs)) = ([] : List Nat) := congrArg RawI.mag e_1
  refine J.also (fU saNil ([] : List Nat)) (fun w h => fU_nil w) ?_
  refine J.ret (KR.next (KR.ret (v := intV saNil (⟨false, ([] : List Nat)⟩ : RawI)) (saNil) [some 0] [0] [b3, b3] k_ (by first | rfl | (rw [e_1]; done) | (simp only [e_1]; done) | (rw [e_2]; done) | (rw [e_1, e_2]; rfl) | (simp only [e_1, e_2]; done) | (simp only [e_1, e_2]; rfl)) (trivial) (by first | rfl | (rw [e_1]; done) | (simp only [e_1]; done) | (rw [e_2]; done) | (rw [e_1, e_2]; rfl) | (simp only [e_1, e_2]; done) | (simp only [e_1, e_2]; rfl))))
 ·refine J.skip ?_
  refine KN.next ?_
  refine J.seq ?_
  refine J.regD k_ [6] ?_
  refine RD.bq [(0, none), (1, some 1), (2, none), (3, some 1)] [2, 8, 10] [b2, b2] [(2, pt b3), (8, .bool z.neg), (10, sl s z.mag.length)] k_ k_ ?_
  refine RD.call (i := 4) (r01_Take s z.mag y_ y_) [0] k_ k_ k_ k_ k_ rfl (fun y6 _ => ?_)
  refine RD.bq (nl [5]) [2, 12] [] [(2, pt b3), (12, intV y6 (⟨z.neg, toL (nv z.mag)⟩ : RawI))] k_ k_ ?_
  refine RD.last (i := 6) (some 0) [2] [b3, b3] k_ k_ k_ (l' := [(2, pt b3)]) (M' := [(b3, .cells #[.bool z.neg, sl y6 (toL (nv z.mag)).length] 25 (0, 0)), (b2, .cells #[.bool z.neg, sl s z.mag.length] 25 (0, 0))]) k_ ?_
  refine RD.done k_ ?_
  refine KN.next ?_
  have e_1 : (encZ (zv z)) = (⟨z.neg, toL (nv z.mag)⟩ : RawI) := by exact encZ_take hz (by simpa using ‹(!validZ z) = false›)
  have e_2 : (toL ((zv z).natAbs)) = (toL (nv z.mag)) := congrArg RawI.mag e_1
  refine J.ret (KR.ret (v := intV y6 (⟨z.neg, toL (nv z.mag)⟩ : RawI)) (y6) [some 0] [0] [b3, b3] k_ (by first | rfl | (rw [e_1]; done) | (simp only [e_1]; done) | (rw [e_2]; done) | (rw [e_1, e_2]; rfl) | (simp only [e_1, e_2]; done) | (simp only [e_1, e_2]; rfl)) (trivial) (by first | rfl | (rw [e_1]; done) | (simp only [e_1]; done) | (rw [e_2]; done) | (rw [e_1, e_2]; rfl) | (simp only [e_1, e_2]; done) | (simp only [e_1, e_2]; rfl)))
theorem r02_signed (b : Bool) (s : SA) (n : Nat) : Spec Try.prog 30 #[.bool b, sl s (toL n).length] [fU s (toL n)] (ι := SA) (fun y => intV y (encZ (sgn b n))) (fun y => True) (fun y => [fU y (toL ((sgn b n).natAbs))]) := by
 refine Spec.of_body _ (fn := Try.f30) k_ rfl k_ (fun X w0 => ?_)
 refine J.fact (φ := (toL n).length ≤ 140737488355328) (fun w h => by have := (h _ (.head _)).1; omega) (fun hl1 => ?_)
 refine J.sreg ?_
 refine RN.new (fun b => pt b) (.cells #[.bool false, sl saNil ([] : List Nat).length] 25 (0, 0)) k_ k_ (fun w => by kernel_rfl) (fun b2 => ?_)
 refine RN.fs k_ ?_
 refine RN.bq (no 2) [1, 4, 6] [] 2 [(1, sl s (toL n).length), (4, pt b2), (6, .bool b)] k_ ?_
 refine RN.split 6 (b) k_ (fun c3 => ?_) (fun c3 => ?_)
 ·refine RN.bs [none, none, none, none, none, none, some 0] [4] [b2, b2] 9 [(4, pt b2)] ([(b2, .cells #[.bool (decide ((((toL n).length : Nat) : Int) > 0)), sl s (toL n).length] 25 (0, 0))]) k_ ?_
  refine RN.fin k_ ?_
  have e_1 : (encZ (sgn b n)) = (⟨decide ((((toL n).length : Nat) : Int) > 0), toL n⟩ : RawI) := by first | (rw [‹b = true›]; exact sgn_true _) | (rw [‹b = false›]; exact sgn_false _) | (rw [‹b = false›]; rfl)
  have e_2 : (toL ((sgn b n).natAbs)) = (toL n) := congrArg RawI.mag e_1
  refine J.ret (KR.ret (v := intV s (⟨decide ((((toL n).length : Nat) : Int) > 0), toL n⟩ : RawI)) (s) [some 0] [0] [b2, b2] k_ (by first | rfl | (rw [e_1]; done) | (simp only [e_1]; done) | (rw [e_2]; done) | (rw [e_1, e_2]; rfl) | (simp only [e_1, e_2]; done) | (simp only [e_1, e_2]; rfl)) (trivial) (by first | rfl | (rw [e_1]; done) | (simp only [e_1]; done) | (rw [e_2]; done) | (rw [e_1, e_2]; rfl) | (simp only [e_1, e_2]; done) | (simp only [e_1, e_2]; rfl)))
 ·refine RN.bs [none, none, none, none, none, none, some 0] [4] [b2, b2] 9 [(4, pt b2)] ([(b2, .cells #[.bool false, sl s (toL n).length] 25 (0, 0))]) k_ ?_
  refine RN.fin k_ ?_
  have e_1 : (sgn b n) = ((n : Nat) : Int) := by first | (rw [‹b = true›]; exact sgn_true _) | (rw [‹b = false›]; exact sgn_false _) | (rw [‹b = false›]; rfl)
  refine J.ret (KR.ret (v := intV s (encZ ((n : Nat) : Int))) (s) [some 0] [0] [b2, b2] k_ v1_ (trivial) v1_)
theorem r02_Sign (s : SA) (z : RawI) (hz : Lb z.mag) (hzl : z.mag.length ≤ 1099511627776) : Spec Try.prog 33 #[intV s z] [fU s z.mag] (ι := Unit) (fun y => .int .i64 (Int.sign (zv z))) (fun y => True) (fun y => []) := by
 refine Spec.of_body _ (fn := Try.f33) k_ rfl k_ (fun X w0 => ?_)
 refine J.fact (φ := z.mag.length ≤ 140737488355328) (fun w h => by have := (h _ (.head _)).1; omega) (fun hl1 => ?_)
 refine J.sreg ?_
 refine RN.new (fun b => pt b) (.cells #[.bool z.neg, sl s z.mag.length] 25 (0, 0)) k_ k_ (fun w => by kernel_rfl) (fun b2 => ?_)
 refine RN.bq (no 1) [1] [] 2 [(1, pt b2)] k_ ?_
 refine RN.fs k_ ?_
 refine RN.bq [some 0] [1, 3] [b2, b2] 1 [(1, pt b2), (3, intV s z)] k_ ?_
 refine RN.call (r02_Take s z y_ y_) [0] k_ k_ k_ rfl (fun y3 _ => ?_)
 refine RN.bs [some 0] [1] [b2, b2] 3 [(1, pt b2)] ([(b2, .cells #[.bool (decide ((zv z) < 0)), sl y3 (toL ((zv z).natAbs)).length] 25 (0, 0))]) k_ ?_
 refine RN.fin k_ ?_
 refine J.seq ?_
 refine J.block ?_
 refine J.sreg ?_
 refine RN.bq [none, some 0, none] [1, 5] [b2] 3 [(1, pt b2), (5, .bool (decide ((zv z) < 0)))] k_ ?_
 refine RN.fin k_ ?_
 refine J.cond (decide ((zv z) < 0)) k_ (fun c4 => ?_) (fun c4 => ?_)
 ·replace c4 := of_decide_eq_true c4
  refine J.sreg ?_
  refine RN.bq (no 1) [2] [] 1 [(2, .int .i64 (-1))] k_ ?_
  refine RN.fin k_ ?_
  have e_1 : (Int.sign (zv z) : Int) = ((-1) : Int) := by exact Int.sign_eq_neg_one_of_neg (by simpa using ‹_›)
  refine J.ret (KR.blk (KR.next (KR.ret (v := .int .i64 (-1)) (()) [none] [] [] k_ v1_ (trivial) v1_)))
 ·replace c4 := of_decide_eq_false c4
  refine J.sreg ?_
  refine RN.bq [none, some 0, none, none, none] [8] [b2] 5 [(8, .bool (decide ((((toL ((zv z).natAbs)).length : Nat) : Int) > 0)))] k_ ?_
  refine RN.fin k_ ?_
  refine J.cond (decide ((((toL ((zv z).natAbs)).length : Nat) : Int) > 0)) k_ (fun c5 => ?_) (fun c5 => ?_)
  ·replace c5 := of_decide_eq_true c5
   refine J.sreg ?_
   refine RN.bq (no 1) [2] [] 1 [(2, .int .i64 1)] k_ ?_
   refine RN.fin k_ ?_
   have e_1 : (Int.sign (zv z) : Int) = (1 : Int) := by exact Int.sign_eq_one_of_pos (by have h1 := mt toL_len0.2 (by omega : ¬ (toL ((zv z).natAbs)).length = 0); simp at *; omega)
   refine J.ret (KR.blk (KR.next (KR.ret (v := .int .i64 1) (()) [none] [] [] k_ v1_ (trivial) v1_)))
  ·replace c5 := of_decide_eq_false c5
   refine J.skip ?_
   refine KN.blk ?_
   refine KN.next ?_
   refine J.sreg ?_
   refine RN.bq (no 1) [2] [] 1 [(2, .int .i64 0)] k_ ?_
   refine RN.fin k_ ?_
   have e_1 : (Int.sign (zv z) : Int) = (0 : Int) := by rw [show zv z = 0 from by have := toL_len0.1 (by omega : (toL ((zv z).natAbs)).length = 0); omega]; rfl
   refine J.ret (KR.ret (v := .int .i64 0) (()) [none] [] [] k_ v1_ (trivial) v1_)
theorem r02_Sign_c (s : SA) (z' : Int) (hzl : (toL (z'.natAbs)).length ≤ 1099511627776) : Spec Try.prog 33 #[intV s (encZ z')] [fU s (toL (z'.natAbs))] (ι := Unit) (fun y => .int .i64 (Int.sign z')) (fun y => True) (fun y => []) := by
  have H := r02_Sign s (encZ z') (Lb_toL _) (by first | exact hzl | simpa only [zv_encZ] using hzl)
  first | exact H | (simp only [zv_encZ, validZ_encZ] at H; exact H)
theorem r02_Neg (s : SA) (z : RawI) (hz : Lb z.mag) (hzl : z.mag.length ≤ 1099511627776) : Spec Try.prog 34 #[intV s z] [fU s z.mag] (ι := SA) (fun y => intV y (encZ (-zv z))) (fun y => True) (fun y => [fU y (toL ((-zv z).natAbs))]) := by
 refine Spec.of_body _ (fn := Try.f34) k_ rfl k_ (fun X w0 => ?_)
 refine J.fact (φ := z.mag.length ≤ 140737488355328) (fun w h => by have := (h _ (.head _)).1; omega) (fun hl1 => ?_)
 refine J.sreg ?_
 refine RN.new (fun b => pt b) (.cells #[.bool z.neg, sl s z.mag.length] 25 (0, 0)) k_ k_ (fun w => by kernel_rfl) (fun b2 => ?_)
 refine RN.new (fun b => pt b) (.cells #[.bool false, sl saNil ([] : List Nat).length] 25 (0, 0)) k_ k_ (fun w => by kernel_rfl) (fun b3 => ?_)
 refine RN.fs k_ ?_
 refine RN.bq [some 1] [1, 2, 3] [b2, b2] 1 [(1, pt b2), (2, pt b3), (3, intV s z)] k_ ?_
 refine RN.call (r02_Take s z y_ y_) [0] k_ k_ k_ rfl (fun y4 _ => ?_)
 refine RN.bs [some 1] [1, 2] [b2, b2] 3 [(1, pt b2), (2, pt b3)] ([(b3, .cells #[.bool false, sl saNil ([] : List Nat).length] 25 (0, 0)), (b2, .cells #[.bool (decide ((zv z) < 0)), sl y4 (toL ((zv z).natAbs)).length] 25 (0, 0))]) k_ ?_
 refine RN.fs k_ ?_
 refine RN.bq [none, some 1, none, none, some 1] [2, 7, 9] [b2, b2] 5 [(2, pt b3), (7, .bool (!(decide ((zv z) < 0)))), (9, sl y4 (toL ((zv z).natAbs)).length)] k_ ?_
 refine RN.call (r02_signed (!(decide ((zv z) < 0))) y4 ((zv z).natAbs)) [0] k_ k_ k_ rfl (fun y5 _ => ?_)
 refine RN.bs [some 0] [2] [b3, b3] 7 [(2, pt b3)] ([(b3, .cells #[.bool (decide ((sgn (!(decide ((zv z) < 0))) ((zv z).natAbs)) < 0)), sl y5 (toL ((sgn (!(decide ((zv z) < 0))) ((zv z).natAbs)).natAbs)).length] 25 (0, 0)), (b2, .cells #[.bool (decide ((zv z) < 0)), sl y4 (toL ((zv z).natAbs)).length] 25 (0, 0))]) k_ ?_
 refine RN.fin k_ ?_
 have e_1 : (-zv z) = (sgn (!(decide ((zv z) < 0))) ((zv z).natAbs)) := by rw [sgn_not]
 refine J.ret (KR.ret (v := intV y5 (encZ (sgn (!(decide ((zv z) < 0))) ((zv z).natAbs)))) (y5) [some 0] [0] [b3, b3] k_ v1_ (trivial) v1_)
theorem r02_Neg_c (s : SA) (z' : Int) (hzl : (toL (z'.natAbs)).length ≤ 1099511627776) : Spec Try.prog 34 #[intV s (encZ z')] [fU s (toL (z'.natAbs))] (ι := SA) (fun y => intV y (encZ (-z'))) (fun y => True) (fun y => [fU y (toL ((-z').natAbs))]) := by
  have H := r02_Neg s (encZ z') (Lb_toL _) (by first | exact hzl | simpa only [zv_encZ] using hzl)
  first | exact H | (simp only [zv_encZ, validZ_encZ] at H; exact H)
theorem r02_Gcd (s : SA) (x : RawI) (t : SA) (z : RawI) (hx : Lb x.mag) (hxl : x.mag.length ≤ 137438953472) (hz : Lb z.mag) (hzl : z.mag.length ≤ 137438953472) : Spec Try.prog 35 #[intV s x, intV t z] [fU s x.mag, fU t z.mag] (ι := SA) (fun y => sl y (toL (Nat.gcd ((zv x).natAbs) ((zv z).natAbs))).length) (fun y => True) (fun y => [fU y (toL (Nat.gcd ((zv x).natAbs) ((zv z).natAbs)))]) := by
 refine Spec.of_body _ (fn := Try.f35) k_ rfl k_ (fun X w0 => ?_)
 refine J.fact (φ := x.mag.length ≤ 140737488355328) (fun w h => by have := (h _ (.head _)).1; omega) (fun hl1 => ?_)
 refine J.fact (φ := z.mag.length ≤ 140737488355328) (fun w h => by have := (h _ (.tail _ ((.head _)))).1; omega) (fun hl2 => ?_)
 have hxv := Nat.le_trans (zv_len hx) hxl
 have hzv := Nat.le_trans (zv_len hz) hzl
 refine J.sreg ?_
 refine RN.new (fun b => pt b) (.cells #[.bool x.neg, sl s x.mag.length] 25 (0, 0)) k_ k_ (fun w => by kernel_rfl) (fun b3 => ?_)
 refine RN.new (fun b => pt b) (.cells #[.bool z.neg, sl t z.mag.length] 25 (0, 0)) k_ k_ (fun w => by kernel_rfl) (fun b4 => ?_)
 refine RN.bq (no 1) [2, 3] [] 3 [(2, pt b3), (3, pt b4)] k_ ?_
 refine RN.fin k_ ?_
 refine J.seq ?_
 refine J.regD k_ [] ?_
 refine RD.bq [(0, some 1), (3, some 0)] [5, 8] [b4, b4, b3, b3] [(5, intV s x), (8, intV t z)] k_ k_ ?_
 refine RD.call (i := 1) (r02_Take s x y_ y_) [0] k_ k_ k_ k_ k_ rfl (fun y5 _ => ?_)
 refine RD.bq (nl [2]) [7, 8] [] [(7, sl y5 (toL ((zv x).natAbs)).length), (8, intV t z)] k_ k_ ?_
 refine RD.call (i := 4) (r02_Take t z y_ y_) [2] k_ k_ k_ k_ k_ rfl (fun y6 _ => ?_)
 refine RD.bq (nl [5]) [7, 10] [] [(7, sl y5 (toL ((zv x).natAbs)).length), (10, sl y6 (toL ((zv z).natAbs)).length)] k_ k_ ?_
 refine RD.call (i := 6) (r01_Gcd_c y5 ((zv x).natAbs) y6 ((zv z).natAbs) y_ y_) [1, 0] k_ k_ k_ k_ k_ rfl (fun y7 _ => ?_)
 refine RD.bq (nl [7]) [4] [] [(4, sl y7 (toL (Nat.gcd ((zv x).natAbs) ((zv z).natAbs))).length)] k_ k_ ?_
 refine RD.done k_ ?_
 refine KN.next ?_
 refine J.ret (KR.ret (v := sl y7 (toL (Nat.gcd ((zv x).natAbs) ((zv z).natAbs))).length) (y7) [none] [0] [] k_ rfl (trivial) rfl)
theorem r02_Gcd_c (s : SA) (x' : Int) (t : SA) (z' : Int) (hxl : (toL (x'.natAbs)).length ≤ 137438953472) (hzl : (toL (z'.natAbs)).length ≤ 137438953472) : Spec Try.prog 35 #[intV s (encZ x'), intV t (encZ z')] [fU s (toL (x'.natAbs)), fU t (toL (z'.natAbs))] (ι := SA) (fun y => sl y (toL (Nat.gcd (x'.natAbs) (z'.natAbs))).length) (fun y => True) (fun y => [fU y (toL (Nat.gcd (x'.natAbs) (z'.natAbs)))]) := by
  have H := r02_Gcd s (encZ x') t (encZ z') (Lb_toL _) (by first | exact hxl | simpa only [zv_encZ, zv_encZ] using hxl) (Lb_toL _) (by first | exact hzl | simpa only [zv_encZ, zv_encZ] using hzl)
  first | exact H | (simp only [zv_encZ, validZ_encZ] at H; exact H)
theorem r02_Same (s : SA) (x : RawI) (t : SA) (z : RawI) : Spec Try.prog 52 #[intV s x, intV t z] [fU s x.mag, fU t z.mag] (ι := Unit) (fun y => .bool (decide (x = z))) (fun y => True) (fun y => []) := by
 refine Spec.of_body _ (fn := Try.f52) k_ rfl k_ (fun X w0 => ?_)
 refine J.fact (φ := x.mag.length ≤ 140737488355328) (fun w h => by have := (h _ (.head _)).1; omega) (fun hl1 => ?_)
 refine J.fact (φ := z.mag.length ≤ 140737488355328) (fun w h => by have := (h _ (.tail _ ((.head _)))).1; omega) (fun hl2 => ?_)
 refine J.sreg ?_
 refine RN.new (fun b => pt b) (.cells #[.bool x.neg, sl s x.mag.length] 25 (0, 0)) k_ k_ (fun w => by kernel_rfl) (fun b3 => ?_)
 refine RN.new (fun b => pt b) (.cells #[.bool z.neg, sl t z.mag.length] 25 (0, 0)) k_ k_ (fun w => by kernel_rfl) (fun b4 => ?_)
 refine RN.bq (no 1) [2, 3] [] 3 [(2, pt b3), (3, pt b4)] k_ ?_
 refine RN.fs k_ ?_
 refine RN.bq [none, some 1, none, some 0, none, none] [2, 3, 10] [b4, b3] 6 [(2, pt b3), (3, pt b4), (10, .bool (x.neg == z.neg))] k_ ?_
 refine RN.split 10 (x.neg == z.neg) k_ (fun c5 => ?_) (fun c5 => ?_)
 ·refine RN.bq [none, some 1, none, some 0] [10, 12, 14] [b4, b3] 10 [(10, .bool true), (12, sl s x.mag.length), (14, sl t z.mag.length)] k_ ?_
  refine RN.call (r01_Same s x.mag t z.mag) [0, 1] k_ k_ k_ rfl (fun y6 _ => ?_)
  refine RN.bq (no 2) [4] [] 13 [(4, .bool (decide (x.mag = z.mag)))] k_ ?_
  refine RN.fin k_ ?_
  have e_1 : (decide (x = z)) = (decide (x.mag = z.mag)) := by rcases x with ⟨a, b⟩; rcases z with ⟨c, d⟩; simp_all
  refine J.ret (KR.ret (v := .bool (decide (x.mag = z.mag))) (()) [none] [] [] k_ v1_ (trivial) v1_)
 ·refine RN.bq (no 7) [4] [] 13 [(4, .bool false)] k_ ?_
  refine RN.fin k_ ?_
  have e_1 : (decide (x = z)) = false := by rcases x with ⟨a, b⟩; rcases z with ⟨c, d⟩; simp_all
  refine J.ret (KR.ret (v := .bool false) (()) [none] [] [] k_ v1_ (trivial) v1_)
theorem y_r02_FromInt {p : Prop} (h : p := by first | assumption | exact Lb_toL _ | omega | (simp; done) | first | exact Lb.one (by decide) | (simp; done) | (simp; omega)) : p := h
theorem r02_FromInt (v : Int) (h1 : -9223372036854775808 ≤ v) (h2 : v < 9223372036854775808) : Spec Try.prog 10 #[.int .i64 v] [] (ι := SA) (fun y => intV y (encZ v)) (fun y => True) (fun y => [fU y (toL (v.natAbs))]) := by
 refine Spec.of_body _ (fn := Try.f10) k_ rfl k_ (fun X w0 => ?_)
 have hl : (toL ((-(v + 1)).natAbs)).length ≤ 1099511627776 := Nat.le_trans (u64_len.2 (by omega)) (by decide)
 refine J.sreg ?_
 refine RN.new (fun b => pt b) (.cells #[.bool false, sl saNil ([] : List Nat).length] 25 (0, 0)) k_ k_ (fun w => by kernel_rfl) (fun b1 => ?_)
 refine RN.fin k_ ?_
 refine J.seq ?_
 refine J.sreg ?_
 refine RN.bq (no 2) [0, 2, 4] [] 2 [(0, .int .i64 v), (2, pt b1), (4, .bool (decide (v < 0)))] k_ ?_
 refine RN.fin k_ ?_
 refine J.cond (decide (v < 0)) k_ (fun c2 => ?_) (fun c2 => ?_)
 ·replace c2 := of_decide_eq_true c2
  refine J.sreg ?_
  refine RN.bq (no 2) [2, 6] [] 2 [(2, pt b1), (6, .int .i64 (IntKind.i64.wrap (v + 1)))] k_ ?_
  rw [show IntKind.i64.wrap (v + 1) = (v + 1) from by rw [IntKind.wrap_i64]; omega]
  refine RN.bq (no 1) [2, 7] [] 3 [(2, pt b1), (7, .int .i64 (IntKind.i64.wrap (0 - (v + 1))))] k_ ?_
  rw [show IntKind.i64.wrap (0 - (v + 1)) = (-(v + 1)) from by rw [IntKind.wrap_i64]; omega]
  refine RN.bq (no 1) [2, 8] [] 4 [(2, pt b1), (8, .int .u64 (IntKind.u64.wrap (-(v + 1))))] k_ ?_
  rw [show (IntKind.u64.wrap (-(v + 1))) = (((-(v + 1)).natAbs : Nat) : Int) from by exact u64_pos (by omega) (by omega)]
  refine RN.call (r01_FromUint ((-(v + 1)).natAbs) y_r02_FromInt) [] k_ k_ k_ rfl (fun y3 _ => ?_)
  refine RN.new (fun b => .slice (some ⟨b, 0, none⟩) 1 1) (.cells (encU ([1] : List Nat)) 58 (0, 0)) k_ k_ (fun w => by kernel_rfl) (fun b4 => ?_)
  refine RN.share 0 rfl rfl ?_
  refine RN.also (fU (⟨some ⟨b4, 0, none⟩, 1⟩ : SA) ([1] : List Nat)) (fun w h => fU_own (h _ (.head _)) x_ x_) ?_
  refine RN.turn 10 (v := .slice (some ⟨b4, 0, none⟩) 1 1) (v' := sl (⟨some ⟨b4, 0, none⟩, 1⟩ : SA) ([1] : List Nat).length) k_ (sl_eq x_) ?_
  refine RN.call (r01_Add y3 (toL ((-(v + 1)).natAbs)) (⟨some ⟨b4, 0, none⟩, 1⟩ : SA) ([1] : List Nat) y_r02_FromInt y_r02_FromInt y_r02_FromInt y_r02_FromInt) [2, 0] k_ k_ k_ rfl (fun y5 _ => ?_)
  refine RN.call (r02_signed true y5 (nv (toL ((-(v + 1)).natAbs)) + nv ([1] : List Nat))) [0] k_ k_ k_ rfl (fun y6 _ => ?_)
  refine RN.bs [some 0] [2] [b1, b1] 9 [(2, pt b1)] ([(b1, .cells #[.bool (decide ((sgn true (nv (toL ((-(v + 1)).natAbs)) + nv ([1] : List Nat))) < 0)), sl y6 (toL ((sgn true (nv (toL ((-(v + 1)).natAbs)) + nv ([1] : List Nat))).natAbs)).length] 25 (0, 0))]) k_ ?_
  refine RN.fin k_ ?_
  have e_1 : v = (sgn true (nv (toL ((-(v + 1)).natAbs)) + nv ([1] : List Nat))) := by first | (rw [nv_toL, nv_one]; simp [sgn]; omega) | (simp [sgn]; omega)
  refine J.ret (KR.next (KR.ret (v := intV y6 (encZ (sgn true (nv (toL ((-(v + 1)).natAbs)) + nv ([1] : List Nat))))) (y6) [some 0] [0] [b1, b1] k_ v1_ (trivial) v1_))
 ·replace c2 := of_decide_eq_false c2
  refine J.skip ?_
  refine KN.next ?_
  refine J.sreg ?_
  refine RN.bq (no 2) [2, 14] [] 2 [(2, pt b1), (14, .int .u64 (IntKind.u64.wrap v))] k_ ?_
  rw [show (IntKind.u64.wrap v) = ((v.natAbs : Nat) : Int) from by exact u64_pos (by omega) (by omega)]
  refine RN.call (r01_FromUint (v.natAbs) y_r02_FromInt) [] k_ k_ k_ rfl (fun y7 _ => ?_)
  refine RN.call (r02_signed false y7 (v.natAbs)) [0] k_ k_ k_ rfl (fun y8 _ => ?_)
  refine RN.bs [some 0] [2] [b1, b1] 5 [(2, pt b1)] ([(b1, .cells #[.bool (decide ((sgn false (v.natAbs)) < 0)), sl y8 (toL ((sgn false (v.natAbs)).natAbs)).length] 25 (0, 0))]) k_ ?_
  refine RN.fin k_ ?_
  have e_1 : v = (sgn false (v.natAbs)) := by first | (rw [nv_toL, nv_one]; simp [sgn]; omega) | (simp [sgn]; omega)
  refine J.ret (KR.ret (v := intV y8 (encZ (sgn false (v.natAbs)))) (y8) [some 0] [0] [b1, b1] k_ v1_ (trivial) v1_)
theorem ediv_core {a b : Int} {m r : Nat} (hb : b ≠ 0) (h : (r : Int) + (b.natAbs : Int) * sgn (decide (a < 0)) m = a) (hr : r < b.natAbs) :
    sgn (decide (a < 0) != decide (b < 0)) m = a / b ∧ (r : Int) = a % b := by
  have hd : (0 : Int) < (b.natAbs : Int) := by omega
  have hu := (Int.ediv_emod_unique (a := a) (r := (r : Int)) (q := sgn (decide (a < 0)) m) hd).2 ⟨h, by omega, by omega⟩
  by_cases hn : b < 0
  · have e : b = -(b.natAbs : Int) := by omega
    have e1 : a / b = -(a / (b.natAbs : Int)) := by
      conv => lhs; rw [e]
      exact Int.ediv_neg a _
    have e2 : a % b = a % (b.natAbs : Int) := by
      conv => lhs; rw [e]
      exact Int.emod_neg a _
    rw [e1, e2, hu.1, hu.2]
    refine ⟨?_, rfl⟩
    cases decide (a < 0) <;> simp [sgn, hn]
  · have e : (b.natAbs : Int) = b := by omega
    rw [e] at hu
    rw [hu.1, hu.2]
    refine ⟨?_, rfl⟩
    cases decide (a < 0) <;> simp [sgn, hn]
theorem ediv_0 {a b : Int} (hb : b ≠ 0) (h : ¬ (a < 0 ∧ a.natAbs % b.natAbs ≠ 0)) : sgn (decide (a < 0) != decide (b < 0)) (a.natAbs / b.natAbs) = a / b ∧ ((a.natAbs % b.natAbs : Nat) : Int) = a % b := by
  have hd : 0 < b.natAbs := by omega
  have hm := Nat.div_add_mod a.natAbs b.natAbs
  have hl := Nat.mod_lt a.natAbs hd
  refine ediv_core hb ?_ hl
  generalize a.natAbs % b.natAbs = r at *
  generalize a.natAbs / b.natAbs = q at *
  have hmi : (b.natAbs : Int) * (q : Int) + (r : Int) = (a.natAbs : Int) := by exact_mod_cast hm
  by_cases ha : a < 0
  · have hr : r = 0 := by
      apply Nat.eq_zero_of_not_pos; intro hp; exact h ⟨ha, by omega⟩
    simp only [ha, decide_true, sgn, if_true]
    rw [Int.mul_neg]; omega
  · simp only [ha, decide_false, sgn]
    simp; omega
theorem ediv_1 {a b : Int} (hb : b ≠ 0) (ha : a < 0) (h : a.natAbs % b.natAbs ≠ 0) : sgn (decide (a < 0) != decide (b < 0)) (a.natAbs / b.natAbs + 1) = a / b ∧ ((b.natAbs - a.natAbs % b.natAbs : Nat) : Int) = a % b := by
  have hd : 0 < b.natAbs := by omega
  have hm := Nat.div_add_mod a.natAbs b.natAbs
  have hl := Nat.mod_lt a.natAbs hd
  refine ediv_core hb ?_ (by omega)
  generalize a.natAbs % b.natAbs = r at *
  generalize a.natAbs / b.natAbs = q at *
  have hmi : (b.natAbs : Int) * (q : Int) + (r : Int) = (a.natAbs : Int) := by exact_mod_cast hm
  simp only [ha, decide_true, sgn, if_true]
  rw [show ((q + 1 : Nat) : Int) = (q : Int) + 1 from rfl, Int.mul_neg, Int.mul_add, Int.mul_one]; omega
theorem y_r02_Div {p : Prop} (h : p := by first | assumption | exact Lb_toL _ | omega | (simp; done) | first | exact Lb.one (by decide) | (simp; done) | (simp; omega)) : p := h
theorem r02_Div (s : SA) (x : RawI) (t : SA) (z : RawI) (hx : Lb x.mag) (hxl : x.mag.length ≤ 137438953472) (hz : Lb z.mag) (hzl : z.mag.length ≤ 137438953472) : Spec Try.prog 36 #[intV s x, intV t z] [fU s x.mag, fU t z.mag] (ι := SA × SA) (fun y => .tuple #[intV y.1 (encZ (zv x / zv z)), intV y.2 (encZ (if zv z = 0 then 0 else zv x % zv z)), .bool (decide (zv z ≠ 0))]) (fun y => True) (fun y => [fU y.1 (toL ((zv x / zv z).natAbs)), fU y.2 (toL ((if zv z = 0 then 0 else zv x % zv z).natAbs))]) := by
 refine Spec.of_body _ (fn := Try.f36) k_ rfl k_ (fun X w0 => ?_)
 refine J.fact (φ := x.mag.length ≤ 140737488355328) (fun w h => by have := (h _ (.head _)).1; omega) (fun hl1 => ?_)
 refine J.fact (φ := z.mag.length ≤ 140737488355328) (fun w h => by have := (h _ (.tail _ ((.head _)))).1; omega) (fun hl2 => ?_)
 have hxv := Nat.le_trans (zv_len hx) hxl
 have hzv := Nat.le_trans (zv_len hz) hzl
 have hql := length_toL_mono (Nat.div_le_self (zv x).natAbs (zv z).natAbs)
 refine J.sreg ?_
 refine RN.new (fun b => pt b) (.cells #[.bool x.neg, sl s x.mag.length] 25 (0, 0)) k_ k_ (fun w => by kernel_rfl) (fun b3 => ?_)
 refine RN.new (fun b => pt b) (.cells #[.bool z.neg, sl t z.mag.length] 25 (0, 0)) k_ k_ (fun w => by kernel_rfl) (fun b4 => ?_)
 refine RN.new (fun b => pt b) (.cells #[.bool false, sl saNil ([] : List Nat).length] 25 (0, 0)) k_ k_ (fun w => by kernel_rfl) (fun b5 => ?_)
 refine RN.new (fun b => pt b) (.cells #[.bool false, sl saNil ([] : List Nat).length] 25 (0, 0)) k_ k_ (fun w => by kernel_rfl) (fun b6 => ?_)
 refine RN.bq (no 1) [2, 3, 4, 5] [] 5 [(2, pt b3), (3, pt b4), (4, pt b5), (5, pt b6)] k_ ?_
 refine RN.fin k_ ?_
 refine J.seq ?_
 refine J.regD k_ [4, 5] ?_
 refine RD.bq [(0, some 3), (2, some 2)] [2, 3, 4, 5, 10, 12] [b4, b4, b3, b3] [(2, pt b3), (3, pt b4), (4, pt b5), (5, pt b6), (10, intV s x), (12, intV t z)] k_ k_ ?_
 refine RD.call (i := 1) (r02_Take s x y_r02_Div y_r02_Div) [0] k_ k_ k_ k_ k_ rfl (fun y7 _ => ?_)
 refine RD.call (i := 3) (r02_Take t z y_r02_Div y_r02_Div) [2] k_ k_ k_ k_ k_ rfl (fun y8 _ => ?_)
 refine RD.last (i := 4) (some 3) [2, 3, 4, 5, 13] [b3, b3] k_ k_ k_ (l' := [(2, pt b3), (3, pt b4), (4, pt b5), (5, pt b6), (13, intV y8 (encZ (zv z)))]) (M' := [(b6, .cells #[.bool false, sl saNil ([] : List Nat).length] 25 (0, 0)), (b5, .cells #[.bool false, sl saNil ([] : List Nat).length] 25 (0, 0)), (b4, .cells #[.bool z.neg, sl t z.mag.length] 25 (0, 0)), (b3, .cells #[.bool (decide ((zv x) < 0)), sl y7 (toL ((zv x).natAbs)).length] 25 (0, 0))]) k_ ?_
 refine RD.last (i := 5) (some 2) [2, 3, 4, 5] [b4, b4] k_ k_ k_ (l' := [(2, pt b3), (3, pt b4), (4, pt b5), (5, pt b6)]) (M' := [(b6, .cells #[.bool false, sl saNil ([] : List Nat).length] 25 (0, 0)), (b5, .cells #[.bool false, sl saNil ([] : List Nat).length] 25 (0, 0)), (b4, .cells #[.bool (decide ((zv z) < 0)), sl y8 (toL ((zv z).natAbs)).length] 25 (0, 0)), (b3, .cells #[.bool (decide ((zv x) < 0)), sl y7 (toL ((zv x).natAbs)).length] 25 (0, 0))]) k_ ?_
 refine RD.done k_ ?_
 refine KN.next ?_
 refine J.sreg ?_
 refine RN.bq [none, some 3, none, some 2] [2, 3, 4, 5, 16, 18] [b4, b3] 4 [(2, pt b3), (3, pt b4), (4, pt b5), (5, pt b6), (16, sl y7 (toL ((zv x).natAbs)).length), (18, sl y8 (toL ((zv z).natAbs)).length)] k_ ?_
 refine RN.call (r01_Div_c y7 ((zv x).natAbs) y8 ((zv z).natAbs) y_r02_Div y_r02_Div) [1, 0] k_ k_ k_ rfl (fun y9 _ => ?_)
 refine RN.bq (no 7) [2, 3, 4, 5, 7, 8, 9] [] 12 [(2, pt b3), (3, pt b4), (4, pt b5), (5, pt b6), (7, sl y9.1 (toL (((zv x).natAbs) / ((zv z).natAbs))).length), (8, sl y9.2 (toL (if ((zv z).natAbs) = 0 then 0 else ((zv x).natAbs) % ((zv z).natAbs))).length), (9, .bool (decide (((zv z).natAbs) ≠ 0)))] k_ ?_
 refine RN.fin k_ ?_
 refine J.seq ?_
 refine J.sreg ?_
 refine RN.bq (no 2) [2, 3, 4, 5, 7, 8, 24] [] 2 [(2, pt b3), (3, pt b4), (4, pt b5), (5, pt b6), (7, sl y9.1 (toL (((zv x).natAbs) / ((zv z).natAbs))).length), (8, sl y9.2 (toL (if ((zv z).natAbs) = 0 then 0 else ((zv x).natAbs) % ((zv z).natAbs))).length), (24, .bool (!(decide (((zv z).natAbs) ≠ 0))))] k_ ?_
 refine RN.fin k_ ?_
 refine J.cond (!(decide (((zv z).natAbs) ≠ 0))) k_ (fun c10 => ?_) (fun c10 => ?_)
 ·replace c10 := of_decide_eq_false ((Bool.not_eq_true' _).mp c10)
  have h0 : zv z = 0 := by simpa using c10
  refine J.sreg ?_
  refine RN.bs [none, none, some 1, some 0, none] [4, 5, 6] [b6, b6, b5, b5] 5 [(4, pt b5), (5, pt b6), (6, .bool false)] ([(b6, .cells #[.bool false, sl saNil ([] : List Nat).length] 25 (0, 0)), (b5, .cells #[.bool false, sl saNil ([] : List Nat).length] 25 (0, 0)), (b4, .cells #[.bool (decide ((zv z) < 0)), sl y8 (toL ((zv z).natAbs)).length] 25 (0, 0)), (b3, .cells #[.bool (decide ((zv x) < 0)), sl y7 (toL ((zv x).natAbs)).length] 25 (0, 0))]) k_ ?_
  refine RN.fin k_ ?_
  have e_1 : (encZ (zv x / zv z)) = (⟨false, ([] : List Nat)⟩ : RawI) := by first | (rw [h0, Int.ediv_zero, encZ_zero]; done) | (rw [if_pos h0, encZ_zero]; done) | simp [h0]
  have e_2 : (toL ((zv x / zv z).natAbs)) = ([] : List Nat) := congrArg RawI.mag e_1
  have e_3 : (encZ (if zv z = 0 then 0 else zv x % zv z)) = (⟨false, ([] : List Nat)⟩ : RawI) := by first | (rw [h0, Int.ediv_zero, encZ_zero]; done) | (rw [if_pos h0, encZ_zero]; done) | simp [h0]
  have e_4 : (toL ((if zv z = 0 then 0 else zv x % zv z).natAbs)) = ([] : List Nat) := congrArg RawI.mag e_3
  have e_5 : (decide (zv z ≠ 0)) = false := by first | (rw [h0, Int.ediv_zero, encZ_zero]; done) | (rw [if_pos h0, encZ_zero]; done) | simp [h0]
  refine J.also (fU saNil ([] : List Nat)) (fun w h => fU_nil w) ?_
  refine J.ret (KR.next (KR.ret (v := .tuple #[intV saNil (⟨false, ([] : List Nat)⟩ : RawI), intV saNil (⟨false, ([] : List Nat)⟩ : RawI), .bool false]) (⟨saNil, saNil⟩) [some 1, some 0, none] [0, 0] [b5, b5, b6, b6] k_ (by first | rfl | (rw [e_1, e_3, e_5]; done) | (simp only [e_1, e_3, e_5]; done) | (rw [e_2, e_4]; done) | (rw [e_1, e_2, e_3, e_4, e_5]; rfl) | (simp only [e_1, e_2, e_3, e_4, e_5]; done) | (simp only [e_1, e_2, e_3, e_4, e_5]; rfl)) (trivial) (by first | rfl | (rw [e_1, e_3, e_5]; done) | (simp only [e_1, e_3, e_5]; done) | (rw [e_2, e_4]; done) | (rw [e_1, e_2, e_3, e_4, e_5]; rfl) | (simp only [e_1, e_2, e_3, e_4, e_5]; done) | (simp only [e_1, e_2, e_3, e_4, e_5]; rfl))))
 ·replace c10 := of_decide_eq_true ((Bool.not_eq_false' _).mp c10)
  have h0 : zv z ≠ 0 := by simpa using c10
  have hn0 : ¬ (zv z).natAbs = 0 := by omega
  have hml := length_toL_mono (Nat.le_of_lt (Nat.mod_lt (zv x).natAbs (by omega : 0 < (zv z).natAbs)))
  rw [show (if ((zv z).natAbs) = 0 then 0 else ((zv x).natAbs) % ((zv z).natAbs)) = ((zv x).natAbs) % ((zv z).natAbs) from if_neg hn0]
  refine J.skip ?_
  refine KN.next ?_
  refine J.seq ?_
  refine J.sreg ?_
  refine RN.bq [none, some 3, none] [2, 3, 4, 5, 7, 8, 29] [b3] 3 [(2, pt b3), (3, pt b4), (4, pt b5), (5, pt b6), (7, sl y9.1 (toL (((zv x).natAbs) / ((zv z).natAbs))).length), (8, sl y9.2 (toL (((zv x).natAbs) % ((zv z).natAbs))).length), (29, .bool (decide ((zv x) < 0)))] k_ ?_
  refine RN.split 29 (decide ((zv x) < 0)) k_ (fun c11 => ?_) (fun c11 => ?_)
  ·replace c11 := of_decide_eq_true c11
   have hneg := c11
   refine RN.bq (no 4) [2, 3, 4, 5, 7, 8, 33] [] 7 [(2, pt b3), (3, pt b4), (4, pt b5), (5, pt b6), (7, sl y9.1 (toL (((zv x).natAbs) / ((zv z).natAbs))).length), (8, sl y9.2 (toL (((zv x).natAbs) % ((zv z).natAbs))).length), (33, .bool (decide ((((toL (((zv x).natAbs) % ((zv z).natAbs))).length : Nat) : Int) > 0)))] k_ ?_
   refine RN.fin k_ ?_
   refine J.cond (decide ((((toL (((zv x).natAbs) % ((zv z).natAbs))).length : Nat) : Int) > 0)) k_ (fun c12 => ?_) (fun c12 => ?_)
   ·replace c12 := of_decide_eq_true c12
    have hr0 : (zv x).natAbs % (zv z).natAbs ≠ 0 := toL_len_ne (by omega)
    have hE := ediv_1 h0 hneg hr0
    refine J.sreg ?_
    refine RN.bq (no 1) [2, 3, 4, 5, 8, 34] [] 1 [(2, pt b3), (3, pt b4), (4, pt b5), (5, pt b6), (8, sl y9.2 (toL (((zv x).natAbs) % ((zv z).natAbs))).length), (34, sl y9.1 (toL (((zv x).natAbs) / ((zv z).natAbs))).length)] k_ ?_
    refine RN.new (fun b => .slice (some ⟨b, 0, none⟩) 1 1) (.cells (encU ([1] : List Nat)) 58 (0, 0)) k_ k_ (fun w => by kernel_rfl) (fun b13 => ?_)
    refine RN.share 0 rfl rfl ?_
    refine RN.also (fU (⟨some ⟨b13, 0, none⟩, 1⟩ : SA) ([1] : List Nat)) (fun w h => fU_own (h _ (.head _)) x_ x_) ?_
    refine RN.turn 35 (v := .slice (some ⟨b13, 0, none⟩) 1 1) (v' := sl (⟨some ⟨b13, 0, none⟩, 1⟩ : SA) ([1] : List Nat).length) k_ (sl_eq x_) ?_
    refine RN.call (r01_Add y9.1 (toL (((zv x).natAbs) / ((zv z).natAbs))) (⟨some ⟨b13, 0, none⟩, 1⟩ : SA) ([1] : List Nat) y_r02_Div y_r02_Div y_r02_Div y_r02_Div) [2, 0] k_ k_ k_ rfl (fun y14 _ => ?_)
    refine RN.bq (no 1) [2, 3, 4, 5, 7, 8] [] 4 [(2, pt b3), (3, pt b4), (4, pt b5), (5, pt b6), (7, sl y14 (toL (nv (toL (((zv x).natAbs) / ((zv z).natAbs))) + nv ([1] : List Nat))).length), (8, sl y9.2 (toL (((zv x).natAbs) % ((zv z).natAbs))).length)] k_ ?_
    refine RN.fin k_ ?_
    refine J.regN ?_
    refine RN.bq [none, some 2, none] [2, 3, 4, 5, 7, 39, 40] [b4] 3 [(2, pt b3), (3, pt b4), (4, pt b5), (5, pt b6), (7, sl y14 (toL (nv (toL (((zv x).natAbs) / ((zv z).natAbs))) + nv ([1] : List Nat))).length), (39, sl y8 (toL ((zv z).natAbs)).length), (40, sl y9.2 (toL (((zv x).natAbs) % ((zv z).natAbs))).length)] k_ ?_
    refine RN.call (r01_Sub_c y8 ((zv z).natAbs) y9.2 (((zv x).natAbs) % ((zv z).natAbs)) y_r02_Div y_r02_Div) [5, 4] k_ k_ k_ rfl (fun y15 _ => ?_)
    refine RN.bq (no 4) [2, 3, 4, 5, 7, 8] [] 8 [(2, pt b3), (3, pt b4), (4, pt b5), (5, pt b6), (7, sl y14 (toL (nv (toL (((zv x).natAbs) / ((zv z).natAbs))) + nv ([1] : List Nat))).length), (8, sl y15 (toL (((zv z).natAbs) - (((zv x).natAbs) % ((zv z).natAbs)))).length)] k_ ?_
    refine RN.fs k_ ?_
    refine RN.bq [none, some 3, none, some 2, none, none] [4, 5, 8, 48, 49] [b4, b3] 6 [(4, pt b5), (5, pt b6), (8, sl y15 (toL (((zv z).natAbs) - (((zv x).natAbs) % ((zv z).natAbs)))).length), (48, .bool ((decide ((zv x) < 0)) != (decide ((zv z) < 0)))), (49, sl y14 (toL (nv (toL (((zv x).natAbs) / ((zv z).natAbs))) + nv ([1] : List Nat))).length)] k_ ?_
    refine RN.call (r02_signed ((decide ((zv x) < 0)) != (decide ((zv z) < 0))) y14 (nv (toL (((zv x).natAbs) / ((zv z).natAbs))) + nv ([1] : List Nat))) [1] k_ k_ k_ rfl (fun y16 _ => ?_)
    refine RN.bq (no 1) [4, 5, 50, 51] [] 8 [(4, pt b5), (5, pt b6), (50, intV y16 (encZ (sgn ((decide ((zv x) < 0)) != (decide ((zv z) < 0))) (nv (toL (((zv x).natAbs) / ((zv z).natAbs))) + nv ([1] : List Nat))))), (51, sl y15 (toL (((zv z).natAbs) - (((zv x).natAbs) % ((zv z).natAbs)))).length)] k_ ?_
    refine RN.call (r02_signed false y15 (((zv z).natAbs) - (((zv x).natAbs) % ((zv z).natAbs)))) [1] k_ k_ k_ rfl (fun y17 _ => ?_)
    refine RN.bs [some 1, some 0, none] [4, 5, 6] [b6, b6, b5, b5] 12 [(4, pt b5), (5, pt b6), (6, .bool true)] ([(b6, .cells #[.bool (decide ((sgn false (((zv z).natAbs) - (((zv x).natAbs) % ((zv z).natAbs)))) < 0)), sl y17 (toL ((sgn false (((zv z).natAbs) - (((zv x).natAbs) % ((zv z).natAbs)))).natAbs)).length] 25 (0, 0)), (b5, .cells #[.bool (decide ((sgn ((decide ((zv x) < 0)) != (decide ((zv z) < 0))) (nv (toL (((zv x).natAbs) / ((zv z).natAbs))) + nv ([1] : List Nat))) < 0)), sl y16 (toL ((sgn ((decide ((zv x) < 0)) != (decide ((zv z) < 0))) (nv (toL (((zv x).natAbs) / ((zv z).natAbs))) + nv ([1] : List Nat))).natAbs)).length] 25 (0, 0)), (b4, .cells #[.bool (decide ((zv z) < 0)), sl y8 (toL ((zv z).natAbs)).length] 25 (0, 0)), (b3, .cells #[.bool (decide ((zv x) < 0)), sl y7 (toL ((zv x).natAbs)).length] 25 (0, 0))]) k_ ?_
    refine RN.fin k_ ?_
    have e_1 : (zv x / zv z) = (sgn ((decide ((zv x) < 0)) != (decide ((zv z) < 0))) (nv (toL (((zv x).natAbs) / ((zv z).natAbs))) + nv ([1] : List Nat))) := by first | (rw [nv_toL, nv_one]; exact hE.1.symm) | (rw [if_neg h0, ← hE.2]; rfl) | simp [h0]
    have e_2 : (if zv z = 0 then 0 else zv x % zv z) = (sgn false (((zv z).natAbs) - (((zv x).natAbs) % ((zv z).natAbs)))) := by first | (rw [nv_toL, nv_one]; exact hE.1.symm) | (rw [if_neg h0, ← hE.2]; rfl) | simp [h0]
    have e_3 : (decide (zv z ≠ 0)) = true := by first | (rw [nv_toL, nv_one]; exact hE.1.symm) | (rw [if_neg h0, ← hE.2]; rfl) | simp [h0]
    refine J.ret (KR.ret (v := .tuple #[intV y16 (encZ (sgn ((decide ((zv x) < 0)) != (decide ((zv z) < 0))) (nv (toL (((zv x).natAbs) / ((zv z).natAbs))) + nv ([1] : List Nat)))), intV y17 (encZ (sgn false (((zv z).natAbs) - (((zv x).natAbs) % ((zv z).natAbs))))), .bool true]) (⟨y16, y17⟩) [some 1, some 0, none] [1, 0] [b5, b5, b6, b6] k_ v3_ (trivial) v3_)
   ·replace c12 := of_decide_eq_false c12
    have hr0 : (zv x).natAbs % (zv z).natAbs = 0 := toL_len_eq (by omega)
    have hE := ediv_0 h0 (fun h => h.2 hr0)
    refine J.skip ?_
    refine KN.next ?_
    refine J.sreg ?_
    refine RN.bq [none, some 3, none, some 2, none, none] [4, 5, 8, 48, 49] [b4, b3] 6 [(4, pt b5), (5, pt b6), (8, sl y9.2 (toL (((zv x).natAbs) % ((zv z).natAbs))).length), (48, .bool ((decide ((zv x) < 0)) != (decide ((zv z) < 0)))), (49, sl y9.1 (toL (((zv x).natAbs) / ((zv z).natAbs))).length)] k_ ?_
    refine RN.call (r02_signed ((decide ((zv x) < 0)) != (decide ((zv z) < 0))) y9.1 (((zv x).natAbs) / ((zv z).natAbs))) [0] k_ k_ k_ rfl (fun y18 _ => ?_)
    refine RN.bq (no 1) [4, 5, 50, 51] [] 8 [(4, pt b5), (5, pt b6), (50, intV y18 (encZ (sgn ((decide ((zv x) < 0)) != (decide ((zv z) < 0))) (((zv x).natAbs) / ((zv z).natAbs))))), (51, sl y9.2 (toL (((zv x).natAbs) % ((zv z).natAbs))).length)] k_ ?_
    refine RN.call (r02_signed false y9.2 (((zv x).natAbs) % ((zv z).natAbs))) [2] k_ k_ k_ rfl (fun y19 _ => ?_)
    refine RN.bs [some 1, some 0, none] [4, 5, 6] [b6, b6, b5, b5] 12 [(4, pt b5), (5, pt b6), (6, .bool true)] ([(b6, .cells #[.bool (decide ((sgn false (((zv x).natAbs) % ((zv z).natAbs))) < 0)), sl y19 (toL ((sgn false (((zv x).natAbs) % ((zv z).natAbs))).natAbs)).length] 25 (0, 0)), (b5, .cells #[.bool (decide ((sgn ((decide ((zv x) < 0)) != (decide ((zv z) < 0))) (((zv x).natAbs) / ((zv z).natAbs))) < 0)), sl y18 (toL ((sgn ((decide ((zv x) < 0)) != (decide ((zv z) < 0))) (((zv x).natAbs) / ((zv z).natAbs))).natAbs)).length] 25 (0, 0)), (b4, .cells #[.bool (decide ((zv z) < 0)), sl y8 (toL ((zv z).natAbs)).length] 25 (0, 0)), (b3, .cells #[.bool (decide ((zv x) < 0)), sl y7 (toL ((zv x).natAbs)).length] 25 (0, 0))]) k_ ?_
    refine RN.fin k_ ?_
    have e_1 : (zv x / zv z) = (sgn ((decide ((zv x) < 0)) != (decide ((zv z) < 0))) (((zv x).natAbs) / ((zv z).natAbs))) := by first | exact hE.1.symm | (rw [if_neg h0, ← hE.2]; rfl) | simp [h0]
    have e_2 : (if zv z = 0 then 0 else zv x % zv z) = (sgn false (((zv x).natAbs) % ((zv z).natAbs))) := by first | exact hE.1.symm | (rw [if_neg h0, ← hE.2]; rfl) | simp [h0]
    have e_3 : (decide (zv z ≠ 0)) = true := by first | exact hE.1.symm | (rw [if_neg h0, ← hE.2]; rfl) | simp [h0]
    refine J.ret (KR.ret (v := .tuple #[intV y18 (encZ (sgn ((decide ((zv x) < 0)) != (decide ((zv z) < 0))) (((zv x).natAbs) / ((zv z).natAbs)))), intV y19 (encZ (sgn false (((zv x).natAbs) % ((zv z).natAbs)))), .bool true]) (⟨y18, y19⟩) [some 1, some 0, none] [1, 0] [b5, b5, b6, b6] k_ v3_ (trivial) v3_)
  ·replace c11 := of_decide_eq_false c11
   have hneg := c11
   refine RN.bq (no 4) [2, 3, 4, 5, 7, 8, 33] [] 7 [(2, pt b3), (3, pt b4), (4, pt b5), (5, pt b6), (7, sl y9.1 (toL (((zv x).natAbs) / ((zv z).natAbs))).length), (8, sl y9.2 (toL (((zv x).natAbs) % ((zv z).natAbs))).length), (33, .bool false)] k_ ?_
   refine RN.fin k_ ?_
   refine J.condF k_ ?_
   refine J.skip ?_
   refine KN.next ?_
   refine J.sreg ?_
   refine RN.bq [none, some 3, none, some 2, none, none] [4, 5, 8, 48, 49] [b4, b3] 6 [(4, pt b5), (5, pt b6), (8, sl y9.2 (toL (((zv x).natAbs) % ((zv z).natAbs))).length), (48, .bool ((decide ((zv x) < 0)) != (decide ((zv z) < 0)))), (49, sl y9.1 (toL (((zv x).natAbs) / ((zv z).natAbs))).length)] k_ ?_
   refine RN.call (r02_signed ((decide ((zv x) < 0)) != (decide ((zv z) < 0))) y9.1 (((zv x).natAbs) / ((zv z).natAbs))) [0] k_ k_ k_ rfl (fun y20 _ => ?_)
   refine RN.bq (no 1) [4, 5, 50, 51] [] 8 [(4, pt b5), (5, pt b6), (50, intV y20 (encZ (sgn ((decide ((zv x) < 0)) != (decide ((zv z) < 0))) (((zv x).natAbs) / ((zv z).natAbs))))), (51, sl y9.2 (toL (((zv x).natAbs) % ((zv z).natAbs))).length)] k_ ?_
   refine RN.call (r02_signed false y9.2 (((zv x).natAbs) % ((zv z).natAbs))) [2] k_ k_ k_ rfl (fun y21 _ => ?_)
   refine RN.bs [some 1, some 0, none] [4, 5, 6] [b6, b6, b5, b5] 12 [(4, pt b5), (5, pt b6), (6, .bool true)] ([(b6, .cells #[.bool (decide ((sgn false (((zv x).natAbs) % ((zv z).natAbs))) < 0)), sl y21 (toL ((sgn false (((zv x).natAbs) % ((zv z).natAbs))).natAbs)).length] 25 (0, 0)), (b5, .cells #[.bool (decide ((sgn ((decide ((zv x) < 0)) != (decide ((zv z) < 0))) (((zv x).natAbs) / ((zv z).natAbs))) < 0)), sl y20 (toL ((sgn ((decide ((zv x) < 0)) != (decide ((zv z) < 0))) (((zv x).natAbs) / ((zv z).natAbs))).natAbs)).length] 25 (0, 0)), (b4, .cells #[.bool (decide ((zv z) < 0)), sl y8 (toL ((zv z).natAbs)).length] 25 (0, 0)), (b3, .cells #[.bool (decide ((zv x) < 0)), sl y7 (toL ((zv x).natAbs)).length] 25 (0, 0))]) k_ ?_
   refine RN.fin k_ ?_
   have e_1 : (zv x / zv z) = (sgn ((decide ((zv x) < 0)) != (decide ((zv z) < 0))) (((zv x).natAbs) / ((zv z).natAbs))) := by first | exact (ediv_0 h0 (fun h => hneg h.1)).1.symm | (rw [if_neg h0, ← (ediv_0 h0 (fun h => hneg h.1)).2]; rfl) | simp [h0]
   have e_2 : (if zv z = 0 then 0 else zv x % zv z) = (sgn false (((zv x).natAbs) % ((zv z).natAbs))) := by first | exact (ediv_0 h0 (fun h => hneg h.1)).1.symm | (rw [if_neg h0, ← (ediv_0 h0 (fun h => hneg h.1)).2]; rfl) | simp [h0]
   have e_3 : (decide (zv z ≠ 0)) = true := by first | exact (ediv_0 h0 (fun h => hneg h.1)).1.symm | (rw [if_neg h0, ← (ediv_0 h0 (fun h => hneg h.1)).2]; rfl) | simp [h0]
   refine J.ret (KR.ret (v := .tuple #[intV y20 (encZ (sgn ((decide ((zv x) < 0)) != (decide ((zv z) < 0))) (((zv x).natAbs) / ((zv z).natAbs)))), intV y21 (encZ (sgn false (((zv x).natAbs) % ((zv z).natAbs)))), .bool true]) (⟨y20, y21⟩) [some 1, some 0, none] [1, 0] [b5, b5, b6, b6] k_ v3_ (trivial) v3_)
theorem r02_Div_c (s : SA) (x' : Int) (t : SA) (z' : Int) (hxl : (toL (x'.natAbs)).length ≤ 137438953472) (hzl : (toL (z'.natAbs)).length ≤ 137438953472) : Spec Try.prog 36 #[intV s (encZ x'), intV t (encZ z')] [fU s (toL (x'.natAbs)), fU t (toL (z'.natAbs))] (ι := SA × SA) (fun y => .tuple #[intV y.1 (encZ (x' / z')), intV y.2 (encZ (if z' = 0 then 0 else x' % z')), .bool (decide (z' ≠ 0))]) (fun y => True) (fun y => [fU y.1 (toL ((x' / z').natAbs)), fU y.2 (toL ((if z' = 0 then 0 else x' % z').natAbs))]) := by
  have H := r02_Div s (encZ x') t (encZ z') (Lb_toL _) (by first | exact hxl | simpa only [zv_encZ, zv_encZ] using hxl) (Lb_toL _) (by first | exact hzl | simpa only [zv_encZ, zv_encZ] using hzl)
  first | exact H | (simp only [zv_encZ, validZ_encZ] at H; exact H)
end Go.Proofs.Ytegnonhgildhoaa.E
namespace Go.Proofs.Ytegnonhgildhoaa.E
open Go Go.RowKit
set_option linter.unusedVariables false
set_option linter.unusedSimpArgs false
theorem toL_eq1 {n : Nat} : toL n = [1] ↔ n = 1 := ⟨fun h => by have := congrArg lv h; rw [lv_toL] at this; simpa [lv] using this, fun h => by rw [h, toL_1]⟩
theorem one_val {xs : List Nat} (h1 : xs.length = 1) : (xs = [1]) ↔ ((xs.getD 0 0 : Nat) : Int) = 1 := by
  match xs, h1 with
  | [a], _ => simp; omega
theorem r03_one (s : SA) (xs : List Nat) : Spec Try.prog 37 #[sl s xs.length] [fU s xs] (ι := Unit) (fun y => .bool (decide (xs = [1]))) (fun y => True) (fun y => []) := by
 refine Spec.of_body _ (fn := Try.f37) k_ rfl k_ (fun X w0 => ?_)
 refine J.fact (φ := xs.length ≤ 140737488355328) (fun w h => by have := (h _ (.head _)).1; omega) (fun hl1 => ?_)
 refine J.sreg ?_
 refine RN.bq (no 1) [0] [] 1 [(0, sl s xs.length)] k_ ?_
 refine RN.fs k_ ?_
 refine RN.bq (no 4) [0, 6] [] 4 [(0, sl s xs.length), (6, .bool ((((xs.length : Nat) : Int) : Int) == 1))] k_ ?_
 refine RN.split 6 ((((xs.length : Nat) : Int) : Int) == 1) k_ (fun c2 => ?_) (fun c2 => ?_)
 ·replace c2 := eq_of_beq c2
  refine RN.bq (no 1) [6, 7] [] 5 [(6, .bool true), (7, sl s xs.length)] k_ ?_
  refine RN.val _ k_ k_ (q_uidx (t := 23) (x := (.tmp 7)) (ix := (.const (.int .i64 0))) (K := .i64) (i0 := 0) (m := 0) (e := 58) 0 rfl k_ k_ k_ k_ k_ (by omega) x_) ?_
  refine RN.val _ k_ k_ (q_uload (T := 58) (x := (.tmp 8)) (m := 0) (s := s) (xs := xs) 0 rfl k_ k_ k_ x_) ?_
  refine RN.bq (no 3) [2] [] 10 [(2, .bool ((((xs.getD 0 0 : Nat) : Int) : Int) == 1))] k_ ?_
  refine RN.fin k_ ?_
  have e_1 : (decide (xs = [1])) = ((((xs.getD 0 0 : Nat) : Int) : Int) == 1) := by first | (have h1 : xs.length = 1 := (by omega)); (rw [Bool.eq_iff_iff]; simp [one_val h1]) | (exact decide_eq_false (fun h => by subst h; simp at *))
  refine J.ret (KR.ret (v := .bool ((((xs.getD 0 0 : Nat) : Int) : Int) == 1)) (()) [none] [] [] k_ v1_ (trivial) v1_)
 ·replace c2 := ne_of_beq_false c2
  refine RN.bq (no 6) [2] [] 10 [(2, .bool false)] k_ ?_
  refine RN.fin k_ ?_
  have e_1 : (decide (xs = [1])) = false := by first | (have h1 : xs.length = 1 := (by omega)); (rw [Bool.eq_iff_iff]; simp [one_val h1]) | (exact decide_eq_false (fun h => by subst h; simp at *))
  refine J.ret (KR.ret (v := .bool false) (()) [none] [] [] k_ v1_ (trivial) v1_)
theorem neg_div {n d : Int} (h : d < 0) : (n : Rat) / (d : Rat) = ((-n : Int) : Rat) / ((-d : Int) : Rat) := by
  rw [← mk_neg h, ← mk_pos (by omega : 0 < -d), Int.natAbs_neg]
theorem over_pos {n d : Int} (hd : 0 < d) : encQ ((n : Rat) / (d : Rat)) = ⟨decide (n / ((Nat.gcd n.natAbs d.natAbs : Nat) : Int) < 0), toL (n / ((Nat.gcd n.natAbs d.natAbs : Nat) : Int)).natAbs, toD (d / ((Nat.gcd n.natAbs d.natAbs : Nat) : Int)).natAbs⟩ := by
  have h0 : d.natAbs ≠ 0 := by omega
  have hg : 0 < Nat.gcd n.natAbs d.natAbs := Nat.gcd_pos_of_pos_right _ (Nat.pos_of_ne_zero h0)
  obtain ⟨e1, e2⟩ := low_num (n := n) h0
  rw [← mk_pos hd]
  show (⟨decide ((mkRat n d.natAbs).num < 0), toL (mkRat n d.natAbs).num.natAbs, toD (mkRat n d.natAbs).den⟩ : Raw) = _
  rw [e1, e2]
  have e3 : (d / ((Nat.gcd n.natAbs d.natAbs : Nat) : Int)).natAbs = d.natAbs / Nat.gcd n.natAbs d.natAbs := by
    have hdv : ((Nat.gcd n.natAbs d.natAbs : Nat) : Int) ∣ d := Int.ofNat_dvd_left.2 (Nat.gcd_dvd_right _ _)
    rw [Int.natAbs_ediv_of_dvd hdv]; rfl
  rw [e3]
theorem y_r03_over {p : Prop} (h : p := by first | assumption | exact Lb_toL _ | omega | (simp; done) | first | (simp; omega) | (simp; done)) : p := h
theorem r03_over (s : SA) (n : Int) (t : SA) (d : Int) (hd : d ≠ 0) (hln : (toL (n.natAbs)).length ≤ 137438953472) (hld : (toL (d.natAbs)).length ≤ 137438953472) : Spec Try.prog 11 #[intV s (encZ n), intV t (encZ d)] [fU s (toL (n.natAbs)), fU t (toL (d.natAbs))] (ι := RA) (fun y => ratV y (encQ (((n : Int) : Rat) / ((d : Int) : Rat)))) (fun y => True) (fun y => [fRat y (encQ (((n : Int) : Rat) / ((d : Int) : Rat)))]) := by
 refine Spec.of_body _ (fn := Try.f11) k_ rfl k_ (fun X w0 => ?_)
 refine J.fact (φ := (toL (n.natAbs)).length ≤ 140737488355328) (fun w h => by have := (h _ (.head _)).1; omega) (fun hl1 => ?_)
 refine J.fact (φ := (toL (d.natAbs)).length ≤ 140737488355328) (fun w h => by have := (h _ (.tail _ ((.head _)))).1; omega) (fun hl2 => ?_)
 have hgl := length_toL_mono (Nat.gcd_le_right n.natAbs (show 0 < d.natAbs by omega))
 refine J.sreg ?_
 refine RN.new (fun b => pt b) (.cells #[.bool (decide (n < 0)), sl s (toL (n.natAbs)).length] 25 (0, 0)) k_ k_ (fun w => by kernel_rfl) (fun b3 => ?_)
 refine RN.new (fun b => pt b) (.cells #[.bool (decide (d < 0)), sl t (toL (d.natAbs)).length] 25 (0, 0)) k_ k_ (fun w => by kernel_rfl) (fun b4 => ?_)
 refine RN.new (fun b => pt b) (.cells (ratC (⟨saNil, saNil⟩ : RA) (⟨false, ([] : List Nat), ([] : List Nat)⟩ : Raw)) 27 (0, 0)) k_ k_ (fun w => by kernel_rfl) (fun b5 => ?_)
 refine RN.fin k_ ?_
 refine J.seq ?_
 refine J.sreg ?_
 refine RN.bq [some 1] [2, 3, 4, 12] [b4, b4] 1 [(2, pt b3), (3, pt b4), (4, pt b5), (12, intV t (encZ d))] k_ ?_
 refine RN.call (r02_Sign_c t d y_r03_over) [1] k_ k_ k_ rfl (fun y6 _ => ?_)
 refine RN.bq (no 1) [2, 3, 4, 14] [] 3 [(2, pt b3), (3, pt b4), (4, pt b5), (14, .bool (decide ((Int.sign d) < 0)))] k_ ?_
 refine RN.fin k_ ?_
 refine J.cond (decide ((Int.sign d) < 0)) k_ (fun c7 => ?_) (fun c7 => ?_)
 ·replace c7 := of_decide_eq_true c7
  have hs := sign_lt0 c7
  refine J.regD k_ [4, 5] ?_
  refine RD.bq [(0, some 2), (2, some 1)] [2, 3, 4, 15, 17] [b4, b4, b3, b3] [(2, pt b3), (3, pt b4), (4, pt b5), (15, intV s (encZ n)), (17, intV t (encZ d))] k_ k_ ?_
  refine RD.call (i := 1) (r02_Neg_c s n y_r03_over) [0] k_ k_ k_ k_ k_ rfl (fun y8 _ => ?_)
  refine RD.call (i := 3) (r02_Neg_c t d y_r03_over) [2] k_ k_ k_ k_ k_ rfl (fun y9 _ => ?_)
  refine RD.last (i := 4) (some 2) [2, 3, 4, 18] [b3, b3] k_ k_ k_ (l' := [(2, pt b3), (3, pt b4), (4, pt b5), (18, intV y9 (encZ (-d)))]) (M' := [(b5, .cells (ratC (⟨saNil, saNil⟩ : RA) (⟨false, ([] : List Nat), ([] : List Nat)⟩ : Raw)) 27 (0, 0)), (b4, .cells #[.bool (decide (d < 0)), sl t (toL (d.natAbs)).length] 25 (0, 0)), (b3, .cells #[.bool (decide ((-n) < 0)), sl y8 (toL ((-n).natAbs)).length] 25 (0, 0))]) k_ ?_
  refine RD.last (i := 5) (some 1) [2, 3, 4] [b4, b4] k_ k_ k_ (l' := [(2, pt b3), (3, pt b4), (4, pt b5)]) (M' := [(b5, .cells (ratC (⟨saNil, saNil⟩ : RA) (⟨false, ([] : List Nat), ([] : List Nat)⟩ : Raw)) 27 (0, 0)), (b4, .cells #[.bool (decide ((-d) < 0)), sl y9 (toL ((-d).natAbs)).length] 25 (0, 0)), (b3, .cells #[.bool (decide ((-n) < 0)), sl y8 (toL ((-n).natAbs)).length] 25 (0, 0))]) k_ ?_
  refine RD.done k_ ?_
  refine KN.next ?_
  refine J.sreg ?_
  refine RN.bq [some 2, some 1] [2, 3, 4, 19, 20] [b4, b4, b3, b3] 2 [(2, pt b3), (3, pt b4), (4, pt b5), (19, intV y8 (encZ (-n))), (20, intV y9 (encZ (-d)))] k_ ?_
  refine RN.call (r02_Gcd_c y8 (-n) y9 (-d) y_r03_over y_r03_over) [1, 0] k_ k_ k_ rfl (fun y10 _ => ?_)
  refine RN.bq (no 1) [2, 3, 4, 22] [] 4 [(2, pt b3), (3, pt b4), (4, pt b5), (22, intV y10 (encZ ((Nat.gcd ((-n).natAbs) ((-d).natAbs) : Nat) : Int)))] k_ ?_
  refine RN.new (fun b => pt b) (.cells #[.bool false, sl saNil ([] : List Nat).length] 25 (0, 0)) k_ k_ (fun w => by kernel_rfl) (fun b11 => ?_)
  refine RN.bs [some 0] [2, 3, 4, 5] [b11, b11] 6 [(2, pt b3), (3, pt b4), (4, pt b5), (5, pt b11)] ([(b11, .cells #[.bool false, sl y10 (toL (Nat.gcd ((-n).natAbs) ((-d).natAbs))).length] 25 (0, 0)), (b5, .cells (ratC (⟨saNil, saNil⟩ : RA) (⟨false, ([] : List Nat), ([] : List Nat)⟩ : Raw)) 27 (0, 0)), (b4, .cells #[.bool (decide ((-d) < 0)), sl y9 (toL ((-d).natAbs)).length] 25 (0, 0)), (b3, .cells #[.bool (decide ((-n) < 0)), sl y8 (toL ((-n).natAbs)).length] 25 (0, 0))]) k_ ?_
  refine RN.fs k_ ?_
  refine RN.bq [some 3, some 0] [3, 4, 5, 24, 25] [b11, b11, b3, b3] 2 [(3, pt b4), (4, pt b5), (5, pt b11), (24, intV y8 (encZ (-n))), (25, intV y10 (encZ ((Nat.gcd ((-n).natAbs) ((-d).natAbs) : Nat) : Int)))] k_ ?_
  refine RN.call (r02_Div_c y8 (-n) y10 ((Nat.gcd ((-n).natAbs) ((-d).natAbs) : Nat) : Int) y_r03_over y_r03_over) [2, 0] k_ k_ k_ rfl (fun y12 _ => ?_)
  refine RN.bq (no 4) [3, 4, 5, 27, 28, 29] [] 7 [(3, pt b4), (4, pt b5), (5, pt b11), (27, intV y12.1 (encZ ((-n) / ((Nat.gcd ((-n).natAbs) ((-d).natAbs) : Nat) : Int)))), (28, intV y12.2 (encZ (if ((Nat.gcd ((-n).natAbs) ((-d).natAbs) : Nat) : Int) = 0 then 0 else (-n) % ((Nat.gcd ((-n).natAbs) ((-d).natAbs) : Nat) : Int)))), (29, .bool (decide (((Nat.gcd ((-n).natAbs) ((-d).natAbs) : Nat) : Int) ≠ 0)))] k_ ?_
  refine RN.new (fun b => pt b) (.cells #[.bool false, sl saNil ([] : List Nat).length] 25 (0, 0)) k_ k_ (fun w => by kernel_rfl) (fun b13 => ?_)
  refine RN.new (fun b => pt b) (.cells #[.bool false, sl saNil ([] : List Nat).length] 25 (0, 0)) k_ k_ (fun w => by kernel_rfl) (fun b14 => ?_)
  refine RN.bs [some 1, some 0, none] [3, 4, 5, 6] [b14, b14, b13, b13] 12 [(3, pt b4), (4, pt b5), (5, pt b11), (6, pt b13)] ([(b14, .cells #[.bool (decide ((if ((Nat.gcd ((-n).natAbs) ((-d).natAbs) : Nat) : Int) = 0 then 0 else (-n) % ((Nat.gcd ((-n).natAbs) ((-d).natAbs) : Nat) : Int)) < 0)), sl y12.2 (toL ((if ((Nat.gcd ((-n).natAbs) ((-d).natAbs) : Nat) : Int) = 0 then 0 else (-n) % ((Nat.gcd ((-n).natAbs) ((-d).natAbs) : Nat) : Int)).natAbs)).length] 25 (0, 0)), (b13, .cells #[.bool (decide (((-n) / ((Nat.gcd ((-n).natAbs) ((-d).natAbs) : Nat) : Int)) < 0)), sl y12.1 (toL (((-n) / ((Nat.gcd ((-n).natAbs) ((-d).natAbs) : Nat) : Int)).natAbs)).length] 25 (0, 0)), (b11, .cells #[.bool false, sl y10 (toL (Nat.gcd ((-n).natAbs) ((-d).natAbs))).length] 25 (0, 0)), (b5, .cells (ratC (⟨saNil, saNil⟩ : RA) (⟨false, ([] : List Nat), ([] : List Nat)⟩ : Raw)) 27 (0, 0)), (b4, .cells #[.bool (decide ((-d) < 0)), sl y9 (toL ((-d).natAbs)).length] 25 (0, 0)), (b3, .cells #[.bool (decide ((-n) < 0)), sl y8 (toL ((-n).natAbs)).length] 25 (0, 0))]) k_ ?_
  refine RN.fs k_ ?_
  refine RN.bq [some 4, some 2] [4, 6, 31, 32] [b11, b11, b4, b4] 2 [(4, pt b5), (6, pt b13), (31, intV y9 (encZ (-d))), (32, intV y10 (encZ ((Nat.gcd ((-n).natAbs) ((-d).natAbs) : Nat) : Int)))] k_ ?_
  refine RN.call (r02_Div_c y9 (-d) y10 ((Nat.gcd ((-n).natAbs) ((-d).natAbs) : Nat) : Int) y_r03_over y_r03_over) [3, 2] k_ k_ k_ rfl (fun y15 _ => ?_)
  refine RN.bq (no 4) [4, 6, 34, 35, 36] [] 7 [(4, pt b5), (6, pt b13), (34, intV y15.1 (encZ ((-d) / ((Nat.gcd ((-n).natAbs) ((-d).natAbs) : Nat) : Int)))), (35, intV y15.2 (encZ (if ((Nat.gcd ((-n).natAbs) ((-d).natAbs) : Nat) : Int) = 0 then 0 else (-d) % ((Nat.gcd ((-n).natAbs) ((-d).natAbs) : Nat) : Int)))), (36, .bool (decide (((Nat.gcd ((-n).natAbs) ((-d).natAbs) : Nat) : Int) ≠ 0)))] k_ ?_
  refine RN.new (fun b => pt b) (.cells #[.bool false, sl saNil ([] : List Nat).length] 25 (0, 0)) k_ k_ (fun w => by kernel_rfl) (fun b16 => ?_)
  refine RN.new (fun b => pt b) (.cells #[.bool false, sl saNil ([] : List Nat).length] 25 (0, 0)) k_ k_ (fun w => by kernel_rfl) (fun b17 => ?_)
  refine RN.bs [some 1, some 0, none] [4, 6, 9] [b17, b17, b16, b16] 12 [(4, pt b5), (6, pt b13), (9, pt b16)] ([(b17, .cells #[.bool (decide ((if ((Nat.gcd ((-n).natAbs) ((-d).natAbs) : Nat) : Int) = 0 then 0 else (-d) % ((Nat.gcd ((-n).natAbs) ((-d).natAbs) : Nat) : Int)) < 0)), sl y15.2 (toL ((if ((Nat.gcd ((-n).natAbs) ((-d).natAbs) : Nat) : Int) = 0 then 0 else (-d) % ((Nat.gcd ((-n).natAbs) ((-d).natAbs) : Nat) : Int)).natAbs)).length] 25 (0, 0)), (b16, .cells #[.bool (decide (((-d) / ((Nat.gcd ((-n).natAbs) ((-d).natAbs) : Nat) : Int)) < 0)), sl y15.1 (toL (((-d) / ((Nat.gcd ((-n).natAbs) ((-d).natAbs) : Nat) : Int)).natAbs)).length] 25 (0, 0)), (b14, .cells #[.bool (decide ((if ((Nat.gcd ((-n).natAbs) ((-d).natAbs) : Nat) : Int) = 0 then 0 else (-n) % ((Nat.gcd ((-n).natAbs) ((-d).natAbs) : Nat) : Int)) < 0)), sl y12.2 (toL ((if ((Nat.gcd ((-n).natAbs) ((-d).natAbs) : Nat) : Int) = 0 then 0 else (-n) % ((Nat.gcd ((-n).natAbs) ((-d).natAbs) : Nat) : Int)).natAbs)).length] 25 (0, 0)), (b13, .cells #[.bool (decide (((-n) / ((Nat.gcd ((-n).natAbs) ((-d).natAbs) : Nat) : Int)) < 0)), sl y12.1 (toL (((-n) / ((Nat.gcd ((-n).natAbs) ((-d).natAbs) : Nat) : Int)).natAbs)).length] 25 (0, 0)), (b11, .cells #[.bool false, sl y10 (toL (Nat.gcd ((-n).natAbs) ((-d).natAbs))).length] 25 (0, 0)), (b5, .cells (ratC (⟨saNil, saNil⟩ : RA) (⟨false, ([] : List Nat), ([] : List Nat)⟩ : Raw)) 27 (0, 0)), (b4, .cells #[.bool (decide ((-d) < 0)), sl y9 (toL ((-d).natAbs)).length] 25 (0, 0)), (b3, .cells #[.bool (decide ((-n) < 0)), sl y8 (toL ((-n).natAbs)).length] 25 (0, 0))]) k_ ?_
  refine RN.fin k_ ?_
  refine J.seq ?_
  refine J.sreg ?_
  refine RN.bq [none, some 1] [4, 6, 9, 38] [b16] 2 [(4, pt b5), (6, pt b13), (9, pt b16), (38, sl y15.1 (toL (((-d) / ((Nat.gcd ((-n).natAbs) ((-d).natAbs) : Nat) : Int)).natAbs)).length)] k_ ?_
  refine RN.call (r03_one y15.1 (toL (((-d) / ((Nat.gcd ((-n).natAbs) ((-d).natAbs) : Nat) : Int)).natAbs))) [0] k_ k_ k_ rfl (fun y18 _ => ?_)
  refine RN.fin k_ ?_
  refine J.cond (decide ((toL (((-d) / ((Nat.gcd ((-n).natAbs) ((-d).natAbs) : Nat) : Int)).natAbs)) = [1])) k_ (fun c19 => ?_) (fun c19 => ?_)
  ·replace c19 := of_decide_eq_true c19
   have ho := toL_eq1.1 c19
   refine J.regN ?_
   refine RN.bs [none, some 1] [4, 6, 9] [b16] 2 [(4, pt b5), (6, pt b13), (9, pt b16)] ([(b17, .cells #[.bool (decide ((if ((Nat.gcd ((-n).natAbs) ((-d).natAbs) : Nat) : Int) = 0 then 0 else (-d) % ((Nat.gcd ((-n).natAbs) ((-d).natAbs) : Nat) : Int)) < 0)), sl y15.2 (toL ((if ((Nat.gcd ((-n).natAbs) ((-d).natAbs) : Nat) : Int) = 0 then 0 else (-d) % ((Nat.gcd ((-n).natAbs) ((-d).natAbs) : Nat) : Int)).natAbs)).length] 25 (0, 0)), (b16, .cells #[.bool (decide (((-d) / ((Nat.gcd ((-n).natAbs) ((-d).natAbs) : Nat) : Int)) < 0)), sl saNil ([] : List Nat).length] 25 (0, 0)), (b14, .cells #[.bool (decide ((if ((Nat.gcd ((-n).natAbs) ((-d).natAbs) : Nat) : Int) = 0 then 0 else (-n) % ((Nat.gcd ((-n).natAbs) ((-d).natAbs) : Nat) : Int)) < 0)), sl y12.2 (toL ((if ((Nat.gcd ((-n).natAbs) ((-d).natAbs) : Nat) : Int) = 0 then 0 else (-n) % ((Nat.gcd ((-n).natAbs) ((-d).natAbs) : Nat) : Int)).natAbs)).length] 25 (0, 0)), (b13, .cells #[.bool (decide (((-n) / ((Nat.gcd ((-n).natAbs) ((-d).natAbs) : Nat) : Int)) < 0)), sl y12.1 (toL (((-n) / ((Nat.gcd ((-n).natAbs) ((-d).natAbs) : Nat) : Int)).natAbs)).length] 25 (0, 0)), (b11, .cells #[.bool false, sl y10 (toL (Nat.gcd ((-n).natAbs) ((-d).natAbs))).length] 25 (0, 0)), (b5, .cells (ratC (⟨saNil, saNil⟩ : RA) (⟨false, ([] : List Nat), ([] : List Nat)⟩ : Raw)) 27 (0, 0)), (b4, .cells #[.bool (decide ((-d) < 0)), sl y9 (toL ((-d).natAbs)).length] 25 (0, 0)), (b3, .cells #[.bool (decide ((-n) < 0)), sl y8 (toL ((-n).natAbs)).length] 25 (0, 0))]) k_ ?_
   refine RN.fs k_ ?_
   refine RN.bs [some 3, none, some 1, none, some 5] [4] [b5, b5, b5, b16, b13, b13] 5 [(4, pt b5)] ([(b17, .cells #[.bool (decide ((if ((Nat.gcd ((-n).natAbs) ((-d).natAbs) : Nat) : Int) = 0 then 0 else (-d) % ((Nat.gcd ((-n).natAbs) ((-d).natAbs) : Nat) : Int)) < 0)), sl y15.2 (toL ((if ((Nat.gcd ((-n).natAbs) ((-d).natAbs) : Nat) : Int) = 0 then 0 else (-d) % ((Nat.gcd ((-n).natAbs) ((-d).natAbs) : Nat) : Int)).natAbs)).length] 25 (0, 0)), (b16, .cells #[.bool (decide (((-d) / ((Nat.gcd ((-n).natAbs) ((-d).natAbs) : Nat) : Int)) < 0)), sl saNil ([] : List Nat).length] 25 (0, 0)), (b14, .cells #[.bool (decide ((if ((Nat.gcd ((-n).natAbs) ((-d).natAbs) : Nat) : Int) = 0 then 0 else (-n) % ((Nat.gcd ((-n).natAbs) ((-d).natAbs) : Nat) : Int)) < 0)), sl y12.2 (toL ((if ((Nat.gcd ((-n).natAbs) ((-d).natAbs) : Nat) : Int) = 0 then 0 else (-n) % ((Nat.gcd ((-n).natAbs) ((-d).natAbs) : Nat) : Int)).natAbs)).length] 25 (0, 0)), (b13, .cells #[.bool (decide (((-n) / ((Nat.gcd ((-n).natAbs) ((-d).natAbs) : Nat) : Int)) < 0)), sl y12.1 (toL (((-n) / ((Nat.gcd ((-n).natAbs) ((-d).natAbs) : Nat) : Int)).natAbs)).length] 25 (0, 0)), (b11, .cells #[.bool false, sl y10 (toL (Nat.gcd ((-n).natAbs) ((-d).natAbs))).length] 25 (0, 0)), (b5, .cells (ratC (⟨y12.1, saNil⟩ : RA) (⟨decide (((-n) / ((Nat.gcd ((-n).natAbs) ((-d).natAbs) : Nat) : Int)) < 0), toL (((-n) / ((Nat.gcd ((-n).natAbs) ((-d).natAbs) : Nat) : Int)).natAbs), ([] : List Nat)⟩ : Raw)) 27 (0, 0)), (b4, .cells #[.bool (decide ((-d) < 0)), sl y9 (toL ((-d).natAbs)).length] 25 (0, 0)), (b3, .cells #[.bool (decide ((-n) < 0)), sl y8 (toL ((-n).natAbs)).length] 25 (0, 0))]) k_ ?_
   refine RN.fin k_ ?_
   have e_1 : (encQ (((n : Int) : Rat) / ((d : Int) : Rat))) = (⟨decide (((-n) / ((Nat.gcd ((-n).natAbs) ((-d).natAbs) : Nat) : Int)) < 0), toL (((-n) / ((Nat.gcd ((-n).natAbs) ((-d).natAbs) : Nat) : Int)).natAbs), ([] : List Nat)⟩ : Raw) := by rw [neg_div hs, over_pos (by omega), ho, toD_one]
   have e_2 : (toL (((((n : Int) : Rat) / ((d : Int) : Rat)).num).natAbs)) = (toL (((-n) / ((Nat.gcd ((-n).natAbs) ((-d).natAbs) : Nat) : Int)).natAbs)) := congrArg Raw.mag e_1
   have e_3 : (toD ((((n : Int) : Rat) / ((d : Int) : Rat)).den)) = ([] : List Nat) := congrArg Raw.den e_1
   refine J.also (fRat (⟨y12.1, saNil⟩ : RA) (⟨decide (((-n) / ((Nat.gcd ((-n).natAbs) ((-d).natAbs) : Nat) : Int)) < 0), toL (((-n) / ((Nat.gcd ((-n).natAbs) ((-d).natAbs) : Nat) : Int)).natAbs), ([] : List Nat)⟩ : Raw)) (fun w h => ⟨(h _ (.tail _ ((.tail _ ((.head _)))))), fU_nil w⟩) ?_
   refine J.ret (KR.ret (v := ratV (⟨y12.1, saNil⟩ : RA) (⟨decide (((-n) / ((Nat.gcd ((-n).natAbs) ((-d).natAbs) : Nat) : Int)) < 0), toL (((-n) / ((Nat.gcd ((-n).natAbs) ((-d).natAbs) : Nat) : Int)).natAbs), ([] : List Nat)⟩ : Raw)) (⟨y12.1, saNil⟩) [some 5] [0] [b5, b5, b5] k_ (by first | rfl | (rw [e_1]; done) | (simp only [e_1]; done) | (rw [e_2, e_3]; done) | (rw [e_1, e_2, e_3]; rfl) | (simp only [e_1, e_2, e_3]; done) | (simp only [e_1, e_2, e_3]; rfl)) (trivial) (by first | rfl | (rw [e_1]; done) | (simp only [e_1]; done) | (rw [e_2, e_3]; done) | (rw [e_1, e_2, e_3]; rfl) | (simp only [e_1, e_2, e_3]; done) | (simp only [e_1, e_2, e_3]; rfl)))
  ·replace c19 := of_decide_eq_false c19
   have ho := mt toL_eq1.2 c19
   refine J.skip ?_
   refine KN.next ?_
   refine J.sreg ?_
   refine RN.bs [some 3, none, some 1, none, some 5] [4] [b5, b5, b5, b16, b13, b13] 5 [(4, pt b5)] ([(b17, .cells #[.bool (decide ((if ((Nat.gcd ((-n).natAbs) ((-d).natAbs) : Nat) : Int) = 0 then 0 else (-d) % ((Nat.gcd ((-n).natAbs) ((-d).natAbs) : Nat) : Int)) < 0)), sl y15.2 (toL ((if ((Nat.gcd ((-n).natAbs) ((-d).natAbs) : Nat) : Int) = 0 then 0 else (-d) % ((Nat.gcd ((-n).natAbs) ((-d).natAbs) : Nat) : Int)).natAbs)).length] 25 (0, 0)), (b16, .cells #[.bool (decide (((-d) / ((Nat.gcd ((-n).natAbs) ((-d).natAbs) : Nat) : Int)) < 0)), sl y15.1 (toL (((-d) / ((Nat.gcd ((-n).natAbs) ((-d).natAbs) : Nat) : Int)).natAbs)).length] 25 (0, 0)), (b14, .cells #[.bool (decide ((if ((Nat.gcd ((-n).natAbs) ((-d).natAbs) : Nat) : Int) = 0 then 0 else (-n) % ((Nat.gcd ((-n).natAbs) ((-d).natAbs) : Nat) : Int)) < 0)), sl y12.2 (toL ((if ((Nat.gcd ((-n).natAbs) ((-d).natAbs) : Nat) : Int) = 0 then 0 else (-n) % ((Nat.gcd ((-n).natAbs) ((-d).natAbs) : Nat) : Int)).natAbs)).length] 25 (0, 0)), (b13, .cells #[.bool (decide (((-n) / ((Nat.gcd ((-n).natAbs) ((-d).natAbs) : Nat) : Int)) < 0)), sl y12.1 (toL (((-n) / ((Nat.gcd ((-n).natAbs) ((-d).natAbs) : Nat) : Int)).natAbs)).length] 25 (0, 0)), (b11, .cells #[.bool false, sl y10 (toL (Nat.gcd ((-n).natAbs) ((-d).natAbs))).length] 25 (0, 0)), (b5, .cells (ratC (⟨y12.1, y15.1⟩ : RA) (⟨decide (((-n) / ((Nat.gcd ((-n).natAbs) ((-d).natAbs) : Nat) : Int)) < 0), toL (((-n) / ((Nat.gcd ((-n).natAbs) ((-d).natAbs) : Nat) : Int)).natAbs), toL (((-d) / ((Nat.gcd ((-n).natAbs) ((-d).natAbs) : Nat) : Int)).natAbs)⟩ : Raw)) 27 (0, 0)), (b4, .cells #[.bool (decide ((-d) < 0)), sl y9 (toL ((-d).natAbs)).length] 25 (0, 0)), (b3, .cells #[.bool (decide ((-n) < 0)), sl y8 (toL ((-n).natAbs)).length] 25 (0, 0))]) k_ ?_
   refine RN.fin k_ ?_
   have e_1 : (encQ (((n : Int) : Rat) / ((d : Int) : Rat))) = (⟨decide (((-n) / ((Nat.gcd ((-n).natAbs) ((-d).natAbs) : Nat) : Int)) < 0), toL (((-n) / ((Nat.gcd ((-n).natAbs) ((-d).natAbs) : Nat) : Int)).natAbs), toL (((-d) / ((Nat.gcd ((-n).natAbs) ((-d).natAbs) : Nat) : Int)).natAbs)⟩ : Raw) := by rw [neg_div hs, over_pos (by omega), toD_ne ho]
   have e_2 : (toL (((((n : Int) : Rat) / ((d : Int) : Rat)).num).natAbs)) = (toL (((-n) / ((Nat.gcd ((-n).natAbs) ((-d).natAbs) : Nat) : Int)).natAbs)) := congrArg Raw.mag e_1
   have e_3 : (toD ((((n : Int) : Rat) / ((d : Int) : Rat)).den)) = (toL (((-d) / ((Nat.gcd ((-n).natAbs) ((-d).natAbs) : Nat) : Int)).natAbs)) := congrArg Raw.den e_1
   refine J.also (fRat (⟨y12.1, y15.1⟩ : RA) (⟨decide (((-n) / ((Nat.gcd ((-n).natAbs) ((-d).natAbs) : Nat) : Int)) < 0), toL (((-n) / ((Nat.gcd ((-n).natAbs) ((-d).natAbs) : Nat) : Int)).natAbs), toL (((-d) / ((Nat.gcd ((-n).natAbs) ((-d).natAbs) : Nat) : Int)).natAbs)⟩ : Raw)) (fun w h => ⟨(h _ (.tail _ ((.tail _ ((.head _)))))), (h _ (.head _))⟩) ?_
   refine J.ret (KR.ret (v := ratV (⟨y12.1, y15.1⟩ : RA) (⟨decide (((-n) / ((Nat.gcd ((-n).natAbs) ((-d).natAbs) : Nat) : Int)) < 0), toL (((-n) / ((Nat.gcd ((-n).natAbs) ((-d).natAbs) : Nat) : Int)).natAbs), toL (((-d) / ((Nat.gcd ((-n).natAbs) ((-d).natAbs) : Nat) : Int)).natAbs)⟩ : Raw)) (⟨y12.1, y15.1⟩) [some 5] [0] [b5, b5, b5] k_ (by first | rfl | (rw [e_1]; done) | (simp only [e_1]; done) | (rw [e_2, e_3]; done) | (rw [e_1, e_2, e_3]; rfl) | (simp only [e_1, e_2, e_3]; done) | (simp only [e_1, e_2, e_3]; rfl)) (trivial) (by first | rfl | (rw [e_1]; done) | (simp only [e_1]; done) | (rw [e_2, e_3]; done) | (rw [e_1, e_2, e_3]; rfl) | (simp only [e_1, e_2, e_3]; done) | (simp only [e_1, e_2, e_3]; rfl)))
 ·replace c7 := of_decide_eq_false c7
  have hs := sign_nlt0 c7 hd
  refine J.skip ?_
  refine KN.next ?_
  refine J.sreg ?_
  refine RN.bq [some 2, some 1] [2, 3, 4, 19, 20] [b4, b4, b3, b3] 2 [(2, pt b3), (3, pt b4), (4, pt b5), (19, intV s (encZ n)), (20, intV t (encZ d))] k_ ?_
  refine RN.call (r02_Gcd_c s n t d y_r03_over y_r03_over) [0, 1] k_ k_ k_ rfl (fun y20 _ => ?_)
  refine RN.bq (no 1) [2, 3, 4, 22] [] 4 [(2, pt b3), (3, pt b4), (4, pt b5), (22, intV y20 (encZ ((Nat.gcd (n.natAbs) (d.natAbs) : Nat) : Int)))] k_ ?_
  refine RN.new (fun b => pt b) (.cells #[.bool false, sl saNil ([] : List Nat).length] 25 (0, 0)) k_ k_ (fun w => by kernel_rfl) (fun b21 => ?_)
  refine RN.bs [some 0] [2, 3, 4, 5] [b21, b21] 6 [(2, pt b3), (3, pt b4), (4, pt b5), (5, pt b21)] ([(b21, .cells #[.bool false, sl y20 (toL (Nat.gcd (n.natAbs) (d.natAbs))).length] 25 (0, 0)), (b5, .cells (ratC (⟨saNil, saNil⟩ : RA) (⟨false, ([] : List Nat), ([] : List Nat)⟩ : Raw)) 27 (0, 0)), (b4, .cells #[.bool (decide (d < 0)), sl t (toL (d.natAbs)).length] 25 (0, 0)), (b3, .cells #[.bool (decide (n < 0)), sl s (toL (n.natAbs)).length] 25 (0, 0))]) k_ ?_
  refine RN.fs k_ ?_
  refine RN.bq [some 3, some 0] [3, 4, 5, 24, 25] [b21, b21, b3, b3] 2 [(3, pt b4), (4, pt b5), (5, pt b21), (24, intV s (encZ n)), (25, intV y20 (encZ ((Nat.gcd (n.natAbs) (d.natAbs) : Nat) : Int)))] k_ ?_
  refine RN.call (r02_Div_c s n y20 ((Nat.gcd (n.natAbs) (d.natAbs) : Nat) : Int) y_r03_over y_r03_over) [1, 0] k_ k_ k_ rfl (fun y22 _ => ?_)
  refine RN.bq (no 4) [3, 4, 5, 27, 28, 29] [] 7 [(3, pt b4), (4, pt b5), (5, pt b21), (27, intV y22.1 (encZ (n / ((Nat.gcd (n.natAbs) (d.natAbs) : Nat) : Int)))), (28, intV y22.2 (encZ (if ((Nat.gcd (n.natAbs) (d.natAbs) : Nat) : Int) = 0 then 0 else n % ((Nat.gcd (n.natAbs) (d.natAbs) : Nat) : Int)))), (29, .bool (decide (((Nat.gcd (n.natAbs) (d.natAbs) : Nat) : Int) ≠ 0)))] k_ ?_
  refine RN.new (fun b => pt b) (.cells #[.bool false, sl saNil ([] : List Nat).length] 25 (0, 0)) k_ k_ (fun w => by kernel_rfl) (fun b23 => ?_)
  refine RN.new (fun b => pt b) (.cells #[.bool false, sl saNil ([] : List Nat).length] 25 (0, 0)) k_ k_ (fun w => by kernel_rfl) (fun b24 => ?_)
  refine RN.bs [some 1, some 0, none] [3, 4, 5, 6] [b24, b24, b23, b23] 12 [(3, pt b4), (4, pt b5), (5, pt b21), (6, pt b23)] ([(b24, .cells #[.bool (decide ((if ((Nat.gcd (n.natAbs) (d.natAbs) : Nat) : Int) = 0 then 0 else n % ((Nat.gcd (n.natAbs) (d.natAbs) : Nat) : Int)) < 0)), sl y22.2 (toL ((if ((Nat.gcd (n.natAbs) (d.natAbs) : Nat) : Int) = 0 then 0 else n % ((Nat.gcd (n.natAbs) (d.natAbs) : Nat) : Int)).natAbs)).length] 25 (0, 0)), (b23, .cells #[.bool (decide ((n / ((Nat.gcd (n.natAbs) (d.natAbs) : Nat) : Int)) < 0)), sl y22.1 (toL ((n / ((Nat.gcd (n.natAbs) (d.natAbs) : Nat) : Int)).natAbs)).length] 25 (0, 0)), (b21, .cells #[.bool false, sl y20 (toL (Nat.gcd (n.natAbs) (d.natAbs))).length] 25 (0, 0)), (b5, .cells (ratC (⟨saNil, saNil⟩ : RA) (⟨false, ([] : List Nat), ([] : List Nat)⟩ : Raw)) 27 (0, 0)), (b4, .cells #[.bool (decide (d < 0)), sl t (toL (d.natAbs)).length] 25 (0, 0)), (b3, .cells #[.bool (decide (n < 0)), sl s (toL (n.natAbs)).length] 25 (0, 0))]) k_ ?_
  refine RN.fs k_ ?_
  refine RN.bq [some 4, some 2] [4, 6, 31, 32] [b21, b21, b4, b4] 2 [(4, pt b5), (6, pt b23), (31, intV t (encZ d)), (32, intV y20 (encZ ((Nat.gcd (n.natAbs) (d.natAbs) : Nat) : Int)))] k_ ?_
  refine RN.call (r02_Div_c t d y20 ((Nat.gcd (n.natAbs) (d.natAbs) : Nat) : Int) y_r03_over y_r03_over) [4, 2] k_ k_ k_ rfl (fun y25 _ => ?_)
  refine RN.bq (no 4) [4, 6, 34, 35, 36] [] 7 [(4, pt b5), (6, pt b23), (34, intV y25.1 (encZ (d / ((Nat.gcd (n.natAbs) (d.natAbs) : Nat) : Int)))), (35, intV y25.2 (encZ (if ((Nat.gcd (n.natAbs) (d.natAbs) : Nat) : Int) = 0 then 0 else d % ((Nat.gcd (n.natAbs) (d.natAbs) : Nat) : Int)))), (36, .bool (decide (((Nat.gcd (n.natAbs) (d.natAbs) : Nat) : Int) ≠ 0)))] k_ ?_
  refine RN.new (fun b => pt b) (.cells #[.bool false, sl saNil ([] : List Nat).length] 25 (0, 0)) k_ k_ (fun w => by kernel_rfl) (fun b26 => ?_)
  refine RN.new (fun b => pt b) (.cells #[.bool false, sl saNil ([] : List Nat).length] 25 (0, 0)) k_ k_ (fun w => by kernel_rfl) (fun b27 => ?_)
  refine RN.bs [some 1, some 0, none] [4, 6, 9] [b27, b27, b26, b26] 12 [(4, pt b5), (6, pt b23), (9, pt b26)] ([(b27, .cells #[.bool (decide ((if ((Nat.gcd (n.natAbs) (d.natAbs) : Nat) : Int) = 0 then 0 else d % ((Nat.gcd (n.natAbs) (d.natAbs) : Nat) : Int)) < 0)), sl y25.2 (toL ((if ((Nat.gcd (n.natAbs) (d.natAbs) : Nat) : Int) = 0 then 0 else d % ((Nat.gcd (n.natAbs) (d.natAbs) : Nat) : Int)).natAbs)).length] 25 (0, 0)), (b26, .cells #[.bool (decide ((d / ((Nat.gcd (n.natAbs) (d.natAbs) : Nat) : Int)) < 0)), sl y25.1 (toL ((d / ((Nat.gcd (n.natAbs) (d.natAbs) : Nat) : Int)).natAbs)).length] 25 (0, 0)), (b24, .cells #[.bool (decide ((if ((Nat.gcd (n.natAbs) (d.natAbs) : Nat) : Int) = 0 then 0 else n % ((Nat.gcd (n.natAbs) (d.natAbs) : Nat) : Int)) < 0)), sl y22.2 (toL ((if ((Nat.gcd (n.natAbs) (d.natAbs) : Nat) : Int) = 0 then 0 else n % ((Nat.gcd (n.natAbs) (d.natAbs) : Nat) : Int)).natAbs)).length] 25 (0, 0)), (b23, .cells #[.bool (decide ((n / ((Nat.gcd (n.natAbs) (d.natAbs) : Nat) : Int)) < 0)), sl y22.1 (toL ((n / ((Nat.gcd (n.natAbs) (d.natAbs) : Nat) : Int)).natAbs)).length] 25 (0, 0)), (b21, .cells #[.bool false, sl y20 (toL (Nat.gcd (n.natAbs) (d.natAbs))).length] 25 (0, 0)), (b5, .cells (ratC (⟨saNil, saNil⟩ : RA) (⟨false, ([] : List Nat), ([] : List Nat)⟩ : Raw)) 27 (0, 0)), (b4, .cells #[.bool (decide (d < 0)), sl t (toL (d.natAbs)).length] 25 (0, 0)), (b3, .cells #[.bool (decide (n < 0)), sl s (toL (n.natAbs)).length] 25 (0, 0))]) k_ ?_
  refine RN.fin k_ ?_
  refine J.seq ?_
  refine J.sreg ?_
  refine RN.bq [none, some 1] [4, 6, 9, 38] [b26] 2 [(4, pt b5), (6, pt b23), (9, pt b26), (38, sl y25.1 (toL ((d / ((Nat.gcd (n.natAbs) (d.natAbs) : Nat) : Int)).natAbs)).length)] k_ ?_
  refine RN.call (r03_one y25.1 (toL ((d / ((Nat.gcd (n.natAbs) (d.natAbs) : Nat) : Int)).natAbs))) [0] k_ k_ k_ rfl (fun y28 _ => ?_)
  refine RN.fin k_ ?_
  refine J.cond (decide ((toL ((d / ((Nat.gcd (n.natAbs) (d.natAbs) : Nat) : Int)).natAbs)) = [1])) k_ (fun c29 => ?_) (fun c29 => ?_)
  ·replace c29 := of_decide_eq_true c29
   have ho := toL_eq1.1 c29
   refine J.regN ?_
   refine RN.bs [none, some 1] [4, 6, 9] [b26] 2 [(4, pt b5), (6, pt b23), (9, pt b26)] ([(b27, .cells #[.bool (decide ((if ((Nat.gcd (n.natAbs) (d.natAbs) : Nat) : Int) = 0 then 0 else d % ((Nat.gcd (n.natAbs) (d.natAbs) : Nat) : Int)) < 0)), sl y25.2 (toL ((if ((Nat.gcd (n.natAbs) (d.natAbs) : Nat) : Int) = 0 then 0 else d % ((Nat.gcd (n.natAbs) (d.natAbs) : Nat) : Int)).natAbs)).length] 25 (0, 0)), (b26, .cells #[.bool (decide ((d / ((Nat.gcd (n.natAbs) (d.natAbs) : Nat) : Int)) < 0)), sl saNil ([] : List Nat).length] 25 (0, 0)), (b24, .cells #[.bool (decide ((if ((Nat.gcd (n.natAbs) (d.natAbs) : Nat) : Int) = 0 then 0 else n % ((Nat.gcd (n.natAbs) (d.natAbs) : Nat) : Int)) < 0)), sl y22.2 (toL ((if ((Nat.gcd (n.natAbs) (d.natAbs) : Nat) : Int) = 0 then 0 else n % ((Nat.gcd (n.natAbs) (d.natAbs) : Nat) : Int)).natAbs)).length] 25 (0, 0)), (b23, .cells #[.bool (decide ((n / ((Nat.gcd (n.natAbs) (d.natAbs) : Nat) : Int)) < 0)), sl y22.1 (toL ((n / ((Nat.gcd (n.natAbs) (d.natAbs) : Nat) : Int)).natAbs)).length] 25 (0, 0)), (b21, .cells #[.bool false, sl y20 (toL (Nat.gcd (n.natAbs) (d.natAbs))).length] 25 (0, 0)), (b5, .cells (ratC (⟨saNil, saNil⟩ : RA) (⟨false, ([] : List Nat), ([] : List Nat)⟩ : Raw)) 27 (0, 0)), (b4, .cells #[.bool (decide (d < 0)), sl t (toL (d.natAbs)).length] 25 (0, 0)), (b3, .cells #[.bool (decide (n < 0)), sl s (toL (n.natAbs)).length] 25 (0, 0))]) k_ ?_
   refine RN.fs k_ ?_
   refine RN.bs [some 3, none, some 1, none, some 5] [4] [b5, b5, b5, b26, b23, b23] 5 [(4, pt b5)] ([(b27, .cells #[.bool (decide ((if ((Nat.gcd (n.natAbs) (d.natAbs) : Nat) : Int) = 0 then 0 else d % ((Nat.gcd (n.natAbs) (d.natAbs) : Nat) : Int)) < 0)), sl y25.2 (toL ((if ((Nat.gcd (n.natAbs) (d.natAbs) : Nat) : Int) = 0 then 0 else d % ((Nat.gcd (n.natAbs) (d.natAbs) : Nat) : Int)).natAbs)).length] 25 (0, 0)), (b26, .cells #[.bool (decide ((d / ((Nat.gcd (n.natAbs) (d.natAbs) : Nat) : Int)) < 0)), sl saNil ([] : List Nat).length] 25 (0, 0)), (b24, .cells #[.bool (decide ((if ((Nat.gcd (n.natAbs) (d.natAbs) : Nat) : Int) = 0 then 0 else n % ((Nat.gcd (n.natAbs) (d.natAbs) : Nat) : Int)) < 0)), sl y22.2 (toL ((if ((Nat.gcd (n.natAbs) (d.natAbs) : Nat) : Int) = 0 then 0 else n % ((Nat.gcd (n.natAbs) (d.natAbs) : Nat) : Int)).natAbs)).length] 25 (0, 0)), (b23, .cells #[.bool (decide ((n / ((Nat.gcd (n.natAbs) (d.natAbs) : Nat) : Int)) < 0)), sl y22.1 (toL ((n / ((Nat.gcd (n.natAbs) (d.natAbs) : Nat) : Int)).natAbs)).length] 25 (0, 0)), (b21, .cells #[.bool false, sl y20 (toL (Nat.gcd (n.natAbs) (d.natAbs))).length] 25 (0, 0)), (b5, .cells (ratC (⟨y22.1, saNil⟩ : RA) (⟨decide ((n / ((Nat.gcd (n.natAbs) (d.natAbs) : Nat) : Int)) < 0), toL ((n / ((Nat.gcd (n.natAbs) (d.natAbs) : Nat) : Int)).natAbs), ([] : List Nat)⟩ : Raw)) 27 (0, 0)), (b4, .cells #[.bool (decide (d < 0)), sl t (toL (d.natAbs)).length] 25 (0, 0)), (b3, .cells #[.bool (decide (n < 0)), sl s (toL (n.natAbs)).length] 25 (0, 0))]) k_ ?_
   refine RN.fin k_ ?_
   have e_1 : (encQ (((n : Int) : Rat) / ((d : Int) : Rat))) = (⟨decide ((n / ((Nat.gcd (n.natAbs) (d.natAbs) : Nat) : Int)) < 0), toL ((n / ((Nat.gcd (n.natAbs) (d.natAbs) : Nat) : Int)).natAbs), ([] : List Nat)⟩ : Raw) := by rw [over_pos hs, ho, toD_one]
   have e_2 : (toL (((((n : Int) : Rat) / ((d : Int) : Rat)).num).natAbs)) = (toL ((n / ((Nat.gcd (n.natAbs) (d.natAbs) : Nat) : Int)).natAbs)) := congrArg Raw.mag e_1
   have e_3 : (toD ((((n : Int) : Rat) / ((d : Int) : Rat)).den)) = ([] : List Nat) := congrArg Raw.den e_1
   refine J.also (fRat (⟨y22.1, saNil⟩ : RA) (⟨decide ((n / ((Nat.gcd (n.natAbs) (d.natAbs) : Nat) : Int)) < 0), toL ((n / ((Nat.gcd (n.natAbs) (d.natAbs) : Nat) : Int)).natAbs), ([] : List Nat)⟩ : Raw)) (fun w h => ⟨(h _ (.tail _ ((.tail _ ((.head _)))))), fU_nil w⟩) ?_
   refine J.ret (KR.ret (v := ratV (⟨y22.1, saNil⟩ : RA) (⟨decide ((n / ((Nat.gcd (n.natAbs) (d.natAbs) : Nat) : Int)) < 0), toL ((n / ((Nat.gcd (n.natAbs) (d.natAbs) : Nat) : Int)).natAbs), ([] : List Nat)⟩ : Raw)) (⟨y22.1, saNil⟩) [some 5] [0] [b5, b5, b5] k_ (by first | rfl | (rw [e_1]; done) | (simp only [e_1]; done) | (rw [e_2, e_3]; done) | (rw [e_1, e_2, e_3]; rfl) | (simp only [e_1, e_2, e_3]; done) | (simp only [e_1, e_2, e_3]; rfl)) (trivial) (by first | rfl | (rw [e_1]; done) | (simp only [e_1]; done) | (rw [e_2, e_3]; done) | (rw [e_1, e_2, e_3]; rfl) | (simp only [e_1, e_2, e_3]; done) | (simp only [e_1, e_2, e_3]; rfl)))
  ·replace c29 := of_decide_eq_false c29
   have ho := mt toL_eq1.2 c29
   refine J.skip ?_
   refine KN.next ?_
   refine J.sreg ?_
   refine RN.bs [some 3, none, some 1, none, some 5] [4] [b5, b5, b5, b26, b23, b23] 5 [(4, pt b5)] ([(b27, .cells #[.bool (decide ((if ((Nat.gcd (n.natAbs) (d.natAbs) : Nat) : Int) = 0 then 0 else d % ((Nat.gcd (n.natAbs) (d.natAbs) : Nat) : Int)) < 0)), sl y25.2 (toL ((if ((Nat.gcd (n.natAbs) (d.natAbs) : Nat) : Int) = 0 then 0 else d % ((Nat.gcd (n.natAbs) (d.natAbs) : Nat) : Int)).natAbs)).length] 25 (0, 0)), (b26, .cells #[.bool (decide ((d / ((Nat.gcd (n.natAbs) (d.natAbs) : Nat) : Int)) < 0)), sl y25.1 (toL ((d / ((Nat.gcd (n.natAbs) (d.natAbs) : Nat) : Int)).natAbs)).length] 25 (0, 0)), (b24, .cells #[.bool (decide ((if ((Nat.gcd (n.natAbs) (d.natAbs) : Nat) : Int) = 0 then 0 else n % ((Nat.gcd (n.natAbs) (d.natAbs) : Nat) : Int)) < 0)), sl y22.2 (toL ((if ((Nat.gcd (n.natAbs) (d.natAbs) : Nat) : Int) = 0 then 0 else n % ((Nat.gcd (n.natAbs) (d.natAbs) : Nat) : Int)).natAbs)).length] 25 (0, 0)), (b23, .cells #[.bool (decide ((n / ((Nat.gcd (n.natAbs) (d.natAbs) : Nat) : Int)) < 0)), sl y22.1 (toL ((n / ((Nat.gcd (n.natAbs) (d.natAbs) : Nat) : Int)).natAbs)).length] 25 (0, 0)), (b21, .cells #[.bool false, sl y20 (toL (Nat.gcd (n.natAbs) (d.natAbs))).length] 25 (0, 0)), (b5, .cells (ratC (⟨y22.1, y25.1⟩ : RA) (⟨decide ((n / ((Nat.gcd (n.natAbs) (d.natAbs) : Nat) : Int)) < 0), toL ((n / ((Nat.gcd (n.natAbs) (d.natAbs) : Nat) : Int)).natAbs), toL ((d / ((Nat.gcd (n.natAbs) (d.natAbs) : Nat) : Int)).natAbs)⟩ : Raw)) 27 (0, 0)), (b4, .cells #[.bool (decide (d < 0)), sl t (toL (d.natAbs)).length] 25 (0, 0)), (b3, .cells #[.bool (decide (n < 0)), sl s (toL (n.natAbs)).length] 25 (0, 0))]) k_ ?_
   refine RN.fin k_ ?_
   have e_1 : (encQ (((n : Int) : Rat) / ((d : Int) : Rat))) = (⟨decide ((n / ((Nat.gcd (n.natAbs) (d.natAbs) : Nat) : Int)) < 0), toL ((n / ((Nat.gcd (n.natAbs) (d.natAbs) : Nat) : Int)).natAbs), toL ((d / ((Nat.gcd (n.natAbs) (d.natAbs) : Nat) : Int)).natAbs)⟩ : Raw) := by rw [over_pos hs, toD_ne ho]
   have e_2 : (toL (((((n : Int) : Rat) / ((d : Int) : Rat)).num).natAbs)) = (toL ((n / ((Nat.gcd (n.natAbs) (d.natAbs) : Nat) : Int)).natAbs)) := congrArg Raw.mag e_1
   have e_3 : (toD ((((n : Int) : Rat) / ((d : Int) : Rat)).den)) = (toL ((d / ((Nat.gcd (n.natAbs) (d.natAbs) : Nat) : Int)).natAbs)) := congrArg Raw.den e_1
   refine J.also (fRat (⟨y22.1, y25.1⟩ : RA) (⟨decide ((n / ((Nat.gcd (n.natAbs) (d.natAbs) : Nat) : Int)) < 0), toL ((n / ((Nat.gcd (n.natAbs) (d.natAbs) : Nat) : Int)).natAbs), toL ((d / ((Nat.gcd (n.natAbs) (d.natAbs) : Nat) : Int)).natAbs)⟩ : Raw)) (fun w h => ⟨(h _ (.tail _ ((.tail _ ((.head _)))))), (h _ (.head _))⟩) ?_
   refine J.ret (KR.ret (v := ratV (⟨y22.1, y25.1⟩ : RA) (⟨decide ((n / ((Nat.gcd (n.natAbs) (d.natAbs) : Nat) : Int)) < 0), toL ((n / ((Nat.gcd (n.natAbs) (d.natAbs) : Nat) : Int)).natAbs), toL ((d / ((Nat.gcd (n.natAbs) (d.natAbs) : Nat) : Int)).natAbs)⟩ : Raw)) (⟨y22.1, y25.1⟩) [some 5] [0] [b5, b5, b5] k_ (by first | rfl | (rw [e_1]; done) | (simp only [e_1]; done) | (rw [e_2, e_3]; done) | (rw [e_1, e_2, e_3]; rfl) | (simp only [e_1, e_2, e_3]; done) | (simp only [e_1, e_2, e_3]; rfl)) (trivial) (by first | rfl | (rw [e_1]; done) | (simp only [e_1]; done) | (rw [e_2, e_3]; done) | (rw [e_1, e_2, e_3]; rfl) | (simp only [e_1, e_2, e_3]; done) | (simp only [e_1, e_2, e_3]; rfl)))
end Go.Proofs.Ytegnonhgildhoaa.E
namespace Go.Proofs.Ytegnonhgildhoaa.E
open Go Go.RowKit
set_option linter.unusedVariables false
set_option linter.unusedSimpArgs false
theorem fRat_zero : ∀ w, fRat ⟨saNil, saNil⟩ (encQ 0) w := by rw [encQ_zero]; exact fun w => ⟨fU_nil w, fU_nil w⟩
theorem num0 : toL (Rat.num 0).natAbs = [] := toL_zero
theorem zneg0 : decide (Rat.num 0 < 0) = false := by decide
theorem zden0 : toD (Rat.den 0) = [] := rfl
theorem num_lt0 {q : Rat} : q.num < 0 ↔ q < 0 := by
  have := Rat.num_nonneg (q := q)
  rw [← Rat.not_le, ← this]; omega
theorem sign_lt {q : Rat} : Int.sign q.num < 0 ↔ q < 0 := by
  rw [← num_lt0]; exact ⟨sign_lt0, fun h => by rw [Int.sign_eq_neg_one_of_neg h]; decide⟩
theorem r03_FromInt (v : Int) (h1 : -9223372036854775808 ≤ v) (h2 : v < 9223372036854775808) : Spec Try.prog 4 #[.int .i64 v] [] (ι := RA) (fun y => ratV y (encQ ((v : Int) : Rat))) (fun y => True) (fun y => [fRat y (encQ ((v : Int) : Rat))]) := by
 refine Spec.of_body _ (fn := Try.f4) k_ rfl k_ (fun X w0 => ?_)
 refine J.sreg ?_
 refine RN.new (fun b => pt b) (.cells (ratC (⟨saNil, saNil⟩ : RA) (⟨false, ([] : List Nat), ([] : List Nat)⟩ : Raw)) 27 (0, 0)) k_ k_ (fun w => by kernel_rfl) (fun b1 => ?_)
 refine RN.fs k_ ?_
 refine RN.bq (no 1) [2, 3] [] 1 [(2, pt b1), (3, .int .i64 v)] k_ ?_
 refine RN.call (r02_FromInt v y_ y_) [] k_ k_ k_ rfl (fun y2 _ => ?_)
 refine RN.bs [none, some 0] [2] [b1, b1, b1] 4 [(2, pt b1)] ([(b1, .cells (ratC (⟨y2, saNil⟩ : RA) (⟨decide (v < 0), toL (v.natAbs), ([] : List Nat)⟩ : Raw)) 27 (0, 0))]) k_ ?_
 refine RN.fin k_ ?_
 have e_1 : (encQ ((v : Int) : Rat)) = (⟨decide (v < 0), toL (v.natAbs), ([] : List Nat)⟩ : Raw) := by rfl
 have e_2 : (toL ((((v : Int) : Rat).num).natAbs)) = (toL (v.natAbs)) := congrArg Raw.mag e_1
 have e_3 : (toD (((v : Int) : Rat).den)) = ([] : List Nat) := congrArg Raw.den e_1
 refine J.also (fRat (⟨y2, saNil⟩ : RA) (⟨decide (v < 0), toL (v.natAbs), ([] : List Nat)⟩ : Raw)) (fun w h => ⟨(h _ (.head _)), fU_nil w⟩) ?_
 refine J.ret (KR.ret (v := ratV (⟨y2, saNil⟩ : RA) (⟨decide (v < 0), toL (v.natAbs), ([] : List Nat)⟩ : Raw)) (⟨y2, saNil⟩) [some 0] [0] [b1, b1, b1] k_ (by first | rfl | (rw [e_1]; done) | (simp only [e_1]; done) | (rw [e_2, e_3]; done) | (rw [e_1, e_2, e_3]; rfl) | (simp only [e_1, e_2, e_3]; done) | (simp only [e_1, e_2, e_3]; rfl)) (trivial) (by first | rfl | (rw [e_1]; done) | (simp only [e_1]; done) | (rw [e_2, e_3]; done) | (rw [e_1, e_2, e_3]; rfl) | (simp only [e_1, e_2, e_3]; done) | (simp only [e_1, e_2, e_3]; rfl)))
theorem r03_Same (p : RA) (r : Raw) (u : RA) (t : Raw) : Spec Try.prog 27 #[ratV p r, ratV u t] [fRat p r, fRat u t] (ι := Unit) (fun y => .bool (decide (r = t))) (fun y => True) (fun y => []) := by
 refine Spec.of_body _ (fn := Try.f27) k_ rfl k_ (fun X w0 => ?_)
 refine J.fact (φ := r.mag.length ≤ 140737488355328 ∧ r.den.length ≤ 140737488355328) (fun w h => by have h1 := (h _ (.head _)).1.1; have h2 := (h _ (.head _)).2.1; omega) (fun hl1 => ?_)
 refine J.fact (φ := t.mag.length ≤ 140737488355328 ∧ t.den.length ≤ 140737488355328) (fun w h => by have h1 := (h _ (.tail _ ((.head _)))).1.1; have h2 := (h _ (.tail _ ((.head _)))).2.1; omega) (fun hl2 => ?_)
 refine J.sreg ?_
 refine RN.new (fun b => pt b) (.cells (ratC p r) 27 (0, 0)) k_ k_ (fun w => by kernel_rfl) (fun b3 => ?_)
 refine RN.new (fun b => pt b) (.cells (ratC u t) 27 (0, 0)) k_ k_ (fun w => by kernel_rfl) (fun b4 => ?_)
 refine RN.bq (no 1) [2, 3] [] 3 [(2, pt b3), (3, pt b4)] k_ ?_
 refine RN.fs k_ ?_
 refine RN.bq [none, some 1, none, some 0] [2, 3, 6, 8] [b4, b4, b3, b3] 4 [(2, pt b3), (3, pt b4), (6, intV p.mag (⟨r.neg, r.mag⟩ : RawI)), (8, intV u.mag (⟨t.neg, t.mag⟩ : RawI))] k_ ?_
 refine RN.also (fU p.mag r.mag) (fun w h => (h _ (.head _)).1) ?_
 refine RN.also (fU u.mag t.mag) (fun w h => (h _ (.tail _ ((.tail _ ((.head _)))))).1) ?_
 refine RN.call (r02_Same p.mag ⟨r.neg, r.mag⟩ u.mag ⟨t.neg, t.mag⟩) [1, 0] k_ k_ k_ rfl (fun y5 _ => ?_)
 refine RN.bq (no 1) [2, 3, 10] [] 6 [(2, pt b3), (3, pt b4), (10, .bool (decide ((⟨r.neg, r.mag⟩ : RawI) = (⟨t.neg, t.mag⟩ : RawI))))] k_ ?_
 refine RN.split 10 (decide ((⟨r.neg, r.mag⟩ : RawI) = (⟨t.neg, t.mag⟩ : RawI))) k_ (fun c6 => ?_) (fun c6 => ?_)
 ·replace c6 := of_decide_eq_true c6
  refine RN.bq [none, some 1, none, some 0] [10, 12, 14] [b4, b3] 10 [(10, .bool true), (12, sl (p.den) (r.den).length), (14, sl (u.den) (t.den).length)] k_ ?_
  refine RN.also (fU (p.den) (r.den)) (fun w h => (h _ (.tail _ ((.tail _ ((.head _)))))).2) ?_
  refine RN.also (fU (u.den) (t.den)) (fun w h => (h _ (.tail _ ((.tail _ ((.tail _ ((.tail _ ((.head _)))))))))).2) ?_
  refine RN.call (r01_Same (p.den) (r.den) (u.den) (t.den)) [1, 0] k_ k_ k_ rfl (fun y7 _ => ?_)
  refine RN.bq (no 2) [4] [] 13 [(4, .bool (decide ((r.den) = (t.den))))] k_ ?_
  refine RN.fin k_ ?_
  have e_1 : (decide (r = t)) = (decide ((r.den) = (t.den))) := by rcases r with ⟨a, b, c⟩; rcases t with ⟨d, e, f⟩; simp_all
  refine J.ret (KR.ret (v := .bool (decide ((r.den) = (t.den)))) (()) [none] [] [] k_ v1_ (trivial) v1_)
 ·replace c6 := of_decide_eq_false c6
  refine RN.bq (no 7) [4] [] 13 [(4, .bool false)] k_ ?_
  refine RN.fin k_ ?_
  have e_1 : (decide (r = t)) = false := by rcases r with ⟨a, b, c⟩; rcases t with ⟨d, e, f⟩; simp_all
  refine J.ret (KR.ret (v := .bool false) (()) [none] [] [] k_ v1_ (trivial) v1_)
theorem r03_Fraction (a : Int) (b : Int) (ha1 : -9223372036854775808 ≤ a) (ha2 : a < 9223372036854775808) (hb1 : -9223372036854775808 ≤ b) (hb2 : b < 9223372036854775808) (hb0 : b ≠ 0) : Spec Try.prog 5 #[.int .i64 a, .int .i64 b] [] (ι := RA) (fun y => ratV y (encQ (((a : Int) : Rat) / ((b : Int) : Rat)))) (fun y => True) (fun y => [fRat y (encQ (((a : Int) : Rat) / ((b : Int) : Rat)))]) := by
 refine Spec.of_body _ (fn := Try.f5) k_ rfl k_ (fun X w0 => ?_)
 have hla : (toL a.natAbs).length ≤ 2 := u64_len.2 (by omega)
 have hlb : (toL b.natAbs).length ≤ 2 := u64_len.2 (by omega)
 refine J.sreg ?_
 refine RN.new (fun b => pt b) (.cells (ratC (⟨saNil, saNil⟩ : RA) (⟨false, ([] : List Nat), ([] : List Nat)⟩ : Raw)) 27 (0, 0)) k_ k_ (fun w => by kernel_rfl) (fun b1 => ?_)
 refine RN.fs k_ ?_
 refine RN.bq (no 1) [1, 4, 5] [] 1 [(1, .int .i64 b), (4, pt b1), (5, .int .i64 a)] k_ ?_
 refine RN.call (r02_FromInt a y_ y_) [] k_ k_ k_ rfl (fun y2 _ => ?_)
 refine RN.bq (no 1) [4, 6, 7] [] 3 [(4, pt b1), (6, intV y2 (encZ a)), (7, .int .i64 b)] k_ ?_
 refine RN.call (r02_FromInt b y_ y_) [] k_ k_ k_ rfl (fun y3 _ => ?_)
 refine RN.call (r03_over y2 a y3 b y_ y_ y_) [1, 0] k_ k_ k_ rfl (fun y4 _ => ?_)
 refine RN.bs [some 0] [4] [b1, b1, b1] 6 [(4, pt b1)] ([(b1, .cells (ratC y4 (encQ (((a : Int) : Rat) / ((b : Int) : Rat)))) 27 (0, 0))]) k_ ?_
 refine RN.fin k_ ?_
 refine J.ret (KR.ret (v := ratV y4 (encQ (((a : Int) : Rat) / ((b : Int) : Rat)))) (y4) [some 0] [0] [b1, b1, b1] k_ rfl (trivial) rfl)
end Go.Proofs.Ytegnonhgildhoaa.E
namespace Go.Proofs.Ytegnonhgildhoaa.E
open Go Go.RowKit
set_option linter.unusedVariables false
set_option linter.unusedSimpArgs false
theorem r04_Same (p : RA) (r : Raw) (u : RA) (t : Raw) (v : RA) (k : Raw) (w : RA) (m : Raw) : Spec Try.prog 28 #[.agg (ivC p r u t), .agg (ivC v k w m)] [fRat p r, fRat u t, fRat v k, fRat w m] (ι := Unit) (fun y => .bool (decide (r = k) && decide (t = m))) (fun y => True) (fun y => []) := by
 refine Spec.of_body _ (fn := Try.f28) k_ rfl k_ (fun X w0 => ?_)
 refine J.fact (φ := r.mag.length ≤ 140737488355328 ∧ r.den.length ≤ 140737488355328) (fun w h => by have h1 := (h _ (.head _)).1.1; have h2 := (h _ (.head _)).2.1; omega) (fun hl1 => ?_)
 refine J.fact (φ := t.mag.length ≤ 140737488355328 ∧ t.den.length ≤ 140737488355328) (fun w h => by have h1 := (h _ (.tail _ ((.head _)))).1.1; have h2 := (h _ (.tail _ ((.head _)))).2.1; omega) (fun hl2 => ?_)
 refine J.fact (φ := k.mag.length ≤ 140737488355328 ∧ k.den.length ≤ 140737488355328) (fun w h => by have h1 := (h _ (.tail _ ((.tail _ ((.head _)))))).1.1; have h2 := (h _ (.tail _ ((.tail _ ((.head _)))))).2.1; omega) (fun hl3 => ?_)
 refine J.fact (φ := m.mag.length ≤ 140737488355328 ∧ m.den.length ≤ 140737488355328) (fun w h => by have h1 := (h _ (.tail _ ((.tail _ ((.tail _ ((.head _)))))))).1.1; have h2 := (h _ (.tail _ ((.tail _ ((.tail _ ((.head _)))))))).2.1; omega) (fun hl4 => ?_)
 refine J.sreg ?_
 refine RN.new (fun b => pt b) (.cells (ivC p r u t) 34 (0, 0)) k_ k_ (fun w => by kernel_rfl) (fun b5 => ?_)
 refine RN.new (fun b => pt b) (.cells (ivC v k w m) 34 (0, 0)) k_ k_ (fun w => by kernel_rfl) (fun b6 => ?_)
 refine RN.bq (no 1) [2, 3] [] 3 [(2, pt b5), (3, pt b6)] k_ ?_
 refine RN.fs k_ ?_
 refine RN.bq [none, some 1, none, some 0] [2, 3, 6, 8] [b6, b6, b6, b5, b5, b5] 4 [(2, pt b5), (3, pt b6), (6, ratV p r), (8, ratV v k)] k_ ?_
 refine RN.call (r03_Same p r v k) [0, 2] k_ k_ k_ rfl (fun y7 _ => ?_)
 refine RN.bq (no 1) [2, 3, 10] [] 6 [(2, pt b5), (3, pt b6), (10, .bool (decide (r = k)))] k_ ?_
 refine RN.split 10 (decide (r = k)) k_ (fun c8 => ?_) (fun c8 => ?_)
 ·replace c8 := of_decide_eq_true c8
  refine RN.bq [none, some 1, none, some 0] [10, 12, 14] [b6, b6, b6, b5, b5, b5] 10 [(10, .bool true), (12, ratV u t), (14, ratV w m)] k_ ?_
  refine RN.call (r03_Same u t w m) [1, 3] k_ k_ k_ rfl (fun y9 _ => ?_)
  refine RN.bq (no 2) [4] [] 13 [(4, .bool (decide (t = m)))] k_ ?_
  refine RN.fin k_ ?_
  have e_1 : (decide (r = k) && decide (t = m)) = (decide (t = m)) := by simp_all
  refine J.ret (KR.ret (v := .bool (decide (t = m))) (()) [none] [] [] k_ v1_ (trivial) v1_)
 ·replace c8 := of_decide_eq_false c8
  refine RN.bq (no 7) [4] [] 13 [(4, .bool false)] k_ ?_
  refine RN.fin k_ ?_
  have e_1 : (decide (r = k) && decide (t = m)) = false := by simp_all
  refine J.ret (KR.ret (v := .bool false) (()) [none] [] [] k_ v1_ (trivial) v1_)
theorem Q_0 {k : Nat} (h : 1 ≤ k) : Q k (0 : Rat) := Q.le ⟨by decide +kernel, by decide +kernel⟩ h
end Go.Proofs.Ytegnonhgildhoaa.E
/- Appending ints and numbers to a slice of the call's own. -/
namespace Go.Proofs.Ytegnonhgildhoaa.E
open Go Go.RowKit
set_option linter.unusedVariables false
section
variable {P : Program} {ops : Array Oper} {n : Nat} {X : Nat → Prop} {w0 : World} {D : Nat → Prop} {l l' l1 : Slots} {M M' : List Blk} {F F' : List Fact} {Q : Exit → Act → World → Prop}
/-! elements of a slice of ints that the call has grown -/
theorem madeCells_rat (m : Nat) : madeCells #[.bool false, .slice none 0 0, .slice none 0 0] (m * 3) = encR (List.replicate m pr0) := by
  apply Array.ext
  · rw [encR_size, List.length_replicate]; simp [madeCells]
  · intro i h1 h2
    have hi : i < m * 3 := by rw [encR_size, List.length_replicate] at h2; exact h2
    have h3 : i / 3 < m := by omega
    have h4 : i % 3 < 3 := Nat.mod_lt _ (by decide)
    have h5 := encR_get (ps := List.replicate m pr0) (m := i / 3) (j := i % 3) (by simpa using h3) h4
    rw [show i / 3 * 3 + i % 3 = i from by omega] at h5
    have e : (List.replicate m pr0).getD (i / 3) pr0 = pr0 := by simp [List.getD_eq_getElem?_getD, h3]
    rw [e] at h5
    have h6 : (encR (List.replicate m pr0))[i]? = some (encR (List.replicate m pr0))[i] := by simp [h2]
    rw [h6] at h5
    have h7 : (madeCells #[.bool false, .slice none 0 0, .slice none 0 0] (m * 3))[i]? = some ((madeCells #[.bool false, .slice none 0 0, .slice none 0 0] (m * 3))[i]) := by simp [h1]
    apply Option.some.inj
    rw [h5, ← h7]
    have h8 : (madeCells #[.bool false, .slice none 0 0, .slice none 0 0] (m * 3))[i]? = some ((#[.bool false, .slice none 0 0, .slice none 0 0] : Array Value)[i % 3]!) := by
      unfold madeCells
      rw [Array.getElem?_map, Array.getElem?_range, if_pos hi]; rfl
    rw [h8]
    generalize i % 3 = j at *
    match j, h4 with
    | 0, _ => rfl
    | 1, _ => rfl
    | 2, _ => rfl
/-- make([]Rat, n). -/
theorem q_make3 {i t e by_ m : Nat} {v : Value} {K K' : IntKind} {x y : Operand} {n1 n2 : Int} (hop : (opOf ops i).op = .makeSlice t x y) (hx : rho l x = .int K n1) (hy : rho l y = .int K' n2) (hn1 : n1 = (m : Nat)) (hn2 : n2 = (m : Nat))
    (ht : P.underlying t = some (.slice e)) (hs : (P.info? e).map (fun i => (i.size, i.bytes, i.zero)) = some (3, by_, some v)) (hv : v.cells = #[.bool false, .slice none 0 0, .slice none 0 0]) (hn : by_ * m ≤ 281474976710656) (h63 : m ≤ 281474976710656) (w : World) :
    (execOp (rho l) (opOf ops i)).run P w = .ok (.value (.slice (some ⟨w.heap.size, 0, none⟩) m m)) (w.alloc (.cells (encR (List.replicate m pr0)) e (0, 0))) := by
  obtain ⟨inf, hi, hsz⟩ := Option.map_eq_some_iff.1 hs
  simp only [Prod.mk.injEq] at hsz
  obtain ⟨h1, h2, h3⟩ := hsz
  have hb : (inf.bytes : Int) * (m : Int) ≤ 281474976710656 := by
    rw [h2, ← Int.natCast_mul]; omega
  have := run_make (P := P) w t e inf v ht hi h3 K K' (m : Nat) (m : Nat) (by omega) (Int.le_refl _) hb (by omega)
  rw [h1, hv] at this
  simp only [Int.toNat_natCast] at this
  rw [madeCells_rat] at this
  unfold execOp
  simp only [hop, hx, hy, hn1, hn2]
  exact run_v this
theorem allRat_rep (m : Nat) (w : World) : allRat (List.replicate m pr0) w := fun p hp => by
  obtain rfl := List.eq_of_mem_replicate hp
  exact ⟨fU_nil w, fU_nil w⟩
theorem KN.shareG {go : Option GB} {cs : Array Value} {e : Nat} (M1 M2 : List Blk) (hM : M = M1 ++ (glM go cs e ++ M2)) (q : Fact) (hq : ∀ w, (∀ m ∈ glM go cs e, fBlk m.1 m.2 w) → (∀ p ∈ F, p w) → q w) (r : KN n X w0 D Q l (M1 ++ M2) (q :: F)) : KN n X w0 D Q l M F :=
  fun a w hs => r a w ⟨hs.defers, hs.size, hs.tmps, by
    have h := hs.mem.shareG hM
    refine ⟨h.frm, h.blk, h.own, h.nodup, h.xs, fun p hp => ?_⟩
    rcases List.mem_cons.1 hp with rfl | hp
    · exact fun w' ho => hq w' (h.facts _ List.mem_cons_self w' ho) (fun p hp => h.facts p (List.mem_cons_of_mem _ hp) w' ho)
    · exact h.facts p (List.mem_cons_of_mem _ hp)⟩
end
end Go.Proofs.Ytegnonhgildhoaa.E
namespace Go.Proofs.Ytegnonhgildhoaa.E
open Go Go.RowKit
set_option linter.unusedVariables false
set_option linter.unusedSimpArgs false
end Go.Proofs.Ytegnonhgildhoaa.E
/- Plain laws of rational numbers, sums and the biweight scale: no program. -/
namespace Go.Proofs.Ytegnonhgildhoaa.E
set_option linter.unusedVariables false
set_option linter.unusedSimpArgs false
theorem rle_trans {a b c : Rat} (h : a ≤ b) (g : b ≤ c) : a ≤ c := by grind
theorem rmul_le {a b c : Rat} (h : a ≤ b) (hc : 0 ≤ c) : c * a ≤ c * b := Rat.mul_le_mul_of_nonneg_left h hc
theorem rsq (a : Rat) : 0 ≤ a * a := by
  rcases Rat.le_total (a := 0) (b := a) with h | h
  · exact Rat.mul_nonneg h h
  · have := Rat.mul_nonneg (a := -a) (b := -a) (by grind) (by grind)
    grind
theorem rsq_pos {a : Rat} (h : a ≠ 0) : 0 < a * a := by
  have h1 := rsq a
  have h2 : a * a ≠ 0 := by
    intro e
    rcases Rat.mul_eq_zero.1 e with e | e <;> exact h e
  grind
theorem rinv_nn {a : Rat} (h : 0 ≤ a) : 0 ≤ a⁻¹ := by
  by_cases h0 : a = 0
  · rw [h0, Rat.inv_zero]; exact Rat.le_refl
  · have : 0 < a⁻¹ := Rat.inv_pos.2 (by grind)
    grind
theorem rdiv_nn {a b : Rat} (ha : 0 ≤ a) (hb : 0 ≤ b) : 0 ≤ a / b := by
  rw [Rat.div_def]; exact Rat.mul_nonneg ha (rinv_nn hb)
theorem rdiv_le_div {a b c : Rat} (h : a ≤ b) (hc : 0 ≤ c) : a / c ≤ b / c := by
  rw [Rat.div_def, Rat.div_def]; exact Rat.mul_le_mul_of_nonneg_right h (rinv_nn hc)
theorem rdiv_cancel {a b : Rat} (hb : b ≠ 0) : a / b * b = a := by grind
theorem rle_div {a b c : Rat} (hb : 0 < b) (h : a * b ≤ c) : a ≤ c / b := by
  have := rdiv_le_div h (Rat.le_of_lt hb)
  have e : a * b / b = a := by grind
  rwa [e] at this
theorem rdiv_le {a b c : Rat} (hb : 0 < b) (h : c ≤ a * b) : c / b ≤ a := by
  have := rdiv_le_div h (Rat.le_of_lt hb)
  have e : a * b / b = a := by grind
  rwa [e] at this
theorem rcast_pos {n : Nat} (h : 0 < n) : (0 : Rat) < ((n : Int) : Rat) := by
  have : ((0 : Int) : Rat) < ((n : Int) : Rat) := Rat.intCast_lt_intCast.2 (by omega)
  simpa using this
theorem rcast_succ (n : Nat) : (((n + 1 : Nat) : Int) : Rat) = ((n : Int) : Rat) + 1 := by
  rw [show ((n + 1 : Nat) : Int) = (n : Int) + 1 from by omega, Rat.intCast_add]; rfl
/-! sums -/
def sumN (f : Nat → Rat) : Nat → Rat
  | 0 => 0
  | k + 1 => sumN f k + f k
theorem sumN_congr {f g : Nat → Rat} {n : Nat} (h : ∀ i, i < n → f i = g i) : sumN f n = sumN g n := by
  induction n with
  | zero => rfl
  | succ k ih => rw [sumN, sumN, ih (fun i hi => h i (by omega)), h k (by omega)]
theorem sumN_le {f g : Nat → Rat} {n : Nat} (h : ∀ i, i < n → f i ≤ g i) : sumN f n ≤ sumN g n := by
  induction n with
  | zero => exact Rat.le_refl
  | succ k ih =>
    have h1 := ih (fun i hi => h i (by omega))
    have h2 := h k (by omega)
    rw [sumN, sumN]; grind
theorem sumN_const (c : Rat) (n : Nat) : sumN (fun _ => c) n = ((n : Int) : Rat) * c := by
  induction n with
  | zero => rw [sumN]; grind
  | succ k ih => rw [sumN, ih, rcast_succ]; grind
def cntN (p : Nat → Bool) : Nat → Nat
  | 0 => 0
  | k + 1 => cntN p k + if p k then 1 else 0
theorem cntN_le (p : Nat → Bool) (n : Nat) : cntN p n ≤ n := by
  induction n with
  | zero => exact Nat.le_refl _
  | succ k ih => rw [cntN]; split <;> omega
theorem cntN_sum (p : Nat → Bool) (n : Nat) : ((cntN p n : Int) : Rat) = sumN (fun i => if p i then 1 else 0) n := by
  induction n with
  | zero => rfl
  | succ k ih =>
    rw [cntN, sumN, ← ih]
    by_cases h : p k
    · rw [if_pos h, if_pos h, rcast_succ]
    · rw [if_neg h, if_neg h]; grind
/-! the biweight -/
def rhoQ (u : Rat) : Rat := if u < 0 then 0 else if 1 < u then 1 else 1 - (1 - u) * ((1 - u) * (1 - u))
theorem rho_ge1 {u : Rat} (h : 1 ≤ u) : rhoQ u = 1 := by
  unfold rhoQ
  rw [if_neg (by grind)]
  split
  · rfl
  · have : u = 1 := by grind
    subst this; grind
theorem rho_in {u : Rat} (h : 0 ≤ u) (h1 : u ≤ 1) : rhoQ u = 1 - (1 - u) * ((1 - u) * (1 - u)) := by
  unfold rhoQ
  rw [if_neg (by grind), if_neg (by grind)]
theorem rho_zero : rhoQ 0 = 0 := by rw [rho_in (by grind) (by grind)]; grind
theorem rho_le1 (u : Rat) : rhoQ u ≤ 1 := by
  by_cases h : u < 0
  · unfold rhoQ; rw [if_pos h]; grind
  · by_cases h1 : u ≤ 1
    · rw [rho_in (by grind) h1]
      have := Rat.mul_nonneg (a := 1 - u) (b := (1 - u) * (1 - u)) (by grind) (rsq _)
      grind
    · rw [rho_ge1 (by grind)]; grind
theorem rho_le3 {u : Rat} (h : 0 ≤ u) : rhoQ u ≤ 3 * u := by
  by_cases h1 : u ≤ 1
  · rw [rho_in h h1]
    have := Rat.mul_nonneg (a := u * u) (b := 3 - u) (rsq u) (by grind)
    grind
  · have := rho_le1 u; grind
def vals (ps : List PR) : Nat → Rat := fun i => qv (ps.getD i pr0).2
def meanN (x : Nat → Rat) (n : Nat) (c s : Rat) : Rat := sumN (fun i => rhoQ (x i * x i / (c * s))) n / ((n : Int) : Rat)
def shareN (x : Nat → Rat) (n : Nat) : Rat := ((cntN (fun i => decide (x i ≠ 0)) n : Int) : Rat) / ((n : Int) : Rat)
theorem mean_low {x : Nat → Rat} {n : Nat} {c s : Rat} (hcs : 0 < c * s) (h : ∀ i, i < n → x i ≠ 0 → c * s ≤ x i * x i) : meanN x n c s = shareN x n := by
  unfold meanN shareN
  rw [cntN_sum]
  congr 1
  refine sumN_congr (fun i hi => ?_)
  show _ = if decide (x i ≠ 0) = true then (1 : Rat) else 0
  by_cases h0 : x i = 0
  · rw [h0, if_neg (by simp), show (0 : Rat) * 0 / (c * s) = 0 from by grind, rho_zero]
  · rw [if_pos (by simp [h0]), rho_ge1 (rle_div hcs (by have := h i hi h0; grind))]
theorem mean_high {x : Nat → Rat} {n : Nat} {c s m : Rat} (hn : 0 < n) (hcs : 0 < c * s) (h : ∀ i, i < n → x i * x i ≤ m) : meanN x n c s ≤ 3 * (m / (c * s)) := by
  unfold meanN
  refine rdiv_le (rcast_pos hn) ?_
  have : sumN (fun i => rhoQ (x i * x i / (c * s))) n ≤ sumN (fun _ => 3 * (m / (c * s))) n := sumN_le (fun i hi => by
    have h1 := rho_le3 (rdiv_nn (rsq (x i)) (Rat.le_of_lt hcs))
    have h2 := rdiv_le_div (h i hi) (Rat.le_of_lt hcs)
    grind)
  rw [sumN_const] at this
  grind
end Go.Proofs.Ytegnonhgildhoaa.E
/- Plain law of Scale's three loops: bounds of what is above, dyadic numbers and their sizes. -/
namespace Go.Proofs.Ytegnonhgildhoaa.E
set_option linter.unusedVariables false
set_option linter.unusedSimpArgs false
/-- W to the power of k, as a number. -/
def KW (k : Nat) : Rat := ((W ^ k : Nat) : Int)
theorem KW_pos (k : Nat) : 0 < KW k := rcast_pos (Wpos k)
theorem KW_add (k l : Nat) : KW (k + l) = KW k * KW l := by
  unfold KW; rw [Nat.pow_add, Int.natCast_mul, Rat.intCast_mul]
theorem num_eq (q : Rat) : (q.num : Rat) = q * ((q.den : Int) : Rat) := by
  have h := Rat.num_divInt_den q
  rw [Rat.divInt_eq_div] at h
  have hd : (0 : Rat) < ((q.den : Int) : Rat) := rcast_pos (Nat.pos_of_ne_zero q.den_nz)
  have e := rdiv_cancel (a := (q.num : Rat)) (b := ((q.den : Int) : Rat)) (by grind)
  rw [h] at e; exact e.symm
theorem Q.abs_le {k : Nat} {q : Rat} (h : Q k q) : -KW k ≤ q ∧ q ≤ KW k := by
  obtain ⟨h1, h2⟩ := Q_iff.1 h
  have e := num_eq q
  have hd : (1 : Rat) ≤ ((q.den : Int) : Rat) := by
    have : ((1 : Int) : Rat) ≤ ((q.den : Int) : Rat) := Rat.intCast_le_intCast.2 (by have := q.den_nz; omega)
    simpa using this
  have n1 : (q.num : Rat) ≤ KW k := Rat.intCast_le_intCast.2 (by omega)
  have n2 : -KW k ≤ (q.num : Rat) := by
    have : ((-((W ^ k : Nat) : Int) : Int) : Rat) ≤ (q.num : Rat) := Rat.intCast_le_intCast.2 (by omega)
    rwa [Rat.intCast_neg] at this
  have hK := KW_pos k
  constructor
  · by_cases h0 : 0 ≤ q
    · grind
    · have := rmul_le (a := 1) (b := ((q.den : Int) : Rat)) (c := -q) hd (by grind)
      grind
  · by_cases h0 : q ≤ 0
    · grind
    · have := rmul_le (a := 1) (b := ((q.den : Int) : Rat)) (c := q) hd (by grind)
      grind
theorem Q.sq_le {k : Nat} {q : Rat} (h : Q k q) : q * q ≤ KW (k + k) := by
  obtain ⟨a, b⟩ := h.abs_le
  rw [KW_add]
  have := Rat.mul_nonneg (a := KW k - q) (b := KW k + q) (by grind) (by grind)
  grind
theorem Q.pos_ge {k : Nat} {q : Rat} (h : Q k q) (h0 : 0 < q) : 1 ≤ q * KW k := by
  obtain ⟨h1, h2⟩ := Q_iff.1 h
  have e := num_eq q
  have hd : ((q.den : Int) : Rat) ≤ KW k := Rat.intCast_le_intCast.2 (by omega)
  have hp : (0 : Rat) < ((q.den : Int) : Rat) := rcast_pos (Nat.pos_of_ne_zero q.den_nz)
  have hn : (0 : Rat) < (q.num : Rat) := by rw [e]; exact Rat.mul_pos h0 hp
  have hn1 : (1 : Rat) ≤ (q.num : Rat) := by
    have : (0 : Int) < q.num := by
      have := Rat.intCast_lt_intCast (a := 0) (b := q.num)
      exact this.1 (by simpa using hn)
    have : ((1 : Int) : Rat) ≤ (q.num : Rat) := Rat.intCast_le_intCast.2 (by omega)
    simpa using this
  have := rmul_le hd (Rat.le_of_lt h0)
  grind
theorem Q.ne_ge {k : Nat} {q : Rat} (h : Q k q) (h0 : q ≠ 0) : 1 ≤ q * q * KW (k + k) := (h.mul h).pos_ge (rsq_pos h0)
/-! above and below -/
theorem mean_top {x : Nat → Rat} {n : Nat} {c b s : Rat} (hn : 0 < n) (hx : ∀ i, i < n → Q 64 (x i)) (hc : Q 64 c) (hc0 : 0 < c) (hb : Q 64 b) (hb0 : 0 < b) (hs : KW 257 ≤ s) : meanN x n c s ≤ b := by
  have hs0 : 0 < s := by have := KW_pos 257; grind
  have hcs := Rat.mul_pos hc0 hs0
  have h1 := mean_high hn hcs (fun i hi => (hx i hi).sq_le)
  refine rle_trans h1 ?_
  have e : 3 * (KW (64 + 64) / (c * s)) = 3 * KW (64 + 64) / (c * s) := by grind
  rw [e]
  refine rdiv_le hcs ?_
  have a1 := hb.pos_ge hb0
  have a2 := hc.pos_ge hc0
  have a3 : 3 ≤ KW 1 := by
    have : ((3 : Int) : Rat) ≤ KW 1 := Rat.intCast_le_intCast.2 (by rw [Nat.pow_one]; decide +kernel)
    simpa using this
  have e1 : KW 257 = KW 1 * (KW 64 * KW 64) * (KW 64 * KW 64) := by rw [← KW_add, ← KW_add, ← KW_add]
  have p64 := KW_pos 64
  rw [KW_add]
  have b1 : 1 ≤ b * KW 64 * (c * KW 64) := by
    have := rmul_le a2 (c := b * KW 64) (by grind)
    grind
  have b2 : KW 257 * (b * c) ≤ s * (b * c) := Rat.mul_le_mul_of_nonneg_right hs (Rat.le_of_lt (Rat.mul_pos hb0 hc0))
  have p2 : 0 ≤ KW 64 * KW 64 := Rat.le_of_lt (Rat.mul_pos p64 p64)
  have b3 : KW 1 * (KW 64 * KW 64) * 1 ≤ KW 1 * (KW 64 * KW 64) * (b * KW 64 * (c * KW 64)) := rmul_le b1 (Rat.mul_nonneg (by grind) p2)
  have b4 : 3 * (KW 64 * KW 64) ≤ KW 1 * (KW 64 * KW 64) := Rat.mul_le_mul_of_nonneg_right a3 p2
  have b5 : KW 1 * (KW 64 * KW 64) * (b * KW 64 * (c * KW 64)) = KW 257 * (b * c) := by rw [e1]; grind
  have b6 : KW 1 * (KW 64 * KW 64) * 1 = KW 1 * (KW 64 * KW 64) := by grind
  have b7 : s * (b * c) = b * (c * s) := by grind
  rw [b5, b6] at b3
  rw [b7] at b2
  exact rle_trans b4 (rle_trans b3 b2)
theorem mean_bot {x : Nat → Rat} {n : Nat} {c s : Rat} (hx : ∀ i, i < n → Q 64 (x i)) (hc : Q 64 c) (hc0 : 0 < c) (hs0 : 0 < s) (hs : s * KW 192 ≤ 1) : meanN x n c s = shareN x n := by
  refine mean_low (Rat.mul_pos hc0 hs0) (fun i hi h0 => ?_)
  have a1 := (hx i hi).ne_ge h0
  have a2 := hc.abs_le.2
  have e1 : KW 192 = KW 64 * KW (64 + 64) := by rw [← KW_add]
  rw [e1] at hs
  have pk := KW_pos (64 + 64)
  have b1 : c * s ≤ KW 64 * s := Rat.mul_le_mul_of_nonneg_right a2 (Rat.le_of_lt hs0)
  have b2 : c * s * KW (64 + 64) ≤ KW 64 * s * KW (64 + 64) := Rat.mul_le_mul_of_nonneg_right b1 (Rat.le_of_lt pk)
  have b3 : c * s * KW (64 + 64) ≤ x i * x i * KW (64 + 64) := by grind
  have := rdiv_le_div b3 (Rat.le_of_lt pk)
  have e2 : c * s * KW (64 + 64) / KW (64 + 64) = c * s := by grind
  have e3 : x i * x i * KW (64 + 64) / KW (64 + 64) = x i * x i := by grind
  rwa [e2, e3] at this
/-! dyadic numbers -/
def two (k : Nat) : Rat := ((2 ^ k : Nat) : Int)
theorem two_pos (k : Nat) : 0 < two k := rcast_pos (Nat.pow_pos (by decide))
theorem two_succ (k : Nat) : two (k + 1) = 2 * two k := by
  unfold two
  rw [Nat.pow_succ, Nat.mul_comm, Int.natCast_mul, Rat.intCast_mul]; rfl
theorem two_zero : two 0 = 1 := rfl
theorem two_mono {k l : Nat} (h : k ≤ l) : two k ≤ two l :=
  Rat.intCast_le_intCast.2 (Int.ofNat_le.2 (Nat.pow_le_pow_right (by decide) h))
theorem two32 (k : Nat) : two (32 * k) = KW k := by
  unfold two KW
  rw [Nat.pow_mul, W_eq]
def dy (h : Rat) (a k : Nat) : Rat := h * ((a : Int) : Rat) / two k
theorem dy_one (h : Rat) : dy h 1 0 = h := by
  unfold dy; rw [two_zero]; have : (((1 : Nat) : Int) : Rat) = 1 := rfl
  rw [this]; grind
theorem dy_double (h : Rat) (a k : Nat) : dy h a k + dy h a k = dy h (2 * a) k := by
  unfold dy
  have : (((2 * a : Nat) : Int) : Rat) = 2 * ((a : Int) : Rat) := by rw [Int.natCast_mul, Rat.intCast_mul]; rfl
  rw [this]; grind
theorem dy_halve (h : Rat) (a k : Nat) : dy h a k / 2 = dy h a (k + 1) := by
  unfold dy; rw [two_succ]; have := two_pos k; grind
theorem dy_up (h : Rat) (a k : Nat) : dy h a k = dy h (2 * a) (k + 1) := by
  rw [← dy_halve, ← dy_double]; grind
theorem dy_succ (h : Rat) (a k : Nat) : dy h (a + 1) k = dy h a k + h / two k := by
  unfold dy; rw [rcast_succ]; have := two_pos k; grind
theorem dy_mid (h : Rat) (a k : Nat) : (dy h a k + dy h (a + 1) k) / 2 = dy h (2 * a + 1) (k + 1) := by
  rw [dy_succ, dy_succ, ← dy_up, two_succ]; have := two_pos k; grind
theorem dy_pos {h : Rat} (h0 : 0 < h) {a : Nat} (ha : 0 < a) (k : Nat) : 0 < dy h a k := by
  unfold dy
  rw [Rat.div_def]
  exact Rat.mul_pos (Rat.mul_pos h0 (rcast_pos ha)) (Rat.inv_pos.2 (two_pos k))
theorem Q_nat {n k : Nat} (h : n < W ^ k) (hk : 1 ≤ k) : Q k ((n : Int) : Rat) := by
  refine Q_iff.2 ⟨?_, ?_⟩
  · show ((n : Int)).natAbs < W ^ k
    omega
  · show 1 < W ^ k
    exact Nat.lt_of_lt_of_le (by decide +kernel : 1 < W ^ 1) (Nat.pow_le_pow_right (by decide) hk)
theorem pow2_lt {k l : Nat} (h : k < 32 * l) : 2 ^ k < W ^ l := by
  rw [show W = 2 ^ 32 from by rw [W_eq], ← Nat.pow_mul]
  exact Nat.pow_lt_pow_right (by decide) h
theorem Q_two {k l : Nat} (h : k < 32 * l) : Q l (two k) := Q_nat (pow2_lt h) (by omega)
/-- The size of 2 ^ e in lowest terms over 2 ^ k is that of the greater one. -/
theorem Q_dy {h : Rat} {a k q l m : Nat} (hq : Q q h) (ha : a < W ^ l) (hl : 1 ≤ l) (hk : k < 32 * m) : Q (q + l + m + 1) (dy h a k) := by
  have := hq.mul (Q_nat ha hl)
  have h2 := Q_two hk
  rw [dy, Rat.div_def]
  have e := two_pos k
  have h3 : Q m (two k)⁻¹ := by
    obtain ⟨h4, h5⟩ := Q_iff.1 h2
    have hp : 0 < 2 ^ k := Nat.pow_pos (by decide)
    have e1 : (two k)⁻¹ = mkRat 1 (2 ^ k) := by
      rw [Rat.mkRat_eq_div]
      show (two k)⁻¹ = ((1 : Int) : Rat) / two k
      rw [Rat.div_def]
      have : ((1 : Int) : Rat) = 1 := rfl
      rw [this, Rat.one_mul]
    rw [e1]
    exact Q_mk (by omega) (by show 1 < W ^ m; exact Nat.lt_of_lt_of_le (by decide +kernel : 1 < W ^ 1) (Nat.pow_le_pow_right (by decide) (by omega))) (pow2_lt hk)
  exact (this.mul h3).le (by omega)
/-- 2 to the power of an integer. -/
def P2 (e : Int) : Rat := if e < 0 then 1 / two (-e).toNat else two e.toNat
theorem P2_pos (e : Int) : 0 < P2 e := by
  unfold P2
  split
  · rw [Rat.div_def]; exact Rat.mul_pos (by decide) (Rat.inv_pos.2 (two_pos _))
  · exact two_pos _
theorem P2_Q {e : Int} {l : Nat} (h1 : -(32 * l : Nat) < e) (h2 : e < (32 * l : Nat)) (hl : 1 ≤ l): Q (l + 3) (P2 e) := by
  unfold P2
  split
  · have := Q_dy (h := 1) (a := 1) (k := (-e).toNat) (q := 1) (l := 1) (m := l) ⟨by decide +kernel, by decide +kernel⟩ (by decide +kernel) (by decide) (by omega)
    have e1 : dy 1 1 (-e).toNat = 1 / two (-e).toNat := by unfold dy; rw [show (((1 : Nat) : Int) : Rat) = 1 from rfl]; grind
    rw [e1] at this
    exact this.le (by omega)
  · exact (Q_two (l := l) (by omega)).le (by omega)
theorem P2_le {e : Int} {l : Nat} (h1 : -(32 * l : Nat) ≤ e) (h2 : e ≤ (32 * l : Nat)) : P2 e ≤ KW l ∧ 1 ≤ P2 e * KW l := by
  rw [← two32]
  unfold P2
  have hp := two_pos (-e).toNat
  have hq := two_pos e.toNat
  have h1' : (1 : Rat) ≤ two (32 * l) := by have := two_mono (Nat.zero_le (32 * l)); rwa [two_zero] at this
  split
  · have a1 : two (-e).toNat ≤ two (32 * l) := two_mono (by omega)
    have a2 : (1 : Rat) ≤ two (-e).toNat := by have := two_mono (Nat.zero_le (-e).toNat); rwa [two_zero] at this
    refine ⟨rdiv_le hp ?_, ?_⟩
    · have := rmul_le a2 (c := two (32 * l)) (by grind); grind
    · have : 1 / two (-e).toNat * two (32 * l) = two (32 * l) / two (-e).toNat := by grind
      rw [this]; exact rle_div hp (by grind)
  · have a1 : two e.toNat ≤ two (32 * l) := two_mono (by omega)
    have a2 : (1 : Rat) ≤ two e.toNat := by have := two_mono (Nat.zero_le e.toNat); rwa [two_zero] at this
    refine ⟨a1, ?_⟩
    have := rmul_le a2 (c := two (32 * l)) (by grind); grind
/-! what Scale returns -/
structure ScaleOk (x : Nat → Rat) (n : Nat) (c b : Rat) (bits : Int) (lo hi : Rat) : Prop where
  pos : 0 < lo
  lt : lo < hi
  above : b < meanN x n c lo
  below : meanN x n c hi ≤ b
  narrow : hi - lo ≤ P2 (-bits) * hi
  qlo : Q 2000 lo
  qhi : Q 2000 hi
/-- The first loop: h0 2 ^ i. -/
theorem loop1_stop {x : Nat → Rat} {n : Nat} {c b h0 : Rat} {i : Nat} (hn : 0 < n) (hx : ∀ i, i < n → Q 64 (x i)) (hc : Q 64 c) (hc0 : 0 < c) (hb : Q 64 b) (hb0 : 0 < b) (hh : 1 ≤ h0 * KW 200)
    (ha : b < meanN x n c (dy h0 (2 ^ i) 0)) : i < 14624 := by
  apply Nat.lt_of_not_le
  intro h
  have hk := KW_pos 200
  have e : dy h0 (2 ^ i) 0 = h0 * two i := by unfold dy; rw [two_zero]; show h0 * two i / 1 = _; grind
  have h1 : two (32 * 457) ≤ two i := two_mono h
  rw [two32, KW_add 257 200] at h1
  have hh0 : 0 < h0 := by
    apply Rat.not_le.1
    intro hle
    have := rmul_le hle (c := KW 200) (by grind)
    grind
  have h2 := rmul_le h1 (Rat.le_of_lt hh0)
  have h3 := rmul_le hh (c := KW 257) (Rat.le_of_lt (KW_pos 257))
  have := mean_top hn hx hc hc0 hb hb0 (s := h0 * two i) (by grind)
  rw [e] at ha
  grind
theorem loop2_stop {x : Nat → Rat} {n : Nat} {c b h1 : Rat} {j : Nat} (hx : ∀ i, i < n → Q 64 (x i)) (hc : Q 64 c) (hc0 : 0 < c) (hs : b < shareN x n) (h0 : 0 < h1) (hh : h1 ≤ KW 657)
    (ha : ¬ b < meanN x n c (dy h1 1 j)) : j < 27168 := by
  apply Nat.lt_of_not_le
  intro h
  apply ha
  rw [mean_bot hx hc hc0 (dy_pos h0 (by decide) j) ?_]
  · exact hs
  · have h2 : two (32 * 849) ≤ two j := two_mono h
    rw [two32, KW_add 657 192] at h2
    have e : dy h1 1 j * KW 192 = h1 * KW 192 / two j := by unfold dy; show h1 * 1 / two j * KW 192 = _; grind
    rw [e]
    refine rdiv_le (two_pos j) ?_
    have := Rat.mul_le_mul_of_nonneg_right hh (Rat.le_of_lt (KW_pos 192))
    grind
theorem dy_le_KW {h0 : Rat} {i : Nat} (h0p : 0 < h0) (hh : h0 ≤ KW 200) (hi : i ≤ 14624) : dy h0 (2 ^ i) 0 ≤ KW 657 := by
  have e : dy h0 (2 ^ i) 0 = h0 * two i := by unfold dy; rw [two_zero]; show h0 * two i / 1 = _; grind
  rw [e]
  have h1 : two i ≤ two (32 * 457) := two_mono hi
  rw [two32] at h1
  have := rmul_le h1 (Rat.le_of_lt h0p)
  have h2 := Rat.mul_le_mul_of_nonneg_right hh (Rat.le_of_lt (KW_pos 457))
  have := KW_add 200 457
  grind
theorem loop3_stop {l : Rat} {a k bits : Nat} (hl : 0 < l) (ha : 2 ^ k ≤ a) (h : P2 (-(bits : Int)) * dy l (a + 1) k < dy l (a + 1) k - dy l a k) : k < bits := by
  apply Nat.lt_of_not_le
  intro hle
  have e2 : P2 (-(bits : Int)) = 1 / two bits := by
    unfold P2
    by_cases hb : bits = 0
    · subst hb; decide +kernel
    · rw [if_pos (by omega), show (-(-(bits : Int))).toNat = bits by omega]
  rw [dy_succ, e2] at h
  have hb := two_pos bits
  have hk := two_pos k
  have h1 : l / two k < two bits * (l / two k) + two bits * 0 ∨ True := .inr trivial
  have h2 : 1 / two bits * (dy l a k + l / two k) = (dy l a k + l / two k) / two bits := by grind
  rw [h2] at h
  have h3 : dy l a k + l / two k < two bits * (l / two k) := by
    apply Rat.not_le.1
    intro h4
    have h5 := rdiv_le_div h4 (Rat.le_of_lt hb)
    have e5 : two bits * (l / two k) / two bits = l / two k := by grind
    rw [e5] at h5
    grind
  have h6 : two k ≤ ((a : Int) : Rat) := Rat.intCast_le_intCast.2 (Int.ofNat_le.2 ha)
  have h7 : two bits ≤ two k := two_mono hle
  have h8 : dy l a k = l / two k * ((a : Int) : Rat) := by unfold dy; grind
  have hlk : 0 < l / two k := by rw [Rat.div_def]; exact Rat.mul_pos hl (Rat.inv_pos.2 hk)
  have h9 := rmul_le (rle_trans h7 h6) (Rat.le_of_lt hlk)
  grind
end Go.Proofs.Ytegnonhgildhoaa.E
namespace Go.Proofs.Ytegnonhgildhoaa.E
open Go Go.RowKit
set_option linter.unusedVariables false
set_option linter.unusedSimpArgs false
theorem Q1 : Q 1 (1 : Rat) := ⟨by decide +kernel, by decide +kernel⟩
theorem Q0 : Q 1 (0 : Rat) := ⟨by decide +kernel, by decide +kernel⟩
theorem m19_one : Spec Try.prog 40 #[] [] (ι := RA) (fun y => ratV y (encQ (1 : Rat))) (fun y => True) (fun y => [fRat y (encQ (1 : Rat))]) := by
 refine Spec.of_body _ (fn := Try.f40) k_ rfl k_ (fun X w0 => ?_)
 refine J.sreg ?_
 refine RN.new (fun b => pt b) (.cells (ratC (⟨saNil, saNil⟩ : RA) (⟨false, ([] : List Nat), ([] : List Nat)⟩ : Raw)) 27 (0, 0)) k_ k_ (fun w => by kernel_rfl) (fun b1 => ?_)
 refine RN.fs k_ ?_
 refine RN.call (rational_FromInt 1 y_ y_) [] k_ k_ k_ rfl (fun y2 _ => ?_)
 refine RN.bs [some 0] [0] [b1, b1, b1] 2 [(0, pt b1)] ([(b1, .cells (ratC y2 (encQ ((1 : Int) : Rat))) 27 (0, 0))]) k_ ?_
 refine RN.fin k_ ?_
 have e_1 : (encQ (1 : Rat)) = (encQ ((1 : Int) : Rat)) := by rfl
 refine J.ret (KR.ret (v := ratV y2 (encQ ((1 : Int) : Rat))) (y2) [some 0] [0] [b1, b1, b1] k_ v1_ (trivial) v1_)
theorem sign_gt {q : Rat} : Int.sign q.num > 0 ↔ 0 < q := by
  have h1 := Rat.num_nonneg (q := -q)
  rw [Rat.neg_num] at h1
  have h2 : 0 < q ↔ ¬ 0 ≤ -q := by
    rw [← Rat.not_le]
    constructor
    · intro h h3; exact h (by have := Rat.neg_le_neg h3; simpa using this)
    · intro h h3; exact h (by have := Rat.neg_le_neg h3; simpa using this)
  rw [h2, ← h1]
  constructor
  · intro h h3
    rcases Int.lt_trichotomy q.num 0 with h4 | h4 | h4
    · rw [Int.sign_eq_neg_one_of_neg h4] at h; omega
    · rw [h4] at h; simp at h
    · omega
  · intro h
    rw [Int.sign_eq_one_of_pos (by omega)]; decide
theorem m19_quotient (p : RA) (r : Raw) (u : RA) (t : Raw) (hr : RQ 268435456 r) (ht : RQ 268435456 t) : Spec Try.prog 38 #[ratV p r, ratV u t] [fRat p r, fRat u t] (ι := RA) (fun y => ratV y (encQ ((qv r) / (qv t)))) (fun y => True) (fun y => [fRat y (encQ ((qv r) / (qv t)))]) := by
 refine Spec.of_body _ (fn := Try.f38) k_ rfl k_ (fun X w0 => ?_)
 refine J.fact (φ := r.mag.length ≤ 140737488355328 ∧ r.den.length ≤ 140737488355328) (fun w h => by have h1 := (h _ (.head _)).1.1; have h2 := (h _ (.head _)).2.1; omega) (fun hl1 => ?_)
 refine J.fact (φ := t.mag.length ≤ 140737488355328 ∧ t.den.length ≤ 140737488355328) (fun w h => by have h1 := (h _ (.tail _ ((.head _)))).1.1; have h2 := (h _ (.tail _ ((.head _)))).2.1; omega) (fun hl2 => ?_)
 refine J.sreg ?_
 refine RN.new (fun b => pt b) (.cells (ratC p r) 27 (0, 0)) k_ k_ (fun w => by kernel_rfl) (fun b3 => ?_)
 refine RN.new (fun b => pt b) (.cells (ratC u t) 27 (0, 0)) k_ k_ (fun w => by kernel_rfl) (fun b4 => ?_)
 refine RN.new (fun b => pt b) (.cells (ratC (⟨saNil, saNil⟩ : RA) (⟨false, ([] : List Nat), ([] : List Nat)⟩ : Raw)) 27 (0, 0)) k_ k_ (fun w => by kernel_rfl) (fun b5 => ?_)
 refine RN.fs k_ ?_
 refine RN.bq [some 2, some 1] [4, 8, 9] [b4, b4, b4, b3, b3, b3] 2 [(4, pt b5), (8, ratV p r), (9, ratV u t)] k_ ?_
 refine RN.call (rational_Div p r u t y_ y_) [0, 1] k_ k_ k_ rfl (fun y6 _ => ?_)
 refine RN.bq (no 3) [4, 11, 12] [] 6 [(4, pt b5), (11, ratV y6 (encQ ((qv r) / (qv t)))), (12, .int .i64 (if (qv t) = 0 then 5 else 0))] k_ ?_
 refine RN.new (fun b => pt b) (.cells (ratC (⟨saNil, saNil⟩ : RA) (⟨false, ([] : List Nat), ([] : List Nat)⟩ : Raw)) 27 (0, 0)) k_ k_ (fun w => by kernel_rfl) (fun b7 => ?_)
 refine RN.bs [some 0, none] [4, 5] [b7, b7, b7] 9 [(4, pt b5), (5, pt b7)] ([(b7, .cells (ratC y6 (encQ ((qv r) / (qv t)))) 27 (0, 0)), (b5, .cells (ratC (⟨saNil, saNil⟩ : RA) (⟨false, ([] : List Nat), ([] : List Nat)⟩ : Raw)) 27 (0, 0)), (b4, .cells (ratC u t) 27 (0, 0)), (b3, .cells (ratC p r) 27 (0, 0))]) k_ ?_
 refine RN.fs k_ ?_
 refine RN.bs [some 0, some 1] [4] [b5, b5, b5, b7, b7, b7] 2 [(4, pt b5)] ([(b7, .cells (ratC y6 (encQ ((qv r) / (qv t)))) 27 (0, 0)), (b5, .cells (ratC y6 (encQ ((qv r) / (qv t)))) 27 (0, 0)), (b4, .cells (ratC u t) 27 (0, 0)), (b3, .cells (ratC p r) 27 (0, 0))]) k_ ?_
 refine RN.fin k_ ?_
 refine J.ret (KR.ret (v := ratV y6 (encQ ((qv r) / (qv t)))) (y6) [some 1] [0] [b5, b5, b5] k_ rfl (trivial) rfl)
theorem m19_quotient_c (p : RA) (r' : Rat) (u : RA) (t' : Rat) (hr : Q 268435456 r') (ht : Q 268435456 t') : Spec Try.prog 38 #[ratV p (encQ r'), ratV u (encQ t')] [fRat p (encQ r'), fRat u (encQ t')] (ι := RA) (fun y => ratV y (encQ (r' / t'))) (fun y => True) (fun y => [fRat y (encQ (r' / t'))]) := by
  have H := m19_quotient p (encQ r') u (encQ t') (RQ_enc hr) (RQ_enc ht)
  first | exact H | (simp only [qv_encQ, validQ_encQ] at H; exact H)
theorem m19_quotient_c1 (p : RA) (r' : Rat) (u : RA) (t : Raw) (hr : Q 268435456 r') (ht : RQ 268435456 t) : Spec Try.prog 38 #[ratV p (encQ r'), ratV u t] [fRat p (encQ r'), fRat u t] (ι := RA) (fun y => ratV y (encQ (r' / (qv t)))) (fun y => True) (fun y => [fRat y (encQ (r' / (qv t)))]) := by
  have H := m19_quotient p (encQ r') u t (RQ_enc hr) (by first | exact ht | simpa only [qv_encQ] using ht)
  first | exact H | (simp only [qv_encQ, validQ_encQ] at H; exact H)
theorem m19_quotient_c2 (p : RA) (r : Raw) (u : RA) (t' : Rat) (hr : RQ 268435456 r) (ht : Q 268435456 t') : Spec Try.prog 38 #[ratV p r, ratV u (encQ t')] [fRat p r, fRat u (encQ t')] (ι := RA) (fun y => ratV y (encQ ((qv r) / t'))) (fun y => True) (fun y => [fRat y (encQ ((qv r) / t'))]) := by
  have H := m19_quotient p r u (encQ t') (by first | exact hr | simpa only [qv_encQ] using hr) (RQ_enc ht)
  first | exact H | (simp only [qv_encQ, validQ_encQ] at H; exact H)
theorem m19_positive (p : RA) (r : Raw) (hr : RQ 268435456 r) : Spec Try.prog 13 #[ratV p r] [fRat p r] (ι := Unit) (fun y => .bool (decide (0 < (qv r)))) (fun y => True) (fun y => []) := by
 refine Spec.of_body _ (fn := Try.f13) k_ rfl k_ (fun X w0 => ?_)
 refine J.fact (φ := r.mag.length ≤ 140737488355328 ∧ r.den.length ≤ 140737488355328) (fun w h => by have h1 := (h _ (.head _)).1.1; have h2 := (h _ (.head _)).2.1; omega) (fun hl1 => ?_)
 refine J.sreg ?_
 refine RN.new (fun b => pt b) (.cells (ratC p r) 27 (0, 0)) k_ k_ (fun w => by kernel_rfl) (fun b2 => ?_)
 refine RN.bq (no 1) [1] [] 2 [(1, pt b2)] k_ ?_
 refine RN.fs k_ ?_
 refine RN.bq [some 0] [3] [b2, b2, b2] 1 [(3, ratV p r)] k_ ?_
 refine RN.call (rational_Sign p r y_) [0] k_ k_ k_ rfl (fun y3 _ => ?_)
 refine RN.bq (no 2) [2] [] 4 [(2, .bool (decide ((Int.sign ((qv r).num)) > 0)))] k_ ?_
 refine RN.fin k_ ?_
 have e_1 : (decide (0 < (qv r))) = (decide ((Int.sign ((qv r).num)) > 0)) := by rw [decide_eq_decide]; exact sign_gt.symm
 refine J.ret (KR.ret (v := .bool (decide ((Int.sign ((qv r).num)) > 0))) (()) [none] [] [] k_ v1_ (trivial) v1_)
theorem y_m19_Rho {p : Prop} (h : p := by first | assumption | exact Lb_toL _ | omega | (simp; done) | first | exact RQ_enc Q1 | exact Q.le Q1 (by decide) | (apply Q.le; (case h => (repeat' (first | assumption | exact Q1 | apply Q.sub | apply Q.add | apply Q.mul | apply Q.neg))); (case hab => omega)) | (refine RQ_enc ?_; (apply Q.le; (case h => (repeat' (first | assumption | exact Q1 | apply Q.sub | apply Q.add | apply Q.mul | apply Q.neg))); (case hab => omega)))) : p := h
theorem m19_Rho (p : RA) (r : Raw) (hr : RQ 268435456 r) (hs : Q 16777216 (qv r)) : Spec Try.prog 29 #[ratV p r] [fRat p r] (ι := RA) (fun y => ratV y (encQ (rhoQ (qv r)))) (fun y => True) (fun y => [fRat y (encQ (rhoQ (qv r)))]) := by
 refine Spec.of_body _ (fn := Try.f29) k_ rfl k_ (fun X w0 => ?_)
 refine J.fact (φ := r.mag.length ≤ 140737488355328 ∧ r.den.length ≤ 140737488355328) (fun w h => by have h1 := (h _ (.head _)).1.1; have h2 := (h _ (.head _)).2.1; omega) (fun hl1 => ?_)
 refine J.sreg ?_
 refine RN.new (fun b => pt b) (.cells (ratC p r) 27 (0, 0)) k_ k_ (fun w => by kernel_rfl) (fun b2 => ?_)
 refine RN.new (fun b => pt b) (.cells (ratC (⟨saNil, saNil⟩ : RA) (⟨false, ([] : List Nat), ([] : List Nat)⟩ : Raw)) 27 (0, 0)) k_ k_ (fun w => by kernel_rfl) (fun b3 => ?_)
 refine RN.fin k_ ?_
 refine J.seq ?_
 refine J.block ?_
 refine J.sreg ?_
 refine RN.bq [some 1] [1, 2, 5] [b2, b2, b2] 1 [(1, pt b2), (2, pt b3), (5, ratV p r)] k_ ?_
 refine RN.call (rational_Sign p r y_m19_Rho) [0] k_ k_ k_ rfl (fun y4 _ => ?_)
 refine RN.bq (no 2) [1, 2, 4] [] 4 [(1, pt b2), (2, pt b3), (4, .bool (decide ((Int.sign ((qv r).num)) < 0)))] k_ ?_
 refine RN.fin k_ ?_
 refine J.cond (decide ((Int.sign ((qv r).num)) < 0)) k_ (fun c5 => ?_) (fun c5 => ?_)
 ·replace c5 := of_decide_eq_true c5
  refine J.sreg ?_
  refine RN.bs [none, some 0] [2] [b3, b3, b3] 2 [(2, pt b3)] ([(b3, .cells (ratC (⟨saNil, saNil⟩ : RA) (⟨false, ([] : List Nat), ([] : List Nat)⟩ : Raw)) 27 (0, 0)), (b2, .cells (ratC p r) 27 (0, 0))]) k_ ?_
  refine RN.fin k_ ?_
  have e_1 : (encQ (rhoQ (qv r))) = (⟨false, ([] : List Nat), ([] : List Nat)⟩ : Raw) := by rw [rhoQ, if_pos (sign_lt.1 ‹_›), encQ_zero]
  have e_2 : (toL (((rhoQ (qv r)).num).natAbs)) = ([] : List Nat) := congrArg Raw.mag e_1
  have e_3 : (toD ((rhoQ (qv r)).den)) = ([] : List Nat) := congrArg Raw.den e_1
  refine J.also (fRat (⟨saNil, saNil⟩ : RA) (⟨false, ([] : List Nat), ([] : List Nat)⟩ : Raw)) (fun w h => ⟨fU_nil w, fU_nil w⟩) ?_
  refine J.ret (KR.blk (KR.next (KR.ret (v := ratV (⟨saNil, saNil⟩ : RA) (⟨false, ([] : List Nat), ([] : List Nat)⟩ : Raw)) (⟨saNil, saNil⟩) [some 0] [0] [b3, b3, b3] k_ (by first | rfl | (rw [e_1]; done) | (simp only [e_1]; done) | (rw [e_2, e_3]; done) | (rw [e_1, e_2, e_3]; rfl) | (simp only [e_1, e_2, e_3]; done) | (simp only [e_1, e_2, e_3]; rfl)) (trivial) (by first | rfl | (rw [e_1]; done) | (simp only [e_1]; done) | (rw [e_2, e_3]; done) | (rw [e_1, e_2, e_3]; rfl) | (simp only [e_1, e_2, e_3]; done) | (simp only [e_1, e_2, e_3]; rfl)))))
 ·replace c5 := of_decide_eq_false c5
  refine J.seq ?_
  refine J.regD k_ [] ?_
  refine RD.bq [(0, some 1)] [1, 2, 10] [b2, b2, b2] [(1, pt b2), (2, pt b3), (10, ratV p r)] k_ k_ ?_
  refine RD.call (i := 1) (m19_one) [] k_ k_ k_ k_ k_ rfl (fun y6 _ => ?_)
  refine RD.call (i := 2) (rational_Compare_c2 p r y6 (1 : Rat) y_m19_Rho y_m19_Rho) [1, 0] k_ k_ k_ k_ k_ rfl (fun y7 _ => ?_)
  refine RD.bq (nl [3, 4]) [1, 2, 9] [] [(1, pt b2), (2, pt b3), (9, .bool (decide ((cmpQ (qv r) (1 : Rat)) > 0)))] k_ k_ ?_
  refine RD.done k_ ?_
  refine KN.next ?_
  refine J.cond (decide ((cmpQ (qv r) (1 : Rat)) > 0)) k_ (fun c8 => ?_) (fun c8 => ?_)
  ·replace c8 := of_decide_eq_true c8
   refine J.sreg ?_
   refine RN.call (m19_one) [] k_ k_ k_ rfl (fun y9 _ => ?_)
   refine RN.bs [some 0] [2] [b3, b3, b3] 2 [(2, pt b3)] ([(b3, .cells (ratC y9 (encQ (1 : Rat))) 27 (0, 0)), (b2, .cells (ratC p r) 27 (0, 0))]) k_ ?_
   refine RN.fin k_ ?_
   have e_1 : (encQ (rhoQ (qv r))) = (encQ (1 : Rat)) := by rw [rhoQ, if_neg (mt sign_lt.2 ‹_›), if_pos (cmpQ_gt.1 ‹_›)]
   refine J.ret (KR.blk (KR.next (KR.ret (v := ratV y9 (encQ (1 : Rat))) (y9) [some 0] [0] [b3, b3, b3] k_ v1_ (trivial) v1_)))
  ·replace c8 := of_decide_eq_false c8
   refine J.skip ?_
   refine KN.blk ?_
   refine KN.next ?_
   refine J.seqC (ι := (RA) × (RA) × (Nat)) (fun x => True) (fun x => [(2, pt b3), (3, .pointer (some ⟨x.2.2, 0, none⟩))]) (fun x => [(x.2.2, .cells (ratC x.2.1 (encQ ((1 : Rat) - (qv r)))) 27 (0, 0)), (b3, .cells (ratC (⟨saNil, saNil⟩ : RA) (⟨false, ([] : List Nat), ([] : List Nat)⟩ : Raw)) 27 (0, 0)), (b2, .cells (ratC p r) 27 (0, 0))]) (fun x => [fRat x.2.1 (encQ ((1 : Rat) - (qv r))), fRat x.1 (encQ (1 : Rat)), fRat y6 (encQ (1 : Rat)), fRat p r]) ?_ ?_
   ·refine J.regD k_ [4] ?_
    refine RD.bq [(1, some 1)] [2, 16] [b2, b2, b2] [(2, pt b3), (16, ratV p r)] k_ k_ ?_
    refine RD.forkL (is := [0, 3]) k_ rfl k_ ⟨?_, ?_, trivial⟩
    ·refine RDi.call (i := 0) (m19_one) [] k_ k_ k_ k_ rfl (fun y10 _ => ?_)
     refine RD.forkL (is := [2, 3]) k_ rfl k_ ⟨?_, ?_, trivial⟩
     ·refine RDi.call (i := 2) (rational_Sub_c1 y10 (1 : Rat) p r y_m19_Rho y_m19_Rho) [0, 2] k_ k_ k_ k_ rfl (fun y11 _ => ?_)
      refine RD.new (i := 3) (fun b => pt b) (.cells (ratC (⟨saNil, saNil⟩ : RA) (⟨false, ([] : List Nat), ([] : List Nat)⟩ : Raw)) 27 (0, 0)) k_ k_ k_ k_ (fun w => by kernel_rfl) (fun b12 => ?_)
      refine RD.last (i := 4) (some 0) [2, 3] [b12, b12, b12] k_ k_ k_ (l' := [(2, pt b3), (3, pt b12)]) (M' := [(b12, .cells (ratC y11 (encQ ((1 : Rat) - (qv r)))) 27 (0, 0)), (b3, .cells (ratC (⟨saNil, saNil⟩ : RA) (⟨false, ([] : List Nat), ([] : List Nat)⟩ : Raw)) 27 (0, 0)), (b2, .cells (ratC p r) 27 (0, 0))]) k_ ?_
      refine RD.done k_ ?_
      refine KN.meet (y10, y11, b12) [2, 3] [0, 1, 2, 3] (l2 := [(2, pt b3), (3, pt b12)]) (by exact trivial) k_ (by rfl) (by rfl) (by rfl)
     ·refine RDi.new (i := 3) (fun b => pt b) (.cells (ratC (⟨saNil, saNil⟩ : RA) (⟨false, ([] : List Nat), ([] : List Nat)⟩ : Raw)) 27 (0, 0)) k_ k_ k_ (fun w => by kernel_rfl) (fun b13 => ?_)
      refine RD.call (i := 2) (rational_Sub_c1 y10 (1 : Rat) p r y_m19_Rho y_m19_Rho) [0, 2] k_ k_ k_ k_ k_ rfl (fun y14 _ => ?_)
      refine RD.last (i := 4) (some 0) [2, 3] [b13, b13, b13] k_ k_ k_ (l' := [(2, pt b3), (3, pt b13)]) (M' := [(b13, .cells (ratC y14 (encQ ((1 : Rat) - (qv r)))) 27 (0, 0)), (b3, .cells (ratC (⟨saNil, saNil⟩ : RA) (⟨false, ([] : List Nat), ([] : List Nat)⟩ : Raw)) 27 (0, 0)), (b2, .cells (ratC p r) 27 (0, 0))]) k_ ?_
      refine RD.done k_ ?_
      refine KN.meet (y10, y14, b13) [2, 3] [0, 1, 2, 3] (l2 := [(2, pt b3), (3, pt b13)]) (by exact trivial) k_ (by rfl) (by rfl) (by rfl)
    ·refine RDi.new (i := 3) (fun b => pt b) (.cells (ratC (⟨saNil, saNil⟩ : RA) (⟨false, ([] : List Nat), ([] : List Nat)⟩ : Raw)) 27 (0, 0)) k_ k_ k_ (fun w => by kernel_rfl) (fun b15 => ?_)
     refine RD.call (i := 0) (m19_one) [] k_ k_ k_ k_ k_ rfl (fun y16 _ => ?_)
     refine RD.call (i := 2) (rational_Sub_c1 y16 (1 : Rat) p r y_m19_Rho y_m19_Rho) [0, 2] k_ k_ k_ k_ k_ rfl (fun y17 _ => ?_)
     refine RD.last (i := 4) (some 0) [2, 3] [b15, b15, b15] k_ k_ k_ (l' := [(2, pt b3), (3, pt b15)]) (M' := [(b15, .cells (ratC y17 (encQ ((1 : Rat) - (qv r)))) 27 (0, 0)), (b3, .cells (ratC (⟨saNil, saNil⟩ : RA) (⟨false, ([] : List Nat), ([] : List Nat)⟩ : Raw)) 27 (0, 0)), (b2, .cells (ratC p r) 27 (0, 0))]) k_ ?_
     refine RD.done k_ ?_
     refine KN.meet (y16, y17, b15) [2, 3] [0, 1, 2, 3] (l2 := [(2, pt b3), (3, pt b15)]) (by exact trivial) k_ (by rfl) (by rfl) (by rfl)
   ·intro x18 hx19
    obtain ⟨y10, y11, b12⟩ := x18
    replace hx19 : True := hx19
    refine J.seq ?_
    refine J.regD k_ [7] ?_
    refine RD.bq [(1, some 0), (2, some 0), (3, some 0)] [2, 19, 20, 21] [b12, b12, b12, b12, b12, b12, b12, b12, b12] [(2, pt b3), (19, ratV y11 (encQ ((1 : Rat) - (qv r)))), (20, ratV y11 (encQ ((1 : Rat) - (qv r)))), (21, ratV y11 (encQ ((1 : Rat) - (qv r))))] k_ k_ ?_
    refine RD.call (i := 0) (m19_one) [] k_ k_ k_ k_ k_ rfl (fun y20 _ => ?_)
    refine RD.call (i := 4) (rational_Mul_c y11 ((1 : Rat) - (qv r)) y11 ((1 : Rat) - (qv r)) y_m19_Rho y_m19_Rho) [1, 1] k_ k_ k_ k_ k_ rfl (fun y21 _ => ?_)
    refine RD.call (i := 5) (rational_Mul_c y11 ((1 : Rat) - (qv r)) y21 (((1 : Rat) - (qv r)) * ((1 : Rat) - (qv r))) y_m19_Rho y_m19_Rho) [2, 0] k_ k_ k_ k_ k_ rfl (fun y22 _ => ?_)
    refine RD.call (i := 6) (rational_Sub_c y20 (1 : Rat) y22 (((1 : Rat) - (qv r)) * (((1 : Rat) - (qv r)) * ((1 : Rat) - (qv r)))) y_m19_Rho y_m19_Rho) [2, 0] k_ k_ k_ k_ k_ rfl (fun y23 _ => ?_)
    refine RD.last (i := 7) (some 1) [2] [b3, b3, b3] k_ k_ k_ (l' := [(2, pt b3)]) (M' := [(b12, .cells (ratC y11 (encQ ((1 : Rat) - (qv r)))) 27 (0, 0)), (b3, .cells (ratC y23 (encQ ((1 : Rat) - (((1 : Rat) - (qv r)) * (((1 : Rat) - (qv r)) * ((1 : Rat) - (qv r))))))) 27 (0, 0)), (b2, .cells (ratC p r) 27 (0, 0))]) k_ ?_
    refine RD.done k_ ?_
    refine KN.next ?_
    have e_1 : (encQ (rhoQ (qv r))) = (encQ ((1 : Rat) - (((1 : Rat) - (qv r)) * (((1 : Rat) - (qv r)) * ((1 : Rat) - (qv r)))))) := by rw [rhoQ, if_neg (mt sign_lt.2 ‹_›), if_neg (mt cmpQ_gt.2 ‹_›)]
    refine J.ret (KR.ret (v := ratV y23 (encQ ((1 : Rat) - (((1 : Rat) - (qv r)) * (((1 : Rat) - (qv r)) * ((1 : Rat) - (qv r))))))) (y23) [some 1] [0] [b3, b3, b3] k_ v1_ (trivial) v1_)
theorem m19_Rho_c (p : RA) (r' : Rat) (hr : Q 268435456 r') (hs : Q 16777216 r') : Spec Try.prog 29 #[ratV p (encQ r')] [fRat p (encQ r')] (ι := RA) (fun y => ratV y (encQ (rhoQ r'))) (fun y => True) (fun y => [fRat y (encQ (rhoQ r'))]) := by
  have H := m19_Rho p (encQ r') (RQ_enc hr) (by first | exact hs | simpa only [qv_encQ] using hs)
  first | exact H | (simp only [qv_encQ, validQ_encQ] at H; exact H)
def sizeE (n : Nat) : Int := if n = 0 then 10 else if 1024 < n then 2 else 0
def meanT (c s2 : Rat) (x : Rat) : Rat := rhoQ (x * x / (c * s2))
theorem m19_size (s : SA) (ps : List PR) : Spec Try.prog 12 #[sl s ps.length] [fRats s ps] (ι := Unit) (fun y => .int .i64 (sizeE ps.length)) (fun y => True) (fun y => []) := by
 refine Spec.of_body _ (fn := Try.f12) k_ rfl k_ (fun X w0 => ?_)
 refine J.fact (φ := ps.length ≤ 140737488355328) (fun w h => by have := (h _ (.head _)).1; omega) (fun hl1 => ?_)
 refine J.sreg ?_
 refine RN.bq (no 1) [0] [] 1 [(0, sl s ps.length)] k_ ?_
 refine RN.fin k_ ?_
 refine J.seq ?_
 refine J.block ?_
 refine J.sreg ?_
 refine RN.bq (no 4) [0, 3] [] 4 [(0, sl s ps.length), (3, .bool ((((ps.length : Nat) : Int) : Int) == 0))] k_ ?_
 refine RN.fin k_ ?_
 refine J.cond ((((ps.length : Nat) : Int) : Int) == 0) k_ (fun c2 => ?_) (fun c2 => ?_)
 ·replace c2 := eq_of_beq c2
  refine J.sreg ?_
  refine RN.bq (no 1) [2] [] 1 [(2, .int .i64 10)] k_ ?_
  refine RN.fin k_ ?_
  have e_1 : (sizeE ps.length : Int) = (10 : Int) := by unfold sizeE; first | (rw [if_pos (by omega)]; done) | (rw [if_neg (by omega), if_pos (by omega)]; done) | (rw [if_neg (by omega), if_neg (by omega)])
  refine J.ret (KR.blk (KR.next (KR.ret (v := .int .i64 10) (()) [none] [] [] k_ v1_ (trivial) v1_)))
 ·replace c2 := ne_of_beq_false c2
  refine J.sreg ?_
  refine RN.bq (no 4) [7] [] 4 [(7, .bool (decide (((ps.length : Nat) : Int) > 1024)))] k_ ?_
  refine RN.fin k_ ?_
  refine J.cond (decide (((ps.length : Nat) : Int) > 1024)) k_ (fun c3 => ?_) (fun c3 => ?_)
  ·replace c3 := of_decide_eq_true c3
   refine J.sreg ?_
   refine RN.bq (no 1) [2] [] 1 [(2, .int .i64 2)] k_ ?_
   refine RN.fin k_ ?_
   have e_1 : (sizeE ps.length : Int) = (2 : Int) := by unfold sizeE; first | (rw [if_pos (by omega)]; done) | (rw [if_neg (by omega), if_pos (by omega)]; done) | (rw [if_neg (by omega), if_neg (by omega)])
   refine J.ret (KR.blk (KR.next (KR.ret (v := .int .i64 2) (()) [none] [] [] k_ v1_ (trivial) v1_)))
  ·replace c3 := of_decide_eq_false c3
   refine J.skip ?_
   refine KN.blk ?_
   refine KN.next ?_
   refine J.sreg ?_
   refine RN.bq (no 1) [2] [] 1 [(2, .int .i64 0)] k_ ?_
   refine RN.fin k_ ?_
   have e_1 : (sizeE ps.length : Int) = (0 : Int) := by unfold sizeE; first | (rw [if_pos (by omega)]; done) | (rw [if_neg (by omega), if_pos (by omega)]; done) | (rw [if_neg (by omega), if_neg (by omega)])
   refine J.ret (KR.ret (v := .int .i64 0) (()) [none] [] [] k_ v1_ (trivial) v1_)
def sumTo (f : Rat → Rat) (ps : List PR) (k : Nat) : Rat := sumN (fun i => f (vals ps i)) k
theorem Q_rho {k : Nat} {u : Rat} (h : Q k u) : Q (3 * k + 9) (rhoQ u) := by
  unfold rhoQ
  split
  · exact Q0.le (by omega)
  · split
    · exact Q1.le (by omega)
    · have h1 := Q1.sub h
      exact (Q1.sub (h1.mul (h1.mul h1))).le (by omega)
theorem Q.div {k l : Nat} {p q : Rat} (hp : Q k p) (hq : Q l q) : Q (k + l + 1) (p / q) := by
  rw [← div_parts]
  obtain ⟨a, b⟩ := Q_iff.1 hp
  obtain ⟨c, d⟩ := Q_iff.1 hq
  by_cases h0 : q.num = 0
  · have : ((q.num * (p.den : Int) : Int) : Rat) = 0 := by rw [h0, Int.zero_mul]; rfl
    rw [this, Rat.div_def, Rat.inv_zero, Rat.mul_zero]
    exact Q0.le (by omega)
  · have hn : p.num * (q.den : Int) = p.num * (q.den : Int) := rfl
    have e1 : (p.num * (q.den : Int)).natAbs < W ^ (k + l + 1) := by
      rw [Int.natAbs_mul, Int.natAbs_natCast]
      exact Nat.lt_of_lt_of_le (mul_lt_pow a d) (Nat.pow_le_pow_right (by decide) (by omega))
    have e2 : (q.num * (p.den : Int)).natAbs < W ^ (k + l + 1) := by
      rw [Int.natAbs_mul, Int.natAbs_natCast, Nat.mul_comm]
      exact Nat.lt_of_lt_of_le (mul_lt_pow b c) (Nat.pow_le_pow_right (by decide) (by omega))
    have hd : (q.num * (p.den : Int)) ≠ 0 := Int.mul_ne_zero h0 (by have := p.den_nz; omega)
    rcases Int.lt_trichotomy (q.num * (p.den : Int)) 0 with h | h | h
    · rw [← mk_neg h]
      exact Q_mk (by omega) (by rw [Int.natAbs_neg]; exact e1) e2
    · exact absurd h hd
    · rw [← mk_pos h]
      exact Q_mk (by omega) e1 e2
theorem RQ.le {a b : Nat} {r : Raw} (h : RQ a r) (hab : a ≤ b) : RQ b r := ⟨h.1, h.2.1, Nat.le_trans h.2.2.1 hab, Nat.le_trans h.2.2.2.1 hab, h.2.2.2.2.le hab⟩
theorem Q_int {v : Int} (h : v.natAbs < 18446744073709551616) : Q 2 (v : Rat) := ⟨u64_len.2 h, by show (toL 1).length ≤ 2; rw [toL_1]; decide⟩
theorem Q_term {c s2 x : Rat} (hc : Q 64 c) (hs : Q 65536 s2) (hx : Q 64 x) : Q 128 (x * x) ∧ Q 65600 (c * s2) ∧ Q 65729 (x * x / (c * s2)) ∧ Q 197196 (meanT c s2 x) := by
  have h1 : Q 128 (x * x) := hx.mul hx
  have h2 : Q 65600 (c * s2) := hc.mul hs
  have h3 : Q 65729 (x * x / (c * s2)) := h1.div h2
  exact ⟨h1, h2, h3, Q_rho h3⟩
theorem y_m19_mean {p : Prop} (h : p := by first | assumption | exact Lb_toL _ | omega | (simp; done) | first | exact Q.le hc (by decide) | exact Q.le hs (by decide) | exact Q.le hx1 (by decide) | exact Q.le hx2 (by decide) | exact Q.le hx3 (by decide) | exact Q.le hx4 (by decide) | exact Q.le (Q_int (by omega)) (by decide) | exact Q.le (hc.mul hs) (by decide)) : p := h
theorem m19_mean (s : SA) (ps : List PR) (p : RA) (c : Raw) (u : RA) (t : Raw) (hps : ∀ i, i < ps.length → RQ 64 (ps.getD i pr0).2) (hcR : RQ 268435456 c) (htR : RQ 268435456 t) (hc : Q 64 (qv c)) (hs : Q 65536 (qv t)) (hn : ps.length ≤ 1024) : Spec Try.prog 14 #[sl s ps.length, ratV p c, ratV u t] [fRats s ps, fRat p c, fRat u t] (ι := RA) (fun y => ratV y (encQ (sumTo (meanT (qv c) (qv t)) ps ps.length / ((((ps.length : Nat) : Int)) : Rat)))) (fun y => True) (fun y => [fRat y (encQ (sumTo (meanT (qv c) (qv t)) ps ps.length / ((((ps.length : Nat) : Int)) : Rat)))]) := by
 refine Spec.of_body _ (fn := Try.f14) k_ rfl k_ (fun X w0 => ?_)
 refine J.fact (φ := ps.length ≤ 140737488355328) (fun w h => by have := (h _ (.head _)).1; omega) (fun hl1 => ?_)
 refine J.fact (φ := c.mag.length ≤ 140737488355328 ∧ c.den.length ≤ 140737488355328) (fun w h => by have h1 := (h _ (.tail _ ((.head _)))).1.1; have h2 := (h _ (.tail _ ((.head _)))).2.1; omega) (fun hl2 => ?_)
 refine J.fact (φ := t.mag.length ≤ 140737488355328 ∧ t.den.length ≤ 140737488355328) (fun w h => by have h1 := (h _ (.tail _ ((.tail _ ((.head _)))))).1.1; have h2 := (h _ (.tail _ ((.tail _ ((.head _)))))).2.1; omega) (fun hl3 => ?_)
 refine J.sreg ?_
 refine RN.new (fun b => pt b) (.cells (ratC p c) 27 (0, 0)) k_ k_ (fun w => by kernel_rfl) (fun b4 => ?_)
 refine RN.new (fun b => pt b) (.cells (ratC u t) 27 (0, 0)) k_ k_ (fun w => by kernel_rfl) (fun b5 => ?_)
 refine RN.new (fun b => pt b) (.cells (ratC (⟨saNil, saNil⟩ : RA) (⟨false, ([] : List Nat), ([] : List Nat)⟩ : Raw)) 27 (0, 0)) k_ k_ (fun w => by kernel_rfl) (fun b6 => ?_)
 refine RN.fs k_ ?_
 refine RN.new (fun b => pt b) (.cells (ratC (⟨saNil, saNil⟩ : RA) (⟨false, ([] : List Nat), ([] : List Nat)⟩ : Raw)) 27 (0, 0)) k_ k_ (fun w => by kernel_rfl) (fun b7 => ?_)
 refine RN.fs k_ ?_
 refine RN.bq [some 3, some 2] [0, 6, 7, 11, 12] [b5, b5, b5, b4, b4, b4] 2 [(0, sl s ps.length), (6, pt b6), (7, pt b7), (11, ratV p c), (12, ratV u t)] k_ ?_
 refine RN.call (rational_Mul p c u t y_m19_mean y_m19_mean) [1, 2] k_ k_ k_ rfl (fun y8 _ => ?_)
 refine RN.new (fun b => pt b) (.cells (ratC (⟨saNil, saNil⟩ : RA) (⟨false, ([] : List Nat), ([] : List Nat)⟩ : Raw)) 27 (0, 0)) k_ k_ (fun w => by kernel_rfl) (fun b9 => ?_)
 refine RN.bs [some 0] [0, 6, 7, 8] [b9, b9, b9] 5 [(0, sl s ps.length), (6, pt b6), (7, pt b7), (8, pt b9)] ([(b9, .cells (ratC y8 (encQ ((qv c) * (qv t)))) 27 (0, 0)), (b7, .cells (ratC (⟨saNil, saNil⟩ : RA) (⟨false, ([] : List Nat), ([] : List Nat)⟩ : Raw)) 27 (0, 0)), (b6, .cells (ratC (⟨saNil, saNil⟩ : RA) (⟨false, ([] : List Nat), ([] : List Nat)⟩ : Raw)) 27 (0, 0)), (b5, .cells (ratC u t) 27 (0, 0)), (b4, .cells (ratC p c) 27 (0, 0))]) k_ ?_
 refine RN.fin k_ ?_
 refine J.seq ?_
 refine J.sreg ?_
 refine RN.bq (no 3) [0, 6, 7, 8, 14, 15, 16] [] 3 [(0, sl s ps.length), (6, pt b6), (7, pt b7), (8, pt b9), (14, sl s ps.length), (15, .int .i64 ((ps.length : Nat) : Int)), (16, .int .i64 0)] k_ ?_
 refine RN.fin k_ ?_
 refine J.block ?_
 refine J.also (fRat (⟨saNil, saNil⟩ : RA) (encQ 0)) (fun w h => fRat_zero w) ?_
 refine J.loop (ι := (Nat) × (RA) × (Rat)) (fun x => x.1 ≤ ps.length ∧ x.2.2 = sumTo (meanT (qv c) (qv t)) ps x.1 ∧ Q (197198 * x.1 + 1) x.2.2) (fun x => ps.length - x.1) (fun x => [(0, sl s ps.length), (6, pt b6), (7, pt b7), (8, pt b9), (14, sl s ps.length), (15, .int .i64 ((ps.length : Nat) : Int)), (16, .int .i64 ((x.1 : Nat) : Int))]) (fun x => [(b9, .cells (ratC y8 (encQ ((qv c) * (qv t)))) 27 (0, 0)), (b7, .cells (ratC x.2.1 (encQ x.2.2)) 27 (0, 0)), (b6, .cells (ratC (⟨saNil, saNil⟩ : RA) (⟨false, ([] : List Nat), ([] : List Nat)⟩ : Raw)) 27 (0, 0)), (b5, .cells (ratC u t) 27 (0, 0)), (b4, .cells (ratC p c) 27 (0, 0))]) (fun x => [fRat x.2.1 (encQ x.2.2), fRat y8 (encQ ((qv c) * (qv t))), fRats s ps, fRat p c, fRat u t]) (0, (⟨saNil, saNil⟩ : RA), 0) [0, 6, 7, 8, 14, 15, 16] [0, 1, 2, 3, 4] (⟨Nat.zero_le _, rfl, Q0⟩) k_ (by first | rfl | (simp only [encQ_zero]; done) | (simp only [encQ_zero]; rfl)) (by rfl) (fun x10 hI => ?_)
 obtain ⟨i, so, S⟩ := x10
 replace hI : i ≤ ps.length ∧ S = sumTo (meanT (qv c) (qv t)) ps i ∧ Q (197198 * i + 1) S := hI
 obtain ⟨hI1, hI2, hI3⟩ := hI
 have hSL := hI3.le (by omega : 197198 * i + 1 ≤ 268435456)
 refine J.sreg ?_
 refine RN.bq (no 1) [0, 6, 7, 8, 14, 15, 16, 17] [] 1 [(0, sl s ps.length), (6, pt b6), (7, pt b7), (8, pt b9), (14, sl s ps.length), (15, .int .i64 ((ps.length : Nat) : Int)), (16, .int .i64 ((i : Nat) : Int)), (17, .bool (decide (((i : Nat) : Int) < ((ps.length : Nat) : Int))))] k_ ?_
 refine RN.fin k_ ?_
 refine J.seq ?_
 refine J.cond (decide (((i : Nat) : Int) < ((ps.length : Nat) : Int))) k_ (fun c11 => ?_) (fun c11 => ?_)
 ·replace c11 := of_decide_eq_true c11
  have hxr := hps i (by omega)
  have hxq := hxr.2.2.2.2
  have hxb := hxr.le (by decide : 64 ≤ 268435456)
  obtain ⟨hx1, hx2, hx3, hx4⟩ := Q_term hc hs hxq
  refine J.skip ?_
  refine KN.next ?_
  refine J.seq ?_
  refine J.block ?_
  refine J.sreg ?_
  refine RN.val _ k_ k_ (q_ridx (t := 22) (x := (.tmp 14)) (ix := (.tmp 16)) (K := .i64) (i0 := ((i : Nat) : Int)) (m := i) (e := 27) 2 rfl k_ k_ k_ k_ k_ (by omega) x_) ?_
  refine RN.val _ k_ k_ (q_rload (T := 27) (x := (.tmp 18)) (m := i) (s := s) (ps := ps) 2 rfl k_ k_ k_ k_ x_) ?_
  refine RN.also (fRat ((ps.getD i pr0).1) ((ps.getD i pr0).2)) (fun w h => rat_of (h _ (.tail _ ((.tail _ ((.head _)))))) x_) ?_
  refine RN.new (fun b => pt b) (.cells (ratC (⟨saNil, saNil⟩ : RA) (⟨false, ([] : List Nat), ([] : List Nat)⟩ : Raw)) 27 (0, 0)) k_ k_ (fun w => by kernel_rfl) (fun b12 => ?_)
  refine RN.bs [some 0] [0, 6, 7, 8, 10, 14, 15, 16] [b12, b12, b12] 4 [(0, sl s ps.length), (6, pt b6), (7, pt b7), (8, pt b9), (10, pt b12), (14, sl s ps.length), (15, .int .i64 ((ps.length : Nat) : Int)), (16, .int .i64 ((i : Nat) : Int))] ([(b12, .cells (ratC ((ps.getD i pr0).1) ((ps.getD i pr0).2)) 27 (0, 0)), (b9, .cells (ratC y8 (encQ ((qv c) * (qv t)))) 27 (0, 0)), (b7, .cells (ratC so (encQ S)) 27 (0, 0)), (b6, .cells (ratC (⟨saNil, saNil⟩ : RA) (⟨false, ([] : List Nat), ([] : List Nat)⟩ : Raw)) 27 (0, 0)), (b5, .cells (ratC u t) 27 (0, 0)), (b4, .cells (ratC p c) 27 (0, 0))]) k_ ?_
  refine RN.fin k_ ?_
  refine J.regD k_ [8] ?_
  refine RD.bq [(0, some 2), (1, some 0), (2, some 0), (4, some 1)] [0, 6, 7, 8, 14, 15, 16, 20, 21, 22, 24] [b9, b9, b9, b12, b12, b12, b12, b12, b12, b7, b7, b7] [(0, sl s ps.length), (6, pt b6), (7, pt b7), (8, pt b9), (14, sl s ps.length), (15, .int .i64 ((ps.length : Nat) : Int)), (16, .int .i64 ((i : Nat) : Int)), (20, ratV so (encQ S)), (21, ratV ((ps.getD i pr0).1) ((ps.getD i pr0).2)), (22, ratV ((ps.getD i pr0).1) ((ps.getD i pr0).2)), (24, ratV y8 (encQ ((qv c) * (qv t))))] k_ k_ ?_
  refine RD.call (i := 3) (rational_Mul ((ps.getD i pr0).1) ((ps.getD i pr0).2) ((ps.getD i pr0).1) ((ps.getD i pr0).2) y_m19_mean y_m19_mean) [0, 0] k_ k_ k_ k_ k_ rfl (fun y13 _ => ?_)
  refine RD.call (i := 5) (m19_quotient_c y13 ((qv ((ps.getD i pr0).2)) * (qv ((ps.getD i pr0).2))) y8 ((qv c) * (qv t)) y_m19_mean y_m19_mean) [0, 3] k_ k_ k_ k_ k_ rfl (fun y14 _ => ?_)
  refine RD.call (i := 6) (m19_Rho_c y14 (((qv ((ps.getD i pr0).2)) * (qv ((ps.getD i pr0).2))) / ((qv c) * (qv t))) y_m19_mean y_m19_mean) [0] k_ k_ k_ k_ k_ rfl (fun y15 _ => ?_)
  refine RD.call (i := 7) (rational_Add_c so S y15 (rhoQ (((qv ((ps.getD i pr0).2)) * (qv ((ps.getD i pr0).2))) / ((qv c) * (qv t)))) y_m19_mean y_m19_mean) [4, 0] k_ k_ k_ k_ k_ rfl (fun y16 _ => ?_)
  refine RD.last (i := 8) (some 2) [0, 6, 7, 8, 14, 15, 16] [b7, b7, b7] k_ k_ k_ (l' := [(0, sl s ps.length), (6, pt b6), (7, pt b7), (8, pt b9), (14, sl s ps.length), (15, .int .i64 ((ps.length : Nat) : Int)), (16, .int .i64 ((i : Nat) : Int))]) (M' := [(b12, .cells (ratC ((ps.getD i pr0).1) ((ps.getD i pr0).2)) 27 (0, 0)), (b9, .cells (ratC y8 (encQ ((qv c) * (qv t)))) 27 (0, 0)), (b7, .cells (ratC y16 (encQ (S + (rhoQ (((qv ((ps.getD i pr0).2)) * (qv ((ps.getD i pr0).2))) / ((qv c) * (qv t))))))) 27 (0, 0)), (b6, .cells (ratC (⟨saNil, saNil⟩ : RA) (⟨false, ([] : List Nat), ([] : List Nat)⟩ : Raw)) 27 (0, 0)), (b5, .cells (ratC u t) 27 (0, 0)), (b4, .cells (ratC p c) 27 (0, 0))]) k_ ?_
  refine RD.done k_ ?_
  refine KN.blk ?_
  refine KN.next ?_
  refine J.regN ?_
  refine RN.bq (no 1) [0, 6, 7, 8, 14, 15, 28] [] 1 [(0, sl s ps.length), (6, pt b6), (7, pt b7), (8, pt b9), (14, sl s ps.length), (15, .int .i64 ((ps.length : Nat) : Int)), (28, .int .i64 (IntKind.i64.wrap (((i : Nat) : Int) + 1)))] k_ ?_
  rw [show IntKind.i64.wrap (((i : Nat) : Int) + 1) = ((i + 1 : Nat) : Int) from by rw [IntKind.wrap_i64]; omega]
  refine RN.bq (no 1) [0, 6, 7, 8, 14, 15, 16] [] 2 [(0, sl s ps.length), (6, pt b6), (7, pt b7), (8, pt b9), (14, sl s ps.length), (15, .int .i64 ((ps.length : Nat) : Int)), (16, .int .i64 ((i + 1 : Nat) : Int))] k_ ?_
  refine RN.done k_ ?_
  refine KN.dropF 1 ?_
  refine KN.roundE (i + 1, y16, S + (rhoQ (((qv ((ps.getD i pr0).2)) * (qv ((ps.getD i pr0).2))) / ((qv c) * (qv t))))) [0, 6, 7, 8, 14, 15, 16] [0, 6, 7, 8, 9] (l2 := [(0, sl s ps.length), (6, pt b6), (7, pt b7), (8, pt b9), (14, sl s ps.length), (15, .int .i64 ((ps.length : Nat) : Int)), (16, .int .i64 ((i + 1 : Nat) : Int))]) (by (try dsimp only); omega) (by (try dsimp only); exact ⟨by omega, by rw [hI2]; rfl, (hI3.add hx4).le (by omega)⟩) k_ (by rfl) (by rfl) (by rfl)
 ·replace c11 := of_decide_eq_false c11
  have hi : i = ps.length := by omega
  subst hi
  refine J.exit (KX.next (KX.next (KX.hit ?_)))
  refine KN.next ?_
  refine J.seq ?_
  refine J.regD k_ [5] ?_
  refine RD.bq [(0, some 1), (1, none), (2, none)] [6, 29, 31] [b7, b7, b7] [(6, pt b6), (29, ratV so (encQ S)), (31, .int .i64 ((ps.length : Nat) : Int))] k_ k_ ?_
  refine RD.call (i := 3) (rational_FromInt ((ps.length : Nat) : Int) y_m19_mean y_m19_mean) [] k_ k_ k_ k_ k_ rfl (fun y17 _ => ?_)
  refine RD.call (i := 4) (m19_quotient_c so S y17 ((((ps.length : Nat) : Int) : Int) : Rat) y_m19_mean y_m19_mean) [1, 0] k_ k_ k_ k_ k_ rfl (fun y18 _ => ?_)
  refine RD.last (i := 5) (some 2) [6] [b6, b6, b6] k_ k_ k_ (l' := [(6, pt b6)]) (M' := [(b9, .cells (ratC y8 (encQ ((qv c) * (qv t)))) 27 (0, 0)), (b7, .cells (ratC so (encQ S)) 27 (0, 0)), (b6, .cells (ratC y18 (encQ (S / ((((ps.length : Nat) : Int) : Int) : Rat)))) 27 (0, 0)), (b5, .cells (ratC u t) 27 (0, 0)), (b4, .cells (ratC p c) 27 (0, 0))]) k_ ?_
  refine RD.done k_ ?_
  refine KN.next ?_
  have e_1 : (encQ (sumTo (meanT (qv c) (qv t)) ps ps.length / ((((ps.length : Nat) : Int)) : Rat))) = (encQ (S / ((((ps.length : Nat) : Int) : Int) : Rat))) := by rw [← hI2]
  refine J.ret (KR.ret (v := ratV y18 (encQ (S / ((((ps.length : Nat) : Int) : Int) : Rat)))) (y18) [some 2] [0] [b6, b6, b6] k_ v1_ (trivial) v1_)
theorem m19_mean_c2 (s : SA) (ps : List PR) (p : RA) (c : Raw) (u : RA) (t' : Rat) (hps : ∀ i, i < ps.length → RQ 64 (ps.getD i pr0).2) (hcR : RQ 268435456 c) (htR : Q 268435456 t') (hc : Q 64 (qv c)) (hs : Q 65536 t') (hn : ps.length ≤ 1024) : Spec Try.prog 14 #[sl s ps.length, ratV p c, ratV u (encQ t')] [fRats s ps, fRat p c, fRat u (encQ t')] (ι := RA) (fun y => ratV y (encQ (sumTo (meanT (qv c) t') ps ps.length / ((((ps.length : Nat) : Int)) : Rat)))) (fun y => True) (fun y => [fRat y (encQ (sumTo (meanT (qv c) t') ps ps.length / ((((ps.length : Nat) : Int)) : Rat)))]) := by
  have H := m19_mean s ps p c u (encQ t') (by first | exact hps | simpa only [qv_encQ] using hps) (by first | exact hcR | simpa only [qv_encQ] using hcR) (RQ_enc htR) (by first | exact hc | simpa only [qv_encQ] using hc) (by first | exact hs | simpa only [qv_encQ] using hs) (by first | exact hn | simpa only [qv_encQ] using hn)
  first | exact H | (simp only [qv_encQ, validQ_encQ] at H; exact H)
def meanE (n : Nat) (c s : Rat) : Int := if sizeE n ≠ 0 then sizeE n else if 0 < c ∧ 0 < s then 0 else 1
def meanV (ps : List PR) (c s : Rat) : Rat := if meanE ps.length c s = 0 then sumTo (meanT c s) ps ps.length / ((((ps.length : Nat) : Int)) : Rat) else 0
theorem sizeE_0 {n : Nat} (h : sizeE n = 0) : 0 < n ∧ n ≤ 1024 := by
  unfold sizeE at h
  split at h
  · omega
  · split at h <;> omega
theorem meanE_size {n : Nat} {c s : Rat} (h : sizeE n ≠ 0) : meanE n c s = sizeE n := if_pos h
theorem meanE_bad {n : Nat} {c s : Rat} (h : sizeE n = 0) (h2 : ¬ (0 < c ∧ 0 < s)) : meanE n c s = 1 := by unfold meanE; rw [if_neg (by omega), if_neg h2]
theorem meanE_ok {n : Nat} {c s : Rat} (h : sizeE n = 0) (h1 : 0 < c) (h2 : 0 < s) : meanE n c s = 0 := by unfold meanE; rw [if_neg (by omega), if_pos ⟨h1, h2⟩]
theorem meanV_bad {ps : List PR} {c s : Rat} (h : meanE ps.length c s ≠ 0) : encQ (meanV ps c s) = ⟨false, [], []⟩ := by unfold meanV; rw [if_neg h, encQ_zero]
theorem meanV_ok {ps : List PR} {c s : Rat} (h : meanE ps.length c s = 0) : meanV ps c s = sumTo (meanT c s) ps ps.length / ((((ps.length : Nat) : Int)) : Rat) := if_pos h
theorem m19_Mean (s : SA) (ps : List PR) (p : RA) (c : Raw) (u : RA) (t : Raw) (hcR : RQ 268435456 c) (htR : RQ 268435456 t) (hps : ∀ i, i < ps.length → RQ 64 (ps.getD i pr0).2) (hc : Q 64 (qv c)) (hs : Q 65536 (qv t)) : Spec Try.prog 6 #[sl s ps.length, ratV p c, ratV u t] [fRats s ps, fRat p c, fRat u t] (ι := RA) (fun y => .tuple #[ratV y (encQ (meanV ps (qv c) (qv t))), .int .i64 (meanE ps.length (qv c) (qv t))]) (fun y => True) (fun y => [fRat y (encQ (meanV ps (qv c) (qv t)))]) := by
 refine Spec.of_body _ (fn := Try.f6) k_ rfl k_ (fun X w0 => ?_)
 refine J.fact (φ := ps.length ≤ 140737488355328) (fun w h => by have := (h _ (.head _)).1; omega) (fun hl1 => ?_)
 refine J.fact (φ := c.mag.length ≤ 140737488355328 ∧ c.den.length ≤ 140737488355328) (fun w h => by have h1 := (h _ (.tail _ ((.head _)))).1.1; have h2 := (h _ (.tail _ ((.head _)))).2.1; omega) (fun hl2 => ?_)
 refine J.fact (φ := t.mag.length ≤ 140737488355328 ∧ t.den.length ≤ 140737488355328) (fun w h => by have h1 := (h _ (.tail _ ((.tail _ ((.head _)))))).1.1; have h2 := (h _ (.tail _ ((.tail _ ((.head _)))))).2.1; omega) (fun hl3 => ?_)
 refine J.sreg ?_
 refine RN.new (fun b => pt b) (.cells (ratC p c) 27 (0, 0)) k_ k_ (fun w => by kernel_rfl) (fun b4 => ?_)
 refine RN.new (fun b => pt b) (.cells (ratC u t) 27 (0, 0)) k_ k_ (fun w => by kernel_rfl) (fun b5 => ?_)
 refine RN.new (fun b => pt b) (.cells (ratC (⟨saNil, saNil⟩ : RA) (⟨false, ([] : List Nat), ([] : List Nat)⟩ : Raw)) 27 (0, 0)) k_ k_ (fun w => by kernel_rfl) (fun b6 => ?_)
 refine RN.bq (no 1) [0, 4, 5, 6] [] 4 [(0, sl s ps.length), (4, pt b4), (5, pt b5), (6, pt b6)] k_ ?_
 refine RN.fin k_ ?_
 refine J.seq ?_
 refine J.sreg ?_
 refine RN.bq (no 1) [0, 4, 5, 6, 9] [] 1 [(0, sl s ps.length), (4, pt b4), (5, pt b5), (6, pt b6), (9, sl s ps.length)] k_ ?_
 refine RN.call (m19_size s ps) [0] k_ k_ k_ rfl (fun y7 _ => ?_)
 refine RN.bq (no 1) [0, 4, 5, 6, 8] [] 3 [(0, sl s ps.length), (4, pt b4), (5, pt b5), (6, pt b6), (8, .int .i64 (sizeE ps.length))] k_ ?_
 refine RN.fs k_ ?_
 refine RN.bq (no 2) [0, 4, 5, 6, 8, 12] [] 2 [(0, sl s ps.length), (4, pt b4), (5, pt b5), (6, pt b6), (8, .int .i64 (sizeE ps.length)), (12, .bool (((sizeE ps.length) : Int) != 0))] k_ ?_
 refine RN.fin k_ ?_
 refine J.cond (((sizeE ps.length) : Int) != 0) k_ (fun c8 => ?_) (fun c8 => ?_)
 ·replace c8 := bne_iff_ne.1 c8
  have h0 : sizeE ps.length ≠ 0 := by simpa using c8
  refine J.sreg ?_
  refine RN.bs [none, none, some 0, none] [6, 7] [b6, b6, b6] 4 [(6, pt b6), (7, .int .i64 (sizeE ps.length))] ([(b6, .cells (ratC (⟨saNil, saNil⟩ : RA) (⟨false, ([] : List Nat), ([] : List Nat)⟩ : Raw)) 27 (0, 0)), (b5, .cells (ratC u t) 27 (0, 0)), (b4, .cells (ratC p c) 27 (0, 0))]) k_ ?_
  refine RN.fin k_ ?_
  have e_1 : (encQ (meanV ps (qv c) (qv t))) = (⟨false, ([] : List Nat), ([] : List Nat)⟩ : Raw) := by first | exact meanV_bad (by rw [meanE_size h0]; exact h0) | exact meanE_size h0 | exact meanV_bad (by rw [hE]; decide) | exact hE | (rw [meanV_ok hE])
  have e_2 : (toL (((meanV ps (qv c) (qv t)).num).natAbs)) = ([] : List Nat) := congrArg Raw.mag e_1
  have e_3 : (toD ((meanV ps (qv c) (qv t)).den)) = ([] : List Nat) := congrArg Raw.den e_1
  have e_4 : (meanE ps.length (qv c) (qv t) : Int) = (sizeE ps.length : Int) := by first | exact meanV_bad (by rw [meanE_size h0]; exact h0) | exact meanE_size h0 | exact meanV_bad (by rw [hE]; decide) | exact hE | (rw [meanV_ok hE])
  refine J.also (fRat (⟨saNil, saNil⟩ : RA) (⟨false, ([] : List Nat), ([] : List Nat)⟩ : Raw)) (fun w h => ⟨fU_nil w, fU_nil w⟩) ?_
  refine J.ret (KR.next (KR.ret (v := .tuple #[ratV (⟨saNil, saNil⟩ : RA) (⟨false, ([] : List Nat), ([] : List Nat)⟩ : Raw), .int .i64 (sizeE ps.length)]) (⟨saNil, saNil⟩) [some 0, none] [0] [b6, b6, b6] k_ (by first | rfl | (rw [e_1, e_4]; done) | (simp only [e_1, e_4]; done) | (rw [e_2, e_3]; done) | (rw [e_1, e_2, e_3, e_4]; rfl) | (simp only [e_1, e_2, e_3, e_4]; done) | (simp only [e_1, e_2, e_3, e_4]; rfl)) (trivial) (by first | rfl | (rw [e_1, e_4]; done) | (simp only [e_1, e_4]; done) | (rw [e_2, e_3]; done) | (rw [e_1, e_2, e_3, e_4]; rfl) | (simp only [e_1, e_2, e_3, e_4]; done) | (simp only [e_1, e_2, e_3, e_4]; rfl))))
 ·replace c8 := bne_eq_false_iff_eq.1 c8
  have h0 : sizeE ps.length = 0 := by simpa using c8
  have hn := (sizeE_0 h0).2
  refine J.skip ?_
  refine KN.next ?_
  refine J.seq ?_
  refine J.sreg ?_
  refine RN.bq [some 2] [0, 4, 5, 6, 15] [b4, b4, b4] 1 [(0, sl s ps.length), (4, pt b4), (5, pt b5), (6, pt b6), (15, ratV p c)] k_ ?_
  refine RN.call (m19_positive p c y_) [1] k_ k_ k_ rfl (fun y9 _ => ?_)
  refine RN.bq (no 2) [0, 4, 5, 6, 18] [] 4 [(0, sl s ps.length), (4, pt b4), (5, pt b5), (6, pt b6), (18, .bool (!(decide (0 < (qv c)))))] k_ ?_
  refine RN.split 18 (!(decide (0 < (qv c)))) k_ (fun c10 => ?_) (fun c10 => ?_)
  ·replace c10 := of_decide_eq_false ((Bool.not_eq_true' _).mp c10)
   have h1 : ¬ 0 < (qv c) := by simpa using c10
   have hE := meanE_bad (s := qv t) h0 (fun h => h1 h.1)
   refine RN.bq (no 4) [0, 4, 5, 6, 22] [] 8 [(0, sl s ps.length), (4, pt b4), (5, pt b5), (6, pt b6), (22, .bool true)] k_ ?_
   refine RN.fin k_ ?_
   refine J.condT k_ ?_
   refine J.sreg ?_
   refine RN.bs [none, some 0, none] [6, 7] [b6, b6, b6] 3 [(6, pt b6), (7, .int .i64 1)] ([(b6, .cells (ratC (⟨saNil, saNil⟩ : RA) (⟨false, ([] : List Nat), ([] : List Nat)⟩ : Raw)) 27 (0, 0)), (b5, .cells (ratC u t) 27 (0, 0)), (b4, .cells (ratC p c) 27 (0, 0))]) k_ ?_
   refine RN.fin k_ ?_
   have e_1 : (encQ (meanV ps (qv c) (qv t))) = (⟨false, ([] : List Nat), ([] : List Nat)⟩ : Raw) := by first | exact meanV_bad (by rw [meanE_size h0]; exact h0) | exact meanE_size h0 | exact meanV_bad (by rw [hE]; decide) | exact hE | (rw [meanV_ok hE])
   have e_2 : (toL (((meanV ps (qv c) (qv t)).num).natAbs)) = ([] : List Nat) := congrArg Raw.mag e_1
   have e_3 : (toD ((meanV ps (qv c) (qv t)).den)) = ([] : List Nat) := congrArg Raw.den e_1
   have e_4 : (meanE ps.length (qv c) (qv t) : Int) = (1 : Int) := by first | exact meanV_bad (by rw [meanE_size h0]; exact h0) | exact meanE_size h0 | exact meanV_bad (by rw [hE]; decide) | exact hE | (rw [meanV_ok hE])
   refine J.also (fRat (⟨saNil, saNil⟩ : RA) (⟨false, ([] : List Nat), ([] : List Nat)⟩ : Raw)) (fun w h => ⟨fU_nil w, fU_nil w⟩) ?_
   refine J.ret (KR.next (KR.ret (v := .tuple #[ratV (⟨saNil, saNil⟩ : RA) (⟨false, ([] : List Nat), ([] : List Nat)⟩ : Raw), .int .i64 1]) (⟨saNil, saNil⟩) [some 0, none] [0] [b6, b6, b6] k_ (by first | rfl | (rw [e_1, e_4]; done) | (simp only [e_1, e_4]; done) | (rw [e_2, e_3]; done) | (rw [e_1, e_2, e_3, e_4]; rfl) | (simp only [e_1, e_2, e_3, e_4]; done) | (simp only [e_1, e_2, e_3, e_4]; rfl)) (trivial) (by first | rfl | (rw [e_1, e_4]; done) | (simp only [e_1, e_4]; done) | (rw [e_2, e_3]; done) | (rw [e_1, e_2, e_3, e_4]; rfl) | (simp only [e_1, e_2, e_3, e_4]; done) | (simp only [e_1, e_2, e_3, e_4]; rfl))))
  ·replace c10 := of_decide_eq_true ((Bool.not_eq_false' _).mp c10)
   have h1 : 0 < (qv c) := by simpa using c10
   refine RN.bq [some 1] [0, 4, 5, 6, 18, 19] [b5, b5, b5] 5 [(0, sl s ps.length), (4, pt b4), (5, pt b5), (6, pt b6), (18, .bool false), (19, ratV u t)] k_ ?_
   refine RN.call (m19_positive u t y_) [2] k_ k_ k_ rfl (fun y11 _ => ?_)
   refine RN.bq (no 2) [0, 4, 5, 6, 22] [] 8 [(0, sl s ps.length), (4, pt b4), (5, pt b5), (6, pt b6), (22, .bool (!(decide (0 < (qv t)))))] k_ ?_
   refine RN.fin k_ ?_
   refine J.cond (!(decide (0 < (qv t)))) k_ (fun c12 => ?_) (fun c12 => ?_)
   ·replace c12 := of_decide_eq_false ((Bool.not_eq_true' _).mp c12)
    have h2 : ¬ 0 < (qv t) := by simpa using c12
    have hE := meanE_bad (c := qv c) h0 (fun h => h2 h.2)
    refine J.sreg ?_
    refine RN.bs [none, some 0, none] [6, 7] [b6, b6, b6] 3 [(6, pt b6), (7, .int .i64 1)] ([(b6, .cells (ratC (⟨saNil, saNil⟩ : RA) (⟨false, ([] : List Nat), ([] : List Nat)⟩ : Raw)) 27 (0, 0)), (b5, .cells (ratC u t) 27 (0, 0)), (b4, .cells (ratC p c) 27 (0, 0))]) k_ ?_
    refine RN.fin k_ ?_
    have e_1 : (encQ (meanV ps (qv c) (qv t))) = (⟨false, ([] : List Nat), ([] : List Nat)⟩ : Raw) := by first | exact meanV_bad (by rw [meanE_size h0]; exact h0) | exact meanE_size h0 | exact meanV_bad (by rw [hE]; decide) | exact hE | (rw [meanV_ok hE])
    have e_2 : (toL (((meanV ps (qv c) (qv t)).num).natAbs)) = ([] : List Nat) := congrArg Raw.mag e_1
    have e_3 : (toD ((meanV ps (qv c) (qv t)).den)) = ([] : List Nat) := congrArg Raw.den e_1
    have e_4 : (meanE ps.length (qv c) (qv t) : Int) = (1 : Int) := by first | exact meanV_bad (by rw [meanE_size h0]; exact h0) | exact meanE_size h0 | exact meanV_bad (by rw [hE]; decide) | exact hE | (rw [meanV_ok hE])
    refine J.also (fRat (⟨saNil, saNil⟩ : RA) (⟨false, ([] : List Nat), ([] : List Nat)⟩ : Raw)) (fun w h => ⟨fU_nil w, fU_nil w⟩) ?_
    refine J.ret (KR.next (KR.ret (v := .tuple #[ratV (⟨saNil, saNil⟩ : RA) (⟨false, ([] : List Nat), ([] : List Nat)⟩ : Raw), .int .i64 1]) (⟨saNil, saNil⟩) [some 0, none] [0] [b6, b6, b6] k_ (by first | rfl | (rw [e_1, e_4]; done) | (simp only [e_1, e_4]; done) | (rw [e_2, e_3]; done) | (rw [e_1, e_2, e_3, e_4]; rfl) | (simp only [e_1, e_2, e_3, e_4]; done) | (simp only [e_1, e_2, e_3, e_4]; rfl)) (trivial) (by first | rfl | (rw [e_1, e_4]; done) | (simp only [e_1, e_4]; done) | (rw [e_2, e_3]; done) | (rw [e_1, e_2, e_3, e_4]; rfl) | (simp only [e_1, e_2, e_3, e_4]; done) | (simp only [e_1, e_2, e_3, e_4]; rfl))))
   ·replace c12 := of_decide_eq_true ((Bool.not_eq_false' _).mp c12)
    have h2 : 0 < (qv t) := by simpa using c12
    have hE := meanE_ok h0 h1 h2
    refine J.skip ?_
    refine KN.next ?_
    refine J.sreg ?_
    refine RN.bq [none, some 2, some 1] [6, 24, 25, 26] [b5, b5, b5, b4, b4, b4] 3 [(6, pt b6), (24, sl s ps.length), (25, ratV p c), (26, ratV u t)] k_ ?_
    refine RN.call (m19_mean s ps p c u t y_ y_ y_ y_ y_ y_) [0, 1, 2] k_ k_ k_ rfl (fun y13 _ => ?_)
    refine RN.bs [some 0, none] [6, 7] [b6, b6, b6] 6 [(6, pt b6), (7, .int .i64 0)] ([(b6, .cells (ratC y13 (encQ (sumTo (meanT (qv c) (qv t)) ps ps.length / ((((ps.length : Nat) : Int)) : Rat)))) 27 (0, 0)), (b5, .cells (ratC u t) 27 (0, 0)), (b4, .cells (ratC p c) 27 (0, 0))]) k_ ?_
    refine RN.fin k_ ?_
    have e_1 : (encQ (meanV ps (qv c) (qv t))) = (encQ (sumTo (meanT (qv c) (qv t)) ps ps.length / ((((ps.length : Nat) : Int)) : Rat))) := by first | exact meanV_bad (by rw [meanE_size h0]; exact h0) | exact meanE_size h0 | exact meanV_bad (by rw [hE]; decide) | exact hE | (rw [meanV_ok hE])
    have e_2 : (meanE ps.length (qv c) (qv t) : Int) = (0 : Int) := by first | exact meanV_bad (by rw [meanE_size h0]; exact h0) | exact meanE_size h0 | exact meanV_bad (by rw [hE]; decide) | exact hE | (rw [meanV_ok hE])
    refine J.ret (KR.ret (v := .tuple #[ratV y13 (encQ (sumTo (meanT (qv c) (qv t)) ps ps.length / ((((ps.length : Nat) : Int)) : Rat))), .int .i64 0]) (y13) [some 0, none] [0] [b6, b6, b6] k_ v2_ (trivial) v2_)
theorem m19_Mean_c (s : SA) (ps : List PR) (p : RA) (c' : Rat) (u : RA) (t' : Rat) (hcR : Q 268435456 c') (htR : Q 268435456 t') (hps : ∀ i, i < ps.length → RQ 64 (ps.getD i pr0).2) (hc : Q 64 c') (hs : Q 65536 t') : Spec Try.prog 6 #[sl s ps.length, ratV p (encQ c'), ratV u (encQ t')] [fRats s ps, fRat p (encQ c'), fRat u (encQ t')] (ι := RA) (fun y => .tuple #[ratV y (encQ (meanV ps c' t')), .int .i64 (meanE ps.length c' t')]) (fun y => True) (fun y => [fRat y (encQ (meanV ps c' t'))]) := by
  have H := m19_Mean s ps p (encQ c') u (encQ t') (RQ_enc hcR) (RQ_enc htR) (by first | exact hps | simpa only [qv_encQ, qv_encQ] using hps) (by first | exact hc | simpa only [qv_encQ, qv_encQ] using hc) (by first | exact hs | simpa only [qv_encQ, qv_encQ] using hs)
  first | exact H | (simp only [qv_encQ, validQ_encQ] at H; exact H)
end Go.Proofs.Ytegnonhgildhoaa.E
namespace Go.Proofs.Ytegnonhgildhoaa.E
open Go Go.RowKit
set_option linter.unusedVariables false
set_option linter.unusedSimpArgs false
def checkE (n : Nat) (c b : Rat) (bits : Int) : Int := if sizeE n ≠ 0 then sizeE n else if 0 < c ∧ 0 < b ∧ b < 1 ∧ 0 ≤ bits ∧ bits ≤ 128 then 0 else 1
theorem checkE_size {n : Nat} {c b : Rat} {bits : Int} (h : sizeE n ≠ 0) : checkE n c b bits = sizeE n := if_pos h
theorem cmpQ_ge {x y : Rat} : cmpQ x y ≥ 0 ↔ ¬ x < y := by rw [← cmpQ_lt]; omega
theorem cmpQ_le {x y : Rat} : cmpQ x y ≤ 0 ↔ ¬ y < x := by rw [← cmpQ_gt]; omega
theorem y_m19_Check {p : Prop} (h : p := by first | assumption | exact Lb_toL _ | omega | (simp; done) | first | exact RQ_enc Q1 | exact Q.le Q1 (by decide)) : p := h
theorem m19_Check (s : SA) (ps : List PR) (p : RA) (c : Raw) (u : RA) (b : Raw) (bits : Int) (hc : RQ 268435456 c) (hb : RQ 268435456 b) : Spec Try.prog 15 #[sl s ps.length, ratV p c, ratV u b, .int .i64 bits] [fRats s ps, fRat p c, fRat u b] (ι := Unit) (fun y => .int .i64 (checkE ps.length (qv c) (qv b) bits)) (fun y => True) (fun y => []) := by
 refine Spec.of_body _ (fn := Try.f15) k_ rfl k_ (fun X w0 => ?_)
 refine J.fact (φ := ps.length ≤ 140737488355328) (fun w h => by have := (h _ (.head _)).1; omega) (fun hl1 => ?_)
 refine J.fact (φ := c.mag.length ≤ 140737488355328 ∧ c.den.length ≤ 140737488355328) (fun w h => by have h1 := (h _ (.tail _ ((.head _)))).1.1; have h2 := (h _ (.tail _ ((.head _)))).2.1; omega) (fun hl2 => ?_)
 refine J.fact (φ := b.mag.length ≤ 140737488355328 ∧ b.den.length ≤ 140737488355328) (fun w h => by have h1 := (h _ (.tail _ ((.tail _ ((.head _)))))).1.1; have h2 := (h _ (.tail _ ((.tail _ ((.head _)))))).2.1; omega) (fun hl3 => ?_)
 refine J.sreg ?_
 refine RN.new (fun b => pt b) (.cells (ratC p c) 27 (0, 0)) k_ k_ (fun w => by kernel_rfl) (fun b4 => ?_)
 refine RN.new (fun b => pt b) (.cells (ratC u b) 27 (0, 0)) k_ k_ (fun w => by kernel_rfl) (fun b5 => ?_)
 refine RN.bq (no 1) [0, 3, 5, 6] [] 3 [(0, sl s ps.length), (3, .int .i64 bits), (5, pt b4), (6, pt b5)] k_ ?_
 refine RN.fin k_ ?_
 refine J.seq ?_
 refine J.sreg ?_
 refine RN.bq (no 1) [3, 5, 6, 10] [] 1 [(3, .int .i64 bits), (5, pt b4), (6, pt b5), (10, sl s ps.length)] k_ ?_
 refine RN.call (m19_size s ps) [0] k_ k_ k_ rfl (fun y6 _ => ?_)
 refine RN.bq (no 1) [3, 5, 6, 9] [] 3 [(3, .int .i64 bits), (5, pt b4), (6, pt b5), (9, .int .i64 (sizeE ps.length))] k_ ?_
 refine RN.fs k_ ?_
 refine RN.bq (no 2) [3, 5, 6, 9, 13] [] 2 [(3, .int .i64 bits), (5, pt b4), (6, pt b5), (9, .int .i64 (sizeE ps.length)), (13, .bool (((sizeE ps.length) : Int) != 0))] k_ ?_
 refine RN.fin k_ ?_
 refine J.cond (((sizeE ps.length) : Int) != 0) k_ (fun c7 => ?_) (fun c7 => ?_)
 ·replace c7 := bne_iff_ne.1 c7
  have h0 : sizeE ps.length ≠ 0 := by simpa using c7
  refine J.sreg ?_
  refine RN.bq (no 2) [8] [] 2 [(8, .int .i64 (sizeE ps.length))] k_ ?_
  refine RN.fin k_ ?_
  have e_1 : (checkE ps.length (qv c) (qv b) bits : Int) = (sizeE ps.length : Int) := by first | exact checkE_size h0 | (unfold checkE; rw [if_neg (by omega)]; simp_all [cmpQ_ge, Rat.not_lt, Rat.not_le]; done) | (unfold checkE; rw [if_neg (by omega)]; simp_all [cmpQ_ge, Rat.not_lt, Rat.not_le]; grind)
  refine J.ret (KR.next (KR.ret (v := .int .i64 (sizeE ps.length)) (()) [none] [] [] k_ v1_ (trivial) v1_))
 ·replace c7 := bne_eq_false_iff_eq.1 c7
  have h0 : sizeE ps.length = 0 := by simpa using c7
  refine J.skip ?_
  refine KN.next ?_
  refine J.seq ?_
  refine J.seq ?_
  refine J.regD k_ [] ?_
  refine RD.bq [(0, some 1)] [3, 6, 15] [b4, b4, b4] [(3, .int .i64 bits), (6, pt b5), (15, ratV p c)] k_ k_ ?_
  refine RD.call (i := 1) (m19_positive p c y_m19_Check) [1] k_ k_ k_ k_ k_ rfl (fun y8 _ => ?_)
  refine RD.bq (nl [2, 3]) [3, 6, 18] [] [(3, .int .i64 bits), (6, pt b5), (18, .bool (!(decide (0 < (qv c)))))] k_ k_ ?_
  refine RD.split (t := 18) (!(decide (0 < (qv c)))) k_ (fun c9 => ?_) (fun c9 => ?_)
  ·replace c9 := of_decide_eq_false ((Bool.not_eq_true' _).mp c9)
   refine RD.bq (nl [4, 5, 6, 7, 8, 9, 10, 11, 12, 13, 14, 15, 16, 17, 18, 19, 20, 21]) [36] [] [(36, .bool true)] k_ k_ ?_
   refine RD.done k_ ?_
   refine KN.next ?_
   refine J.condT k_ ?_
   refine J.sreg ?_
   refine RN.bq (no 1) [8] [] 1 [(8, .int .i64 1)] k_ ?_
   refine RN.fin k_ ?_
   have e_1 : (checkE ps.length (qv c) (qv b) bits : Int) = (1 : Int) := by first | exact checkE_size h0 | (unfold checkE; rw [if_neg (by omega)]; simp_all [cmpQ_ge, Rat.not_lt, Rat.not_le]; done) | (unfold checkE; rw [if_neg (by omega)]; simp_all [cmpQ_ge, Rat.not_lt, Rat.not_le]; grind)
   refine J.ret (KR.next (KR.ret (v := .int .i64 1) (()) [none] [] [] k_ v1_ (trivial) v1_))
  ·replace c9 := of_decide_eq_true ((Bool.not_eq_false' _).mp c9)
   refine RD.bq [(4, some 0)] [3, 6, 18, 19] [b5, b5, b5] [(3, .int .i64 bits), (6, pt b5), (18, .bool false), (19, ratV u b)] k_ k_ ?_
   refine RD.call (i := 5) (m19_positive u b y_m19_Check) [2] k_ k_ k_ k_ k_ rfl (fun y10 _ => ?_)
   refine RD.bq (nl [6, 7, 8]) [3, 6, 23] [] [(3, .int .i64 bits), (6, pt b5), (23, .bool (!(decide (0 < (qv b)))))] k_ k_ ?_
   refine RD.split (t := 23) (!(decide (0 < (qv b)))) k_ (fun c11 => ?_) (fun c11 => ?_)
   ·replace c11 := of_decide_eq_false ((Bool.not_eq_true' _).mp c11)
    refine RD.bq (nl [9, 10, 11, 12, 13, 14, 15, 16, 17, 18, 19, 20, 21]) [36] [] [(36, .bool true)] k_ k_ ?_
    refine RD.done k_ ?_
    refine KN.next ?_
    refine J.condT k_ ?_
    refine J.sreg ?_
    refine RN.bq (no 1) [8] [] 1 [(8, .int .i64 1)] k_ ?_
    refine RN.fin k_ ?_
    have e_1 : (checkE ps.length (qv c) (qv b) bits : Int) = (1 : Int) := by first | exact checkE_size h0 | (unfold checkE; rw [if_neg (by omega)]; simp_all [cmpQ_ge, Rat.not_lt, Rat.not_le]; done) | (unfold checkE; rw [if_neg (by omega)]; simp_all [cmpQ_ge, Rat.not_lt, Rat.not_le]; grind)
    refine J.ret (KR.next (KR.ret (v := .int .i64 1) (()) [none] [] [] k_ v1_ (trivial) v1_))
   ·replace c11 := of_decide_eq_true ((Bool.not_eq_false' _).mp c11)
    refine RD.bq [(9, some 0)] [3, 23, 24] [b5, b5, b5] [(3, .int .i64 bits), (23, .bool false), (24, ratV u b)] k_ k_ ?_
    refine RD.call (i := 10) (m19_one) [] k_ k_ k_ k_ k_ rfl (fun y12 _ => ?_)
    refine RD.call (i := 11) (rational_Compare_c2 u b y12 (1 : Rat) y_m19_Check y_m19_Check) [3, 0] k_ k_ k_ k_ k_ rfl (fun y13 _ => ?_)
    refine RD.bq (nl [12, 13, 14]) [3, 29] [] [(3, .int .i64 bits), (29, .bool (decide ((cmpQ (qv b) (1 : Rat)) ≥ 0)))] k_ k_ ?_
    refine RD.split (t := 29) (decide ((cmpQ (qv b) (1 : Rat)) ≥ 0)) k_ (fun c14 => ?_) (fun c14 => ?_)
    ·replace c14 := of_decide_eq_true c14
     refine RD.bq (nl [15, 16, 17, 18, 19, 20, 21]) [36] [] [(36, .bool true)] k_ k_ ?_
     refine RD.done k_ ?_
     refine KN.next ?_
     refine J.condT k_ ?_
     refine J.sreg ?_
     refine RN.bq (no 1) [8] [] 1 [(8, .int .i64 1)] k_ ?_
     refine RN.fin k_ ?_
     have e_1 : (checkE ps.length (qv c) (qv b) bits : Int) = (1 : Int) := by first | exact checkE_size h0 | (unfold checkE; rw [if_neg (by omega)]; simp_all [cmpQ_ge, Rat.not_lt, Rat.not_le]; done) | (unfold checkE; rw [if_neg (by omega)]; simp_all [cmpQ_ge, Rat.not_lt, Rat.not_le]; grind)
     refine J.ret (KR.next (KR.ret (v := .int .i64 1) (()) [none] [] [] k_ v1_ (trivial) v1_))
    ·replace c14 := of_decide_eq_false c14
     refine RD.bq (nl [15, 16, 17, 18]) [3, 33] [] [(3, .int .i64 bits), (33, .bool (decide (bits < 0)))] k_ k_ ?_
     refine RD.split (t := 33) (decide (bits < 0)) k_ (fun c15 => ?_) (fun c15 => ?_)
     ·replace c15 := of_decide_eq_true c15
      refine RD.bq (nl [19, 20, 21]) [36] [] [(36, .bool true)] k_ k_ ?_
      refine RD.done k_ ?_
      refine KN.next ?_
      refine J.condT k_ ?_
      refine J.sreg ?_
      refine RN.bq (no 1) [8] [] 1 [(8, .int .i64 1)] k_ ?_
      refine RN.fin k_ ?_
      have e_1 : (checkE ps.length (qv c) (qv b) bits : Int) = (1 : Int) := by first | exact checkE_size h0 | (unfold checkE; rw [if_neg (by omega)]; simp_all [cmpQ_ge, Rat.not_lt, Rat.not_le]; done) | (unfold checkE; rw [if_neg (by omega)]; simp_all [cmpQ_ge, Rat.not_lt, Rat.not_le]; grind)
      refine J.ret (KR.next (KR.ret (v := .int .i64 1) (()) [none] [] [] k_ v1_ (trivial) v1_))
     ·replace c15 := of_decide_eq_false c15
      refine RD.bq (nl [19, 20, 21]) [36] [] [(36, .bool (decide (bits > 128)))] k_ k_ ?_
      refine RD.done k_ ?_
      refine KN.next ?_
      refine J.cond (decide (bits > 128)) k_ (fun c16 => ?_) (fun c16 => ?_)
      ·replace c16 := of_decide_eq_true c16
       refine J.sreg ?_
       refine RN.bq (no 1) [8] [] 1 [(8, .int .i64 1)] k_ ?_
       refine RN.fin k_ ?_
       have e_1 : (checkE ps.length (qv c) (qv b) bits : Int) = (1 : Int) := by first | exact checkE_size h0 | (unfold checkE; rw [if_neg (by omega)]; simp_all [cmpQ_ge, Rat.not_lt, Rat.not_le]; done) | (unfold checkE; rw [if_neg (by omega)]; simp_all [cmpQ_ge, Rat.not_lt, Rat.not_le]; grind)
       refine J.ret (KR.next (KR.ret (v := .int .i64 1) (()) [none] [] [] k_ v1_ (trivial) v1_))
      ·replace c16 := of_decide_eq_false c16
       refine J.skip ?_
       refine KN.next ?_
       refine J.sreg ?_
       refine RN.bq (no 1) [8] [] 1 [(8, .int .i64 0)] k_ ?_
       refine RN.fin k_ ?_
       have e_1 : (checkE ps.length (qv c) (qv b) bits : Int) = (0 : Int) := by first | exact checkE_size h0 | (unfold checkE; rw [if_neg (by omega)]; simp_all [cmpQ_ge, Rat.not_lt, Rat.not_le]; done) | (unfold checkE; rw [if_neg (by omega)]; simp_all [cmpQ_ge, Rat.not_lt, Rat.not_le]; grind)
       refine J.ret (KR.ret (v := .int .i64 0) (()) [none] [] [] k_ v1_ (trivial) v1_)
theorem cnt_b (p : Nat → Bool) (n : Nat) (h : n ≤ 1024) : -9223372036854775808 ≤ ((cntN p n : Nat) : Int) ∧ ((cntN p n : Nat) : Int) < 9223372036854775808 := by have := cntN_le p n; omega
def nzP (ps : List PR) (i : Nat) : Bool := decide (vals ps i ≠ 0)
theorem share_eq (ps : List PR) (n : Nat) : shareN (vals ps) n = ((cntN (nzP ps) n : Int) : Rat) / ((n : Int) : Rat) := rfl
theorem cnt_y {ps : List PR} {i : Nat} (h : Int.sign (qv (ps.getD i pr0).2).num ≠ 0) : cntN (nzP ps) i + 1 = cntN (nzP ps) (i + 1) := by
  rw [cntN, if_pos]
  rw [nzP, decide_eq_true_eq]
  intro h0
  exact h (by unfold vals at h0; rw [h0]; rfl)
theorem cnt_n {ps : List PR} {i : Nat} (h : Int.sign (qv (ps.getD i pr0).2).num = 0) : cntN (nzP ps) i = cntN (nzP ps) (i + 1) := by
  have hn : ¬ nzP ps i = true := by
    rw [nzP, decide_eq_true_eq]
    intro h0
    exact h0 (Rat.num_eq_zero.1 (Int.sign_eq_zero_iff_zero.1 h))
  rw [cntN, if_neg hn]; rfl
theorem y_m19_share {p : Prop} (h : p := by first | assumption | exact Lb_toL _ | omega | (simp; done) | first | exact Q.le hQ1 (by decide) | exact Q.le hQ2 (by decide) | (simp; omega)) : p := h
theorem m19_share (s : SA) (ps : List PR) (hps : ∀ i, i < ps.length → RQ 64 (ps.getD i pr0).2) (hn : ps.length ≤ 1024) : Spec Try.prog 17 #[sl s ps.length] [fRats s ps] (ι := RA) (fun y => ratV y (encQ (shareN (vals ps) ps.length))) (fun y => True) (fun y => [fRat y (encQ (shareN (vals ps) ps.length))]) := by
 refine Spec.of_body _ (fn := Try.f17) k_ rfl k_ (fun X w0 => ?_)
 refine J.fact (φ := ps.length ≤ 140737488355328) (fun w h => by have := (h _ (.head _)).1; omega) (fun hl1 => ?_)
 refine J.sreg ?_
 refine RN.new (fun b => pt b) (.cells (ratC (⟨saNil, saNil⟩ : RA) (⟨false, ([] : List Nat), ([] : List Nat)⟩ : Raw)) 27 (0, 0)) k_ k_ (fun w => by kernel_rfl) (fun b2 => ?_)
 refine RN.fs k_ ?_
 refine RN.bq (no 1) [0, 2, 3] [] 1 [(0, sl s ps.length), (2, pt b2), (3, .int .i64 0)] k_ ?_
 refine RN.fin k_ ?_
 refine J.seq ?_
 refine J.sreg ?_
 refine RN.bq (no 3) [0, 2, 3, 6, 7, 8] [] 3 [(0, sl s ps.length), (2, pt b2), (3, .int .i64 0), (6, sl s ps.length), (7, .int .i64 ((ps.length : Nat) : Int)), (8, .int .i64 0)] k_ ?_
 refine RN.fin k_ ?_
 refine J.block ?_
 refine J.loop (ι := (Nat) × (Nat)) (fun x => x.1 ≤ ps.length ∧ x.2 = cntN (nzP ps) x.1) (fun x => ps.length - x.1) (fun x => [(0, sl s ps.length), (2, pt b2), (3, .int .i64 ((x.2 : Nat) : Int)), (6, sl s ps.length), (7, .int .i64 ((ps.length : Nat) : Int)), (8, .int .i64 ((x.1 : Nat) : Int))]) (fun x => [(b2, .cells (ratC (⟨saNil, saNil⟩ : RA) (⟨false, ([] : List Nat), ([] : List Nat)⟩ : Raw)) 27 (0, 0))]) (fun x => [fRats s ps]) (0, 0) [0, 2, 3, 6, 7, 8] [0] (⟨Nat.zero_le _, rfl⟩) k_ (by first | rfl | (simp only [encQ_zero]; done) | (simp only [encQ_zero]; rfl)) (by rfl) (fun x3 hI => ?_)
 obtain ⟨i, k⟩ := x3
 replace hI : i ≤ ps.length ∧ k = cntN (nzP ps) i := hI
 obtain ⟨hI1, hI2⟩ := hI
 have hkb := cnt_b (nzP ps) i (by omega)
 have hkle := cntN_le (nzP ps) i
 refine J.sreg ?_
 refine RN.bq (no 1) [0, 2, 3, 6, 7, 8, 9] [] 1 [(0, sl s ps.length), (2, pt b2), (3, .int .i64 ((k : Nat) : Int)), (6, sl s ps.length), (7, .int .i64 ((ps.length : Nat) : Int)), (8, .int .i64 ((i : Nat) : Int)), (9, .bool (decide (((i : Nat) : Int) < ((ps.length : Nat) : Int))))] k_ ?_
 refine RN.fin k_ ?_
 refine J.seq ?_
 refine J.cond (decide (((i : Nat) : Int) < ((ps.length : Nat) : Int))) k_ (fun c4 => ?_) (fun c4 => ?_)
 ·replace c4 := of_decide_eq_true c4
  have hxr := hps i (by omega)
  have hxb := hxr.le (by decide : 64 ≤ 268435456)
  refine J.skip ?_
  refine KN.next ?_
  refine J.seq ?_
  refine J.block ?_
  refine J.sreg ?_
  refine RN.val _ k_ k_ (q_ridx (t := 22) (x := (.tmp 6)) (ix := (.tmp 8)) (K := .i64) (i0 := ((i : Nat) : Int)) (m := i) (e := 27) 0 rfl k_ k_ k_ k_ k_ (by omega) x_) ?_
  refine RN.val _ k_ k_ (q_rload (T := 27) (x := (.tmp 10)) (m := i) (s := s) (ps := ps) 0 rfl k_ k_ k_ k_ x_) ?_
  refine RN.also (fRat ((ps.getD i pr0).1) ((ps.getD i pr0).2)) (fun w h => rat_of (h _ (.head _)) x_) ?_
  refine RN.new (fun b => pt b) (.cells (ratC (⟨saNil, saNil⟩ : RA) (⟨false, ([] : List Nat), ([] : List Nat)⟩ : Raw)) 27 (0, 0)) k_ k_ (fun w => by kernel_rfl) (fun b5 => ?_)
  refine RN.bs [some 0] [0, 2, 3, 5, 6, 7, 8] [b5, b5, b5] 4 [(0, sl s ps.length), (2, pt b2), (3, .int .i64 ((k : Nat) : Int)), (5, pt b5), (6, sl s ps.length), (7, .int .i64 ((ps.length : Nat) : Int)), (8, .int .i64 ((i : Nat) : Int))] ([(b5, .cells (ratC ((ps.getD i pr0).1) ((ps.getD i pr0).2)) 27 (0, 0)), (b2, .cells (ratC (⟨saNil, saNil⟩ : RA) (⟨false, ([] : List Nat), ([] : List Nat)⟩ : Raw)) 27 (0, 0))]) k_ ?_
  refine RN.fs k_ ?_
  refine RN.bq [some 0] [0, 2, 3, 6, 7, 8, 12] [b5, b5, b5] 1 [(0, sl s ps.length), (2, pt b2), (3, .int .i64 ((k : Nat) : Int)), (6, sl s ps.length), (7, .int .i64 ((ps.length : Nat) : Int)), (8, .int .i64 ((i : Nat) : Int)), (12, ratV ((ps.getD i pr0).1) ((ps.getD i pr0).2))] k_ ?_
  refine RN.call (rational_Sign ((ps.getD i pr0).1) ((ps.getD i pr0).2) y_m19_share) [0] k_ k_ k_ rfl (fun y6 _ => ?_)
  refine RN.bq (no 1) [0, 2, 3, 6, 7, 8, 14] [] 3 [(0, sl s ps.length), (2, pt b2), (3, .int .i64 ((k : Nat) : Int)), (6, sl s ps.length), (7, .int .i64 ((ps.length : Nat) : Int)), (8, .int .i64 ((i : Nat) : Int)), (14, .bool (((Int.sign ((qv ((ps.getD i pr0).2)).num)) : Int) != 0))] k_ ?_
  refine RN.fin k_ ?_
  refine J.cond (((Int.sign ((qv ((ps.getD i pr0).2)).num)) : Int) != 0) k_ (fun c7 => ?_) (fun c7 => ?_)
  ·replace c7 := bne_iff_ne.1 c7
   refine J.regN ?_
   refine RN.bq (no 2) [0, 2, 6, 7, 8, 16] [] 2 [(0, sl s ps.length), (2, pt b2), (6, sl s ps.length), (7, .int .i64 ((ps.length : Nat) : Int)), (8, .int .i64 ((i : Nat) : Int)), (16, .int .i64 (IntKind.i64.wrap (((k : Nat) : Int) + 1)))] k_ ?_
   rw [show IntKind.i64.wrap (((k : Nat) : Int) + 1) = ((k + 1 : Nat) : Int) from by rw [IntKind.wrap_i64]; omega]
   refine RN.bq (no 1) [0, 2, 3, 6, 7, 8] [] 3 [(0, sl s ps.length), (2, pt b2), (3, .int .i64 ((k + 1 : Nat) : Int)), (6, sl s ps.length), (7, .int .i64 ((ps.length : Nat) : Int)), (8, .int .i64 ((i : Nat) : Int))] k_ ?_
   refine RN.done k_ ?_
   refine KN.blk ?_
   refine KN.next ?_
   refine J.regN ?_
   refine RN.bq (no 1) [0, 2, 3, 6, 7, 17] [] 1 [(0, sl s ps.length), (2, pt b2), (3, .int .i64 ((k + 1 : Nat) : Int)), (6, sl s ps.length), (7, .int .i64 ((ps.length : Nat) : Int)), (17, .int .i64 (IntKind.i64.wrap (((i : Nat) : Int) + 1)))] k_ ?_
   rw [show IntKind.i64.wrap (((i : Nat) : Int) + 1) = ((i + 1 : Nat) : Int) from by rw [IntKind.wrap_i64]; omega]
   refine RN.bq (no 1) [0, 2, 3, 6, 7, 8] [] 2 [(0, sl s ps.length), (2, pt b2), (3, .int .i64 ((k + 1 : Nat) : Int)), (6, sl s ps.length), (7, .int .i64 ((ps.length : Nat) : Int)), (8, .int .i64 ((i + 1 : Nat) : Int))] k_ ?_
   refine RN.done k_ ?_
   refine KN.dropF 1 ?_
   refine KN.roundE (i + 1, k + 1) [0, 2, 3, 6, 7, 8] [1] (l2 := [(0, sl s ps.length), (2, pt b2), (3, .int .i64 ((k + 1 : Nat) : Int)), (6, sl s ps.length), (7, .int .i64 ((ps.length : Nat) : Int)), (8, .int .i64 ((i + 1 : Nat) : Int))]) (by (try dsimp only); omega) (by (try dsimp only); exact ⟨by omega, by rw [hI2]; exact cnt_y ‹_›⟩) k_ (by rfl) (by rfl) (by rfl)
  ·replace c7 := bne_eq_false_iff_eq.1 c7
   refine J.skip ?_
   refine KN.blk ?_
   refine KN.next ?_
   refine J.regN ?_
   refine RN.bq (no 1) [0, 2, 3, 6, 7, 17] [] 1 [(0, sl s ps.length), (2, pt b2), (3, .int .i64 ((k : Nat) : Int)), (6, sl s ps.length), (7, .int .i64 ((ps.length : Nat) : Int)), (17, .int .i64 (IntKind.i64.wrap (((i : Nat) : Int) + 1)))] k_ ?_
   rw [show IntKind.i64.wrap (((i : Nat) : Int) + 1) = ((i + 1 : Nat) : Int) from by rw [IntKind.wrap_i64]; omega]
   refine RN.bq (no 1) [0, 2, 3, 6, 7, 8] [] 2 [(0, sl s ps.length), (2, pt b2), (3, .int .i64 ((k : Nat) : Int)), (6, sl s ps.length), (7, .int .i64 ((ps.length : Nat) : Int)), (8, .int .i64 ((i + 1 : Nat) : Int))] k_ ?_
   refine RN.done k_ ?_
   refine KN.dropF 1 ?_
   refine KN.roundE (i + 1, k) [0, 2, 3, 6, 7, 8] [1] (l2 := [(0, sl s ps.length), (2, pt b2), (3, .int .i64 ((k : Nat) : Int)), (6, sl s ps.length), (7, .int .i64 ((ps.length : Nat) : Int)), (8, .int .i64 ((i + 1 : Nat) : Int))]) (by (try dsimp only); omega) (by (try dsimp only); exact ⟨by omega, by rw [hI2]; exact cnt_n ‹_›⟩) k_ (by rfl) (by rfl) (by rfl)
 ·replace c4 := of_decide_eq_false c4
  have hi : i = ps.length := by omega
  subst hi
  have hQ1 := Q_int (v := ((k : Nat) : Int)) (by omega)
  have hQ2 := Q_int (v := ((ps.length : Nat) : Int)) (by omega)
  refine J.exit (KX.next (KX.next (KX.hit ?_)))
  refine KN.next ?_
  refine J.sreg ?_
  refine RN.bq (no 1) [0, 2, 18] [] 1 [(0, sl s ps.length), (2, pt b2), (18, .int .i64 ((k : Nat) : Int))] k_ ?_
  refine RN.call (rational_FromInt ((k : Nat) : Int) y_m19_share y_m19_share) [] k_ k_ k_ rfl (fun y8 _ => ?_)
  refine RN.bq (no 2) [2, 19, 21] [] 4 [(2, pt b2), (19, ratV y8 (encQ ((((k : Nat) : Int) : Int) : Rat))), (21, .int .i64 ((ps.length : Nat) : Int))] k_ ?_
  refine RN.call (rational_FromInt ((ps.length : Nat) : Int) y_m19_share y_m19_share) [] k_ k_ k_ rfl (fun y9 _ => ?_)
  refine RN.call (m19_quotient_c y8 ((((k : Nat) : Int) : Int) : Rat) y9 ((((ps.length : Nat) : Int) : Int) : Rat) y_m19_share y_m19_share) [1, 0] k_ k_ k_ rfl (fun y10 _ => ?_)
  refine RN.bs [some 0] [2] [b2, b2, b2] 7 [(2, pt b2)] ([(b2, .cells (ratC y10 (encQ (((((k : Nat) : Int) : Int) : Rat) / ((((ps.length : Nat) : Int) : Int) : Rat)))) 27 (0, 0))]) k_ ?_
  refine RN.fin k_ ?_
  have e_1 : (encQ (shareN (vals ps) ps.length)) = (encQ (((((k : Nat) : Int) : Int) : Rat) / ((((ps.length : Nat) : Int) : Int) : Rat))) := by rw [share_eq, ← hI2]
  refine J.ret (KR.ret (v := ratV y10 (encQ (((((k : Nat) : Int) : Int) : Rat) / ((((ps.length : Nat) : Int) : Int) : Rat)))) (y10) [some 0] [0] [b2, b2, b2] k_ v1_ (trivial) v1_)
def lenL (xs : List Nat) : Nat := if xs.length = 0 then 0 else 32 * xs.length - (32 - bl (xs.getD (xs.length - 1) 0))
theorem lenL_le (xs : List Nat) : lenL xs ≤ 32 * xs.length := by unfold lenL; split <;> omega
theorem y_m19_length {p : Prop} (h : p := by first | assumption | exact Lb_toL _ | omega | (simp; done) | exact hx.getD _) : p := h
theorem m19_length (s : SA) (xs : List Nat) (hx : Lb xs) (hl : xs.length ≤ 1073741824) : Spec Try.prog 45 #[sl s xs.length] [fU s xs] (ι := Unit) (fun y => .int .i64 ((lenL xs : Nat) : Int)) (fun y => True) (fun y => []) := by
 refine Spec.of_body _ (fn := Try.f45) k_ rfl k_ (fun X w0 => ?_)
 refine J.fact (φ := xs.length ≤ 140737488355328) (fun w h => by have := (h _ (.head _)).1; omega) (fun hl1 => ?_)
 refine J.sreg ?_
 refine RN.bq (no 1) [0] [] 1 [(0, sl s xs.length)] k_ ?_
 refine RN.fin k_ ?_
 refine J.seq ?_
 refine J.sreg ?_
 refine RN.bq (no 3) [0, 5] [] 3 [(0, sl s xs.length), (5, .bool ((((xs.length : Nat) : Int) : Int) == 0))] k_ ?_
 refine RN.fin k_ ?_
 refine J.cond ((((xs.length : Nat) : Int) : Int) == 0) k_ (fun c2 => ?_) (fun c2 => ?_)
 ·replace c2 := eq_of_beq c2
  refine J.sreg ?_
  refine RN.bq (no 1) [2] [] 1 [(2, .int .i64 0)] k_ ?_
  refine RN.fin k_ ?_
  have e_1 : (((lenL xs : Nat) : Int) : Int) = (0 : Int) := by unfold lenL; first | (rw [if_pos (show xs.length = 0 by omega)]; done) | (rw [if_pos (show xs.length = 0 by omega)]; rfl) | (rw [if_neg (show ¬ xs.length = 0 by omega)]; done) | (rw [if_neg (show ¬ xs.length = 0 by omega)]; rfl)
  refine J.ret (KR.next (KR.ret (v := .int .i64 0) (()) [none] [] [] k_ v1_ (trivial) v1_))
 ·replace c2 := ne_of_beq_false c2
  have hbl := bl_le32 (hx.getD (xs.length - 1))
  refine J.skip ?_
  refine KN.next ?_
  refine J.sreg ?_
  refine RN.bq (no 3) [0, 8] [] 3 [(0, sl s xs.length), (8, .int .i64 (IntKind.i64.wrap (32 * ((xs.length : Nat) : Int))))] k_ ?_
  rw [show IntKind.i64.wrap (32 * ((xs.length : Nat) : Int)) = ((32 * xs.length : Nat) : Int) from by rw [IntKind.wrap_i64]; omega]
  refine RN.bq (no 4) [8, 9, 12] [] 7 [(8, .int .i64 ((32 * xs.length : Nat) : Int)), (9, sl s xs.length), (12, .int .i64 (IntKind.i64.wrap (((xs.length : Nat) : Int) - 1)))] k_ ?_
  rw [show IntKind.i64.wrap (((xs.length : Nat) : Int) - 1) = ((xs.length - 1 : Nat) : Int) from by rw [IntKind.wrap_i64]; omega]
  refine RN.val _ k_ k_ (q_uidx (t := 23) (x := (.tmp 9)) (ix := (.tmp 12)) (K := .i64) (i0 := ((xs.length - 1 : Nat) : Int)) (m := xs.length - 1) (e := 58) 0 rfl k_ k_ k_ k_ k_ (by omega) x_) ?_
  refine RN.val _ k_ k_ (q_uload (T := 58) (x := (.tmp 13)) (m := xs.length - 1) (s := s) (xs := xs) 0 rfl k_ k_ k_ x_) ?_
  refine RN.call (bits_LeadingZeros32 (xs.getD (xs.length - 1) 0) y_m19_length) [] k_ k_ k_ rfl (fun y3 _ => ?_)
  refine RN.bq (no 1) [16] [] 11 [(16, .int .i64 (IntKind.i64.wrap (((32 * xs.length : Nat) : Int) - ((32 - bl (xs.getD (xs.length - 1) 0) : Nat) : Int))))] k_ ?_
  rw [show IntKind.i64.wrap (((32 * xs.length : Nat) : Int) - ((32 - bl (xs.getD (xs.length - 1) 0) : Nat) : Int)) = (((32 * xs.length) - (32 - bl (xs.getD (xs.length - 1) 0)) : Nat) : Int) from by rw [IntKind.wrap_i64]; omega]
  refine RN.bq (no 1) [2] [] 12 [(2, .int .i64 (((32 * xs.length) - (32 - bl (xs.getD (xs.length - 1) 0)) : Nat) : Int))] k_ ?_
  refine RN.fin k_ ?_
  have e_1 : (((lenL xs : Nat) : Int) : Int) = ((((32 * xs.length) - (32 - bl (xs.getD (xs.length - 1) 0)) : Nat) : Int) : Int) := by unfold lenL; first | (rw [if_pos (show xs.length = 0 by omega)]; done) | (rw [if_pos (show xs.length = 0 by omega)]; rfl) | (rw [if_neg (show ¬ xs.length = 0 by omega)]; done) | (rw [if_neg (show ¬ xs.length = 0 by omega)]; rfl)
  refine J.ret (KR.ret (v := .int .i64 (((32 * xs.length) - (32 - bl (xs.getD (xs.length - 1) 0)) : Nat) : Int)) (()) [none] [] [] k_ v1_ (trivial) v1_)
theorem m19_length_c (s : SA) (xs' : Nat) (hl : (toL xs').length ≤ 1073741824) : Spec Try.prog 45 #[sl s (toL xs').length] [fU s (toL xs')] (ι := Unit) (fun y => .int .i64 ((lenL (toL xs') : Nat) : Int)) (fun y => True) (fun y => []) := by
  have H := m19_length s (toL xs') (Lb_toL _) (by first | exact hl | simpa only [nv_toL] using hl)
  first | exact H | (simp only [nv_toL, lv_toL, validU_toL] at H; exact H)
def powL (n : Nat) : List Nat := (List.replicate (n / 32 + 1) 0).set (n / 32) (2 ^ (n % 32))
theorem shl1 {m : Nat} (h : m < 32) : 2 ^ m < 4294967296 := Nat.lt_of_lt_of_eq (Nat.pow_lt_pow_right (by decide) h) (by decide)
theorem rep_succ_set (k v : Nat) : (List.replicate (k + 1) 0).set k v = List.replicate k 0 ++ [v] := by
  induction k with
  | zero => rfl
  | succ k ih => rw [List.replicate_succ, List.set_cons_succ, ih]; rfl
theorem toL_shift (k v : Nat) (hv : 0 < v) (hb : v < 4294967296) : toL (W ^ k * v) = List.replicate k 0 ++ [v] := by
  induction k with
  | zero =>
    rw [Nat.pow_zero, Nat.one_mul, toL_pos (Nat.pos_iff_ne_zero.1 hv), show v / W = 0 from Nat.div_eq_of_lt hb, toL_zero, show v % W = v from Nat.mod_eq_of_lt hb]; rfl
  | succ k ih =>
    have e : W ^ (k + 1) * v = W * (W ^ k * v) := by rw [Nat.pow_succ, Nat.mul_comm (W ^ k) W, Nat.mul_assoc]
    have hp : 0 < W ^ k * v := Nat.mul_pos (Wpos k) hv
    rw [e, toL_pos (Nat.pos_iff_ne_zero.1 (Nat.mul_pos (by decide) hp)), Nat.mul_mod_right, Nat.mul_div_cancel_left _ (by decide), ih, List.replicate_succ]; rfl
theorem powL_eq (n : Nat) : powL n = toL (2 ^ n) := by
  have e : 2 ^ n = W ^ (n / 32) * 2 ^ (n % 32) := by
    rw [show W = 2 ^ 32 from by rw [W_eq], ← Nat.pow_mul, ← Nat.pow_add, Nat.div_add_mod]
  rw [powL, rep_succ_set, e, toL_shift _ _ (Nat.pow_pos (by decide)) (shl1 (Nat.mod_lt _ (by decide)))]
theorem powL_enc (n : Nat) : (⟨false, powL n, []⟩ : Raw) = encQ (two n) := by
  rw [powL_eq, two, encQ_int]
  congr 1
theorem P2_neg {k : Int} (h : k < 0) : P2 k = 1 / two k.natAbs := by unfold P2; rw [if_pos h, show (-k).toNat = k.natAbs from by omega]
theorem P2_nn {k : Int} (h : ¬ k < 0) : P2 k = two k.natAbs := by unfold P2; rw [if_neg h, show k.toNat = k.natAbs from by omega]
theorem powQ {k : Int} (h1 : -1000000 ≤ k) (h2 : k ≤ 1000000) : Q 31251 (two k.natAbs) := Q_two (by omega)
theorem y_m19_power {p : Prop} (h : p := by first | assumption | exact Lb_toL _ | omega | (simp; done) | first | exact RQ_enc Q1 | exact Q.le Q1 (by decide) | (show RQ 268435456 ⟨false, powL k.natAbs, []⟩; rw [hpe]; exact RQ_enc (hpq.le (by decide)))) : p := h
theorem m19_power (k : Int) (h1 : -1000000 ≤ k) (h2 : k ≤ 1000000) : Spec Try.prog 19 #[.int .i64 k] [] (ι := RA) (fun y => ratV y (encQ (P2 k))) (fun y => True) (fun y => [fRat y (encQ (P2 k))]) := by
 refine Spec.of_body _ (fn := Try.f19) k_ rfl k_ (fun X w0 => ?_)
 have hn : k.natAbs ≤ 1000000 := by omega
 have hm := Nat.mod_lt k.natAbs (by decide : 0 < 32)
 have hpw := shl1 hm
 have hpq := powQ h1 h2
 have hpe := powL_enc k.natAbs
 refine J.sreg ?_
 refine RN.new (fun b => pt b) (.cells (ratC (⟨saNil, saNil⟩ : RA) (⟨false, ([] : List Nat), ([] : List Nat)⟩ : Raw)) 27 (0, 0)) k_ k_ (fun w => by kernel_rfl) (fun b1 => ?_)
 refine RN.fs k_ ?_
 refine RN.bq (no 3) [0, 2, 6, 8] [] 3 [(0, .int .i64 k), (2, pt b1), (6, .int .i64 k), (8, .int .i64 (IntKind.i64.wrap (0 - k)))] k_ ?_
 rw [show IntKind.i64.wrap (0 - k) = (-k) from by rw [IntKind.wrap_i64]; omega]
 refine RN.bq (no 1) [0, 2, 9] [] 4 [(0, .int .i64 k), (2, pt b1), (9, .int .i64 (if (-k) > k then (-k) else k))] k_ ?_
 rw [show (if (-k) > k then (-k) else k) = ((k.natAbs : Nat) : Int) from by split <;> omega]
 refine RN.bq (no 1) [0, 2, 3] [] 5 [(0, .int .i64 k), (2, pt b1), (3, .int .i64 ((k.natAbs : Nat) : Int))] k_ ?_
 refine RN.fs k_ ?_
 refine RN.bq (no 2) [0, 2, 3, 11] [] 2 [(0, .int .i64 k), (2, pt b1), (3, .int .i64 ((k.natAbs : Nat) : Int)), (11, .int .i64 (IntKind.i64.wrap (Int.tdiv ((k.natAbs : Nat) : Int) 32)))] k_ ?_
 rw [show IntKind.i64.wrap (Int.tdiv ((k.natAbs : Nat) : Int) 32) = (((k.natAbs) / 32 : Nat) : Int) from by rw [show (32 : Int) = ((32 : Nat) : Int) from rfl, tdivn, IntKind.wrap_i64]; omega]
 refine RN.bq (no 1) [0, 2, 3, 12] [] 3 [(0, .int .i64 k), (2, pt b1), (3, .int .i64 ((k.natAbs : Nat) : Int)), (12, .int .i64 (IntKind.i64.wrap ((((k.natAbs) / 32 : Nat) : Int) + 1)))] k_ ?_
 rw [show IntKind.i64.wrap ((((k.natAbs) / 32 : Nat) : Int) + 1) = ((((k.natAbs) / 32) + 1 : Nat) : Int) from by rw [IntKind.wrap_i64]; omega]
 refine RN.make (e := 0) (m := (((k.natAbs) / 32) + 1)) (.cells (encU (List.replicate (((k.natAbs) / 32) + 1) 0)) 58 (0, 0)) k_ k_ (fun w => (q_make1 (t := 23) (m := (((k.natAbs) / 32) + 1)) (by_ := 4) (K := .i64) (K' := .i64) (n1 := ((((k.natAbs) / 32) + 1 : Nat) : Int)) (n2 := ((((k.natAbs) / 32) + 1 : Nat) : Int)) (x := (.tmp 12)) (y := (.tmp 12)) (e := 58) k_ k_ k_ (by omega) (by omega) k_ k_ rfl (by omega) (by omega) w).trans (by rw [encU_rep])) (fun b2 => ?_)
 refine RN.bq (no 1) [0, 2, 3, 4] [] 5 [(0, .int .i64 k), (2, pt b1), (3, .int .i64 ((k.natAbs : Nat) : Int)), (4, .slice (some ⟨b2, 0, none⟩) (((k.natAbs) / 32) + 1) (((k.natAbs) / 32) + 1))] k_ ?_
 refine RN.fs k_ ?_
 refine RN.bq (no 3) [0, 2, 3, 4, 14, 16] [] 3 [(0, .int .i64 k), (2, pt b1), (3, .int .i64 ((k.natAbs : Nat) : Int)), (4, .slice (some ⟨b2, 0, none⟩) (((k.natAbs) / 32) + 1) (((k.natAbs) / 32) + 1)), (14, .slice (some ⟨b2, 0, none⟩) (((k.natAbs) / 32) + 1) (((k.natAbs) / 32) + 1)), (16, .int .i64 (IntKind.i64.wrap (Int.tdiv ((k.natAbs : Nat) : Int) 32)))] k_ ?_
 rw [show IntKind.i64.wrap (Int.tdiv ((k.natAbs : Nat) : Int) 32) = (((k.natAbs) / 32 : Nat) : Int) from by rw [show (32 : Int) = ((32 : Nat) : Int) from rfl, tdivn, IntKind.wrap_i64]; omega]
 refine RN.bq (no 2) [0, 2, 4, 14, 16, 18] [] 5 [(0, .int .i64 k), (2, pt b1), (4, .slice (some ⟨b2, 0, none⟩) (((k.natAbs) / 32) + 1) (((k.natAbs) / 32) + 1)), (14, .slice (some ⟨b2, 0, none⟩) (((k.natAbs) / 32) + 1) (((k.natAbs) / 32) + 1)), (16, .int .i64 (((k.natAbs) / 32 : Nat) : Int)), (18, .int .i64 (Int.tmod ((k.natAbs : Nat) : Int) 32))] k_ ?_
 rw [show Int.tmod ((k.natAbs : Nat) : Int) 32 = (((k.natAbs) % 32 : Nat) : Int) from by rw [show (32 : Int) = ((32 : Nat) : Int) from rfl, tmodn]]
 refine RN.val _ k_ k_ (q_shl (T := 58) (T' := 3) (x := (.const (.int .u32 1))) (y := (.tmp 18)) (k := .u32) (k' := .i64) (a := 1) (b := (((k.natAbs) % 32 : Nat) : Int)) (m := ((k.natAbs) % 32)) k_ k_ k_ (by omega) (by simp only [IntKind.bits]; omega)) ?_
 rw [show (IntKind.u32.wrap (1 * 2 ^ ((k.natAbs) % 32))) = ((2 ^ (k.natAbs % 32) : Nat) : Int) from by exact uw32b _ (by simp) hpw]
 refine RN.val _ k_ k_ (q_oidx (t := 23) (x := (.tmp 14)) (ix := (.tmp 16)) (b := b2) (n := (((k.natAbs) / 32) + 1)) (c := (((k.natAbs) / 32) + 1)) (K := .i64) (i0 := (((k.natAbs) / 32 : Nat) : Int)) (m := (k.natAbs) / 32) (e := 58) (sz := 1) k_ k_ k_ k_ k_ (by omega) (by omega)) ?_
 refine RN.ot k_ k_ (ot_ustore (mi := 0) (T := 58) (x := (.tmp 20)) (y := (.tmp 19)) (b := b2) (m := (k.natAbs) / 32) (xs := List.replicate (((k.natAbs) / 32) + 1) 0) (v := ((2 ^ (k.natAbs % 32) : Nat) : Int)) (v0 := 2 ^ (k.natAbs % 32)) rfl k_ k_ k_ k_ k_ (by omega) (by (simp; try omega))) (fun _ _ => ?_)
 refine RN.fs k_ ?_
 refine RN.bq (no 1) [0, 2, 21] [] 1 [(0, .int .i64 k), (2, pt b1), (21, .slice (some ⟨b2, 0, none⟩) (((k.natAbs) / 32) + 1) (((k.natAbs) / 32) + 1))] k_ ?_
 refine RN.share 0 rfl rfl ?_
 refine RN.also (fU (⟨some ⟨b2, 0, none⟩, ((k.natAbs) / 32) + 1⟩ : SA) ((List.replicate (((k.natAbs) / 32) + 1) 0).set ((k.natAbs) / 32) (2 ^ (k.natAbs % 32)))) (fun w h => fU_own (h _ (.head _)) (by (simp; try omega)) (by (simp; try omega))) ?_
 refine RN.turn 21 (v := .slice (some ⟨b2, 0, none⟩) (((k.natAbs) / 32) + 1) (((k.natAbs) / 32) + 1)) (v' := sl (⟨some ⟨b2, 0, none⟩, ((k.natAbs) / 32) + 1⟩ : SA) ((List.replicate (((k.natAbs) / 32) + 1) 0).set ((k.natAbs) / 32) (2 ^ (k.natAbs % 32))).length) k_ (sl_eq (by (simp; try omega))) ?_
 refine RN.bq (no 2) [0, 2, 23] [] 3 [(0, .int .i64 k), (2, pt b1), (23, ratV (⟨(⟨some ⟨b2, 0, none⟩, ((k.natAbs) / 32) + 1⟩ : SA), saNil⟩ : RA) (⟨false, (List.replicate (((k.natAbs) / 32) + 1) 0).set ((k.natAbs) / 32) (2 ^ (k.natAbs % 32)), ([] : List Nat)⟩ : Raw))] k_ ?_
 refine RN.new (fun b => pt b) (.cells (ratC (⟨saNil, saNil⟩ : RA) (⟨false, ([] : List Nat), ([] : List Nat)⟩ : Raw)) 27 (0, 0)) k_ k_ (fun w => by kernel_rfl) (fun b3 => ?_)
 refine RN.bs [some 0] [0, 2, 5] [b3, b3, b3] 5 [(0, .int .i64 k), (2, pt b1), (5, pt b3)] ([(b3, .cells (ratC (⟨(⟨some ⟨b2, 0, none⟩, ((k.natAbs) / 32) + 1⟩ : SA), saNil⟩ : RA) (⟨false, (List.replicate (((k.natAbs) / 32) + 1) 0).set ((k.natAbs) / 32) (2 ^ (k.natAbs % 32)), ([] : List Nat)⟩ : Raw)) 27 (0, 0)), (b1, .cells (ratC (⟨saNil, saNil⟩ : RA) (⟨false, ([] : List Nat), ([] : List Nat)⟩ : Raw)) 27 (0, 0))]) k_ ?_
 refine RN.fin k_ ?_
 refine J.seq ?_
 refine J.sreg ?_
 refine RN.bq (no 2) [2, 5, 25] [] 2 [(2, pt b1), (5, pt b3), (25, .bool (decide (k < 0)))] k_ ?_
 refine RN.fin k_ ?_
 refine J.cond (decide (k < 0)) k_ (fun c4 => ?_) (fun c4 => ?_)
 ·replace c4 := of_decide_eq_true c4
  refine J.seq ?_
  refine J.regD k_ [3] ?_
  refine RD.bq [(1, some 0)] [2, 27] [b3, b3, b3] [(2, pt b1), (27, ratV (⟨(⟨some ⟨b2, 0, none⟩, ((k.natAbs) / 32) + 1⟩ : SA), saNil⟩ : RA) (⟨false, (List.replicate (((k.natAbs) / 32) + 1) 0).set ((k.natAbs) / 32) (2 ^ (k.natAbs % 32)), ([] : List Nat)⟩ : Raw))] k_ k_ ?_
  refine RD.call (i := 0) (m19_one) [] k_ k_ k_ k_ k_ rfl (fun y5 _ => ?_)
  refine RD.also (fRat (⟨(⟨some ⟨b2, 0, none⟩, ((k.natAbs) / 32) + 1⟩ : SA), saNil⟩ : RA) (⟨false, (List.replicate (((k.natAbs) / 32) + 1) 0).set ((k.natAbs) / 32) (2 ^ (k.natAbs % 32)), ([] : List Nat)⟩ : Raw)) (fun w h => ⟨(h _ (.tail _ ((.head _)))), fU_nil w⟩) k_ ?_
  refine RD.call (i := 2) (m19_quotient_c1 y5 (1 : Rat) ⟨(⟨some ⟨b2, 0, none⟩, ((k.natAbs) / 32) + 1⟩ : SA), saNil⟩ ⟨false, (List.replicate (((k.natAbs) / 32) + 1) 0).set ((k.natAbs) / 32) (2 ^ (k.natAbs % 32)), ([] : List Nat)⟩ y_m19_power y_m19_power) [1, 0] k_ k_ k_ k_ k_ rfl (fun y6 _ => ?_)
  refine RD.last (i := 3) (some 1) [2] [b1, b1, b1] k_ k_ k_ (l' := [(2, pt b1)]) (M' := [(b3, .cells (ratC (⟨(⟨some ⟨b2, 0, none⟩, ((k.natAbs) / 32) + 1⟩ : SA), saNil⟩ : RA) (⟨false, (List.replicate (((k.natAbs) / 32) + 1) 0).set ((k.natAbs) / 32) (2 ^ (k.natAbs % 32)), ([] : List Nat)⟩ : Raw)) 27 (0, 0)), (b1, .cells (ratC y6 (encQ ((1 : Rat) / (qv (⟨false, (List.replicate (((k.natAbs) / 32) + 1) 0).set ((k.natAbs) / 32) (2 ^ (k.natAbs % 32)), ([] : List Nat)⟩ : Raw))))) 27 (0, 0))]) k_ ?_
  refine RD.done k_ ?_
  refine KN.next ?_
  have e_1 : (encQ (P2 k)) = (encQ ((1 : Rat) / (qv (⟨false, (List.replicate (((k.natAbs) / 32) + 1) 0).set ((k.natAbs) / 32) (2 ^ (k.natAbs % 32)), ([] : List Nat)⟩ : Raw)))) := by show encQ (P2 k) = encQ (1 / qv ⟨false, powL k.natAbs, []⟩); rw [hpe, qv_encQ, P2_neg ‹_›]
  refine J.ret (KR.next (KR.ret (v := ratV y6 (encQ ((1 : Rat) / (qv (⟨false, (List.replicate (((k.natAbs) / 32) + 1) 0).set ((k.natAbs) / 32) (2 ^ (k.natAbs % 32)), ([] : List Nat)⟩ : Raw))))) (y6) [some 1] [0] [b1, b1, b1] k_ v1_ (trivial) v1_))
 ·replace c4 := of_decide_eq_false c4
  refine J.skip ?_
  refine KN.next ?_
  refine J.sreg ?_
  refine RN.bs [some 0, some 1] [2] [b1, b1, b1, b3, b3, b3] 2 [(2, pt b1)] ([(b3, .cells (ratC (⟨(⟨some ⟨b2, 0, none⟩, ((k.natAbs) / 32) + 1⟩ : SA), saNil⟩ : RA) (⟨false, (List.replicate (((k.natAbs) / 32) + 1) 0).set ((k.natAbs) / 32) (2 ^ (k.natAbs % 32)), ([] : List Nat)⟩ : Raw)) 27 (0, 0)), (b1, .cells (ratC (⟨(⟨some ⟨b2, 0, none⟩, ((k.natAbs) / 32) + 1⟩ : SA), saNil⟩ : RA) (⟨false, (List.replicate (((k.natAbs) / 32) + 1) 0).set ((k.natAbs) / 32) (2 ^ (k.natAbs % 32)), ([] : List Nat)⟩ : Raw)) 27 (0, 0))]) k_ ?_
  refine RN.fin k_ ?_
  have e_1 : (encQ (P2 k)) = (⟨false, (List.replicate (((k.natAbs) / 32) + 1) 0).set ((k.natAbs) / 32) (2 ^ (k.natAbs % 32)), ([] : List Nat)⟩ : Raw) := by first | exact (congrArg encQ (P2_nn ‹_›)).trans hpe.symm
  have e_2 : (toL (((P2 k).num).natAbs)) = ((List.replicate (((k.natAbs) / 32) + 1) 0).set ((k.natAbs) / 32) (2 ^ (k.natAbs % 32))) := congrArg Raw.mag e_1
  have e_3 : (toD ((P2 k).den)) = ([] : List Nat) := congrArg Raw.den e_1
  refine J.also (fRat (⟨(⟨some ⟨b2, 0, none⟩, ((k.natAbs) / 32) + 1⟩ : SA), saNil⟩ : RA) (⟨false, (List.replicate (((k.natAbs) / 32) + 1) 0).set ((k.natAbs) / 32) (2 ^ (k.natAbs % 32)), ([] : List Nat)⟩ : Raw)) (fun w h => ⟨(h _ (.head _)), fU_nil w⟩) ?_
  refine J.ret (KR.ret (v := ratV (⟨(⟨some ⟨b2, 0, none⟩, ((k.natAbs) / 32) + 1⟩ : SA), saNil⟩ : RA) (⟨false, (List.replicate (((k.natAbs) / 32) + 1) 0).set ((k.natAbs) / 32) (2 ^ (k.natAbs % 32)), ([] : List Nat)⟩ : Raw)) (⟨(⟨some ⟨b2, 0, none⟩, ((k.natAbs) / 32) + 1⟩ : SA), saNil⟩) [some 1] [0] [b1, b1, b1] k_ (by first | rfl | (rw [e_1]; done) | (simp only [e_1]; done) | (rw [e_2, e_3]; done) | (rw [e_1, e_2, e_3]; rfl) | (simp only [e_1, e_2, e_3]; done) | (simp only [e_1, e_2, e_3]; rfl)) (trivial) (by first | rfl | (rw [e_1]; done) | (simp only [e_1]; done) | (rw [e_2, e_3]; done) | (rw [e_1, e_2, e_3]; rfl) | (simp only [e_1, e_2, e_3]; done) | (simp only [e_1, e_2, e_3]; rfl)))
end Go.Proofs.Ytegnonhgildhoaa.E
namespace Go.Proofs.Ytegnonhgildhoaa.E
open Go Go.RowKit
set_option linter.unusedVariables false
set_option linter.unusedSimpArgs false
theorem about_b {a b : Nat} {z : Int} (ha : a ≤ 6176) (hb : b ≤ 6176) (hz : z = if (b : Int) > 1 then (b : Int) else 1) : -6400 ≤ (a : Int) - z ∧ (a : Int) - z ≤ 6400 := by
  subst hz; split <;> omega
theorem Q.num_len {k : Nat} {q : Rat} (h : Q k q) : (toL q.num.natAbs).length ≤ k := h.1
theorem Q.den_len {k : Nat} {q : Rat} (h : Q k q) : (toD q.den).length ≤ k := Nat.le_trans (toD_le _) h.2
theorem y_m19_about {p : Prop} (h : p := by first | assumption | exact Lb_toL _ | omega | (simp; done) | first | exact Q.le hc (by decide) | exact Q.le hI3 (by decide) | exact Q.le hxx (by decide) | exact Lb_toD _ | omega) : p := h
theorem m19_about (s : SA) (ps : List PR) (p : RA) (c : Raw) (hps : ∀ i, i < ps.length → RQ 64 (ps.getD i pr0).2) (hcR : RQ 268435456 c) (hc : Q 64 (qv c)) : Spec Try.prog 20 #[sl s ps.length, ratV p c] [fRats s ps, fRat p c] (ι := Int) (fun y => .int .i64 y) (fun y => -6400 ≤ y ∧ y ≤ 6400) (fun y => []) := by
 refine Spec.of_body _ (fn := Try.f20) k_ rfl k_ (fun X w0 => ?_)
 refine J.fact (φ := ps.length ≤ 140737488355328) (fun w h => by have := (h _ (.head _)).1; omega) (fun hl1 => ?_)
 refine J.fact (φ := c.mag.length ≤ 140737488355328 ∧ c.den.length ≤ 140737488355328) (fun w h => by have h1 := (h _ (.tail _ ((.head _)))).1.1; have h2 := (h _ (.tail _ ((.head _)))).2.1; omega) (fun hl2 => ?_)
 refine J.sreg ?_
 refine RN.new (fun b => pt b) (.cells (ratC p c) 27 (0, 0)) k_ k_ (fun w => by kernel_rfl) (fun b3 => ?_)
 refine RN.bq (no 1) [0, 3] [] 2 [(0, sl s ps.length), (3, pt b3)] k_ ?_
 refine RN.fs k_ ?_
 refine RN.new (fun b => pt b) (.cells (ratC (⟨saNil, saNil⟩ : RA) (⟨false, ([] : List Nat), ([] : List Nat)⟩ : Raw)) 27 (0, 0)) k_ k_ (fun w => by kernel_rfl) (fun b4 => ?_)
 refine RN.fin k_ ?_
 refine J.seq ?_
 refine J.sreg ?_
 refine RN.bq (no 3) [3, 5, 10, 11, 12] [] 3 [(3, pt b3), (5, pt b4), (10, sl s ps.length), (11, .int .i64 ((ps.length : Nat) : Int)), (12, .int .i64 0)] k_ ?_
 refine RN.fin k_ ?_
 refine J.block ?_
 refine J.also (fRat (⟨saNil, saNil⟩ : RA) (encQ 0)) (fun w h => fRat_zero w) ?_
 refine J.loop (ι := (Nat) × (RA) × (Rat)) (fun x => x.1 ≤ ps.length ∧ Q 128 x.2.2) (fun x => ps.length - x.1) (fun x => [(3, pt b3), (5, pt b4), (10, sl s ps.length), (11, .int .i64 ((ps.length : Nat) : Int)), (12, .int .i64 ((x.1 : Nat) : Int))]) (fun x => [(b4, .cells (ratC x.2.1 (encQ x.2.2)) 27 (0, 0)), (b3, .cells (ratC p c) 27 (0, 0))]) (fun x => [fRat x.2.1 (encQ x.2.2), fRats s ps, fRat p c]) (0, (⟨saNil, saNil⟩ : RA), 0) [3, 5, 10, 11, 12] [0, 1, 2] (⟨Nat.zero_le _, Q0.le (by decide)⟩) k_ (by first | rfl | (simp only [encQ_zero]; done) | (simp only [encQ_zero]; rfl)) (by rfl) (fun x5 hI => ?_)
 obtain ⟨i, so, S⟩ := x5
 replace hI : i ≤ ps.length ∧ Q 128 S := hI
 obtain ⟨hI1, hI3⟩ := hI
 refine J.sreg ?_
 refine RN.bq (no 1) [3, 5, 10, 11, 12, 13] [] 1 [(3, pt b3), (5, pt b4), (10, sl s ps.length), (11, .int .i64 ((ps.length : Nat) : Int)), (12, .int .i64 ((i : Nat) : Int)), (13, .bool (decide (((i : Nat) : Int) < ((ps.length : Nat) : Int))))] k_ ?_
 refine RN.fin k_ ?_
 refine J.seq ?_
 refine J.cond (decide (((i : Nat) : Int) < ((ps.length : Nat) : Int))) k_ (fun c6 => ?_) (fun c6 => ?_)
 ·replace c6 := of_decide_eq_true c6
  have hxr := hps i (by omega)
  have hxq := hxr.2.2.2.2
  have hxb := hxr.le (by decide : 64 ≤ 268435456)
  have hxx : Q 128 _ := hxq.mul hxq
  refine J.skip ?_
  refine KN.next ?_
  refine J.seq ?_
  refine J.block ?_
  refine J.sreg ?_
  refine RN.val _ k_ k_ (q_ridx (t := 22) (x := (.tmp 10)) (ix := (.tmp 12)) (K := .i64) (i0 := ((i : Nat) : Int)) (m := i) (e := 27) 1 rfl k_ k_ k_ k_ k_ (by omega) x_) ?_
  refine RN.val _ k_ k_ (q_rload (T := 27) (x := (.tmp 14)) (m := i) (s := s) (ps := ps) 1 rfl k_ k_ k_ k_ x_) ?_
  refine RN.also (fRat ((ps.getD i pr0).1) ((ps.getD i pr0).2)) (fun w h => rat_of (h _ (.tail _ ((.head _)))) x_) ?_
  refine RN.new (fun b => pt b) (.cells (ratC (⟨saNil, saNil⟩ : RA) (⟨false, ([] : List Nat), ([] : List Nat)⟩ : Raw)) 27 (0, 0)) k_ k_ (fun w => by kernel_rfl) (fun b7 => ?_)
  refine RN.bs [some 0] [3, 5, 7, 10, 11, 12] [b7, b7, b7] 4 [(3, pt b3), (5, pt b4), (7, pt b7), (10, sl s ps.length), (11, .int .i64 ((ps.length : Nat) : Int)), (12, .int .i64 ((i : Nat) : Int))] ([(b7, .cells (ratC ((ps.getD i pr0).1) ((ps.getD i pr0).2)) 27 (0, 0)), (b4, .cells (ratC so (encQ S)) 27 (0, 0)), (b3, .cells (ratC p c) 27 (0, 0))]) k_ ?_
  refine RN.fs k_ ?_
  refine RN.bq [some 0, some 0] [3, 5, 10, 11, 12, 16, 17] [b7, b7, b7, b7, b7, b7] 2 [(3, pt b3), (5, pt b4), (10, sl s ps.length), (11, .int .i64 ((ps.length : Nat) : Int)), (12, .int .i64 ((i : Nat) : Int)), (16, ratV ((ps.getD i pr0).1) ((ps.getD i pr0).2)), (17, ratV ((ps.getD i pr0).1) ((ps.getD i pr0).2))] k_ ?_
  refine RN.call (rational_Mul ((ps.getD i pr0).1) ((ps.getD i pr0).2) ((ps.getD i pr0).1) ((ps.getD i pr0).2) y_m19_about y_m19_about) [0, 0] k_ k_ k_ rfl (fun y8 _ => ?_)
  refine RN.new (fun b => pt b) (.cells (ratC (⟨saNil, saNil⟩ : RA) (⟨false, ([] : List Nat), ([] : List Nat)⟩ : Raw)) 27 (0, 0)) k_ k_ (fun w => by kernel_rfl) (fun b9 => ?_)
  refine RN.bs [some 0] [3, 5, 8, 10, 11, 12] [b9, b9, b9] 5 [(3, pt b3), (5, pt b4), (8, pt b9), (10, sl s ps.length), (11, .int .i64 ((ps.length : Nat) : Int)), (12, .int .i64 ((i : Nat) : Int))] ([(b9, .cells (ratC y8 (encQ ((qv ((ps.getD i pr0).2)) * (qv ((ps.getD i pr0).2))))) 27 (0, 0)), (b7, .cells (ratC ((ps.getD i pr0).1) ((ps.getD i pr0).2)) 27 (0, 0)), (b4, .cells (ratC so (encQ S)) 27 (0, 0)), (b3, .cells (ratC p c) 27 (0, 0))]) k_ ?_
  refine RN.fs k_ ?_
  refine RN.bq [some 0, some 2] [3, 5, 8, 10, 11, 12, 19, 20] [b4, b4, b4, b9, b9, b9] 2 [(3, pt b3), (5, pt b4), (8, pt b9), (10, sl s ps.length), (11, .int .i64 ((ps.length : Nat) : Int)), (12, .int .i64 ((i : Nat) : Int)), (19, ratV y8 (encQ ((qv ((ps.getD i pr0).2)) * (qv ((ps.getD i pr0).2))))), (20, ratV so (encQ S))] k_ ?_
  refine RN.call (rational_Compare_c y8 ((qv ((ps.getD i pr0).2)) * (qv ((ps.getD i pr0).2))) so S y_m19_about y_m19_about) [0, 2] k_ k_ k_ rfl (fun y10 _ => ?_)
  refine RN.bq (no 1) [3, 5, 8, 10, 11, 12, 22] [] 4 [(3, pt b3), (5, pt b4), (8, pt b9), (10, sl s ps.length), (11, .int .i64 ((ps.length : Nat) : Int)), (12, .int .i64 ((i : Nat) : Int)), (22, .bool (decide ((cmpQ ((qv ((ps.getD i pr0).2)) * (qv ((ps.getD i pr0).2))) S) > 0)))] k_ ?_
  refine RN.fin k_ ?_
  refine J.cond (decide ((cmpQ ((qv ((ps.getD i pr0).2)) * (qv ((ps.getD i pr0).2))) S) > 0)) k_ (fun c11 => ?_) (fun c11 => ?_)
  ·replace c11 := of_decide_eq_true c11
   refine J.regN ?_
   refine RN.bs [some 0, some 2] [3, 5, 10, 11, 12] [b4, b4, b4, b9, b9, b9] 2 [(3, pt b3), (5, pt b4), (10, sl s ps.length), (11, .int .i64 ((ps.length : Nat) : Int)), (12, .int .i64 ((i : Nat) : Int))] ([(b9, .cells (ratC y8 (encQ ((qv ((ps.getD i pr0).2)) * (qv ((ps.getD i pr0).2))))) 27 (0, 0)), (b7, .cells (ratC ((ps.getD i pr0).1) ((ps.getD i pr0).2)) 27 (0, 0)), (b4, .cells (ratC y8 (encQ ((qv ((ps.getD i pr0).2)) * (qv ((ps.getD i pr0).2))))) 27 (0, 0)), (b3, .cells (ratC p c) 27 (0, 0))]) k_ ?_
   refine RN.done k_ ?_
   refine KN.blk ?_
   refine KN.next ?_
   refine J.regN ?_
   refine RN.bq (no 1) [3, 5, 10, 11, 24] [] 1 [(3, pt b3), (5, pt b4), (10, sl s ps.length), (11, .int .i64 ((ps.length : Nat) : Int)), (24, .int .i64 (IntKind.i64.wrap (((i : Nat) : Int) + 1)))] k_ ?_
   rw [show IntKind.i64.wrap (((i : Nat) : Int) + 1) = ((i + 1 : Nat) : Int) from by rw [IntKind.wrap_i64]; omega]
   refine RN.bq (no 1) [3, 5, 10, 11, 12] [] 2 [(3, pt b3), (5, pt b4), (10, sl s ps.length), (11, .int .i64 ((ps.length : Nat) : Int)), (12, .int .i64 ((i + 1 : Nat) : Int))] k_ ?_
   refine RN.done k_ ?_
   refine KN.dropF 2 ?_
   refine KN.roundE (i + 1, y8, (qv ((ps.getD i pr0).2)) * (qv ((ps.getD i pr0).2))) [3, 5, 10, 11, 12] [0, 3, 4] (l2 := [(3, pt b3), (5, pt b4), (10, sl s ps.length), (11, .int .i64 ((ps.length : Nat) : Int)), (12, .int .i64 ((i + 1 : Nat) : Int))]) (by (try dsimp only); omega) (by (try dsimp only); exact ⟨by omega, hxx⟩) k_ (by rfl) (by rfl) (by rfl)
  ·replace c11 := of_decide_eq_false c11
   refine J.skip ?_
   refine KN.blk ?_
   refine KN.next ?_
   refine J.regN ?_
   refine RN.bq (no 1) [3, 5, 10, 11, 24] [] 1 [(3, pt b3), (5, pt b4), (10, sl s ps.length), (11, .int .i64 ((ps.length : Nat) : Int)), (24, .int .i64 (IntKind.i64.wrap (((i : Nat) : Int) + 1)))] k_ ?_
   rw [show IntKind.i64.wrap (((i : Nat) : Int) + 1) = ((i + 1 : Nat) : Int) from by rw [IntKind.wrap_i64]; omega]
   refine RN.bq (no 1) [3, 5, 10, 11, 12] [] 2 [(3, pt b3), (5, pt b4), (10, sl s ps.length), (11, .int .i64 ((ps.length : Nat) : Int)), (12, .int .i64 ((i + 1 : Nat) : Int))] k_ ?_
   refine RN.done k_ ?_
   refine KN.dropF 2 ?_
   refine KN.roundE (i + 1, so, S) [3, 5, 10, 11, 12] [2, 3, 4] (l2 := [(3, pt b3), (5, pt b4), (10, sl s ps.length), (11, .int .i64 ((ps.length : Nat) : Int)), (12, .int .i64 ((i + 1 : Nat) : Int))]) (by (try dsimp only); omega) (by (try dsimp only); exact ⟨by omega, hI3⟩) k_ (by rfl) (by rfl) (by rfl)
 ·replace c6 := of_decide_eq_false c6
  have hq := hI3.div hc
  have hq1 := hq.num_len
  have hq2 := hq.den_len
  refine J.exit (KX.next (KX.next (KX.hit ?_)))
  refine KN.next ?_
  refine J.sreg ?_
  refine RN.bq [some 0, some 1] [25, 26] [b3, b3, b3, b4, b4, b4] 2 [(25, ratV so (encQ S)), (26, ratV p c)] k_ ?_
  refine RN.call (m19_quotient_c1 so S p c y_m19_about y_m19_about) [0, 2] k_ k_ k_ rfl (fun y12 _ => ?_)
  refine RN.new (fun b => pt b) (.cells (ratC (⟨saNil, saNil⟩ : RA) (⟨false, ([] : List Nat), ([] : List Nat)⟩ : Raw)) 27 (0, 0)) k_ k_ (fun w => by kernel_rfl) (fun b13 => ?_)
  refine RN.bs [some 0] [9] [b13, b13, b13] 5 [(9, pt b13)] ([(b13, .cells (ratC y12 (encQ (S / (qv c)))) 27 (0, 0)), (b4, .cells (ratC so (encQ S)) 27 (0, 0)), (b3, .cells (ratC p c) 27 (0, 0))]) k_ ?_
  refine RN.fin k_ ?_
  refine J.seq ?_
  refine J.regD k_ [] ?_
  refine RD.bq [(0, none), (1, none), (2, some 0), (4, none), (5, some 0)] [30, 33] [b13, b13] [(30, sl y12.mag (toL (((S / (qv c)).num).natAbs)).length), (33, sl (y12.den) (toD ((S / (qv c)).den)).length)] k_ k_ ?_
  refine RD.also (fU y12.mag (toL (((S / (qv c)).num).natAbs))) (fun w h => (h _ (.head _)).1) k_ ?_
  refine RD.call (i := 3) (m19_length_c y12.mag (((S / (qv c)).num).natAbs) y_m19_about) [0] k_ k_ k_ k_ k_ rfl (fun y14 _ => ?_)
  have hA := lenL_le (toL ((S / (qv c)).num.natAbs))
  refine RD.also (fU (y12.den) (toD ((S / (qv c)).den))) (fun w h => (h _ (.tail _ ((.head _)))).2) k_ ?_
  refine RD.call (i := 6) (m19_length (y12.den) (toD ((S / (qv c)).den)) y_m19_about y_m19_about) [0] k_ k_ k_ k_ k_ rfl (fun y15 _ => ?_)
  have hB := lenL_le (toD ((S / (qv c)).den))
  refine RD.bq (nl [7, 8]) [36] [] [(36, .int .i64 (IntKind.i64.wrap (((lenL (toL (((S / (qv c)).num).natAbs)) : Nat) : Int) - (if ((lenL (toD ((S / (qv c)).den)) : Nat) : Int) > 1 then ((lenL (toD ((S / (qv c)).den)) : Nat) : Int) else 1))))] k_ k_ ?_
  rw [show IntKind.i64.wrap (((lenL (toL (((S / (qv c)).num).natAbs)) : Nat) : Int) - (if ((lenL (toD ((S / (qv c)).den)) : Nat) : Int) > 1 then ((lenL (toD ((S / (qv c)).den)) : Nat) : Int) else 1)) = (((lenL (toL (((S / (qv c)).num).natAbs)) : Nat) : Int) - (if ((lenL (toD ((S / (qv c)).den)) : Nat) : Int) > 1 then ((lenL (toD ((S / (qv c)).den)) : Nat) : Int) else 1)) from by rw [IntKind.wrap_i64]; split <;> omega]
  refine RD.bq (nl [9]) [4] [] [(4, .int .i64 (((lenL (toL (((S / (qv c)).num).natAbs)) : Nat) : Int) - (if ((lenL (toD ((S / (qv c)).den)) : Nat) : Int) > 1 then ((lenL (toD ((S / (qv c)).den)) : Nat) : Int) else 1)))] k_ k_ ?_
  refine RD.done k_ ?_
  refine KN.next ?_
  refine J.ret (KR.ret (v := .int .i64 (((lenL (toL (((S / (qv c)).num).natAbs)) : Nat) : Int) - (if ((lenL (toD ((S / (qv c)).den)) : Nat) : Int) > 1 then ((lenL (toD ((S / (qv c)).den)) : Nat) : Int) else 1))) (((lenL (toL (((S / (qv c)).num).natAbs)) : Nat) : Int) - (if ((lenL (toD ((S / (qv c)).den)) : Nat) : Int) > 1 then ((lenL (toD ((S / (qv c)).den)) : Nat) : Int) else 1)) [none] [] [] k_ rfl (about_b (by omega) (by omega) rfl) rfl)
theorem m19_double (p : RA) (r : Raw) (hr : RQ 268435456 r) : Spec Try.prog 21 #[ratV p r] [fRat p r] (ι := RA) (fun y => ratV y (encQ (qv r + qv r))) (fun y => True) (fun y => [fRat y (encQ (qv r + qv r))]) := by
 refine Spec.of_body _ (fn := Try.f21) k_ rfl k_ (fun X w0 => ?_)
 refine J.fact (φ := r.mag.length ≤ 140737488355328 ∧ r.den.length ≤ 140737488355328) (fun w h => by have h1 := (h _ (.head _)).1.1; have h2 := (h _ (.head _)).2.1; omega) (fun hl1 => ?_)
 refine J.sreg ?_
 refine RN.new (fun b => pt b) (.cells (ratC p r) 27 (0, 0)) k_ k_ (fun w => by kernel_rfl) (fun b2 => ?_)
 refine RN.new (fun b => pt b) (.cells (ratC (⟨saNil, saNil⟩ : RA) (⟨false, ([] : List Nat), ([] : List Nat)⟩ : Raw)) 27 (0, 0)) k_ k_ (fun w => by kernel_rfl) (fun b3 => ?_)
 refine RN.fs k_ ?_
 refine RN.bq [some 1, some 1] [2, 3, 4] [b2, b2, b2, b2, b2, b2] 2 [(2, pt b3), (3, ratV p r), (4, ratV p r)] k_ ?_
 refine RN.call (rational_Add p r p r y_ y_) [0, 0] k_ k_ k_ rfl (fun y4 _ => ?_)
 refine RN.bs [some 0] [2] [b3, b3, b3] 4 [(2, pt b3)] ([(b3, .cells (ratC y4 (encQ ((qv r) + (qv r)))) 27 (0, 0)), (b2, .cells (ratC p r) 27 (0, 0))]) k_ ?_
 refine RN.fin k_ ?_
 have e_1 : (encQ (qv r + qv r)) = (encQ ((qv r) + (qv r))) := by first | rfl | simp [*]
 refine J.ret (KR.ret (v := ratV y4 (encQ ((qv r) + (qv r)))) (y4) [some 0] [0] [b3, b3, b3] k_ v1_ (trivial) v1_)
theorem m19_double_c (p : RA) (r' : Rat) (hr : Q 268435456 r') : Spec Try.prog 21 #[ratV p (encQ r')] [fRat p (encQ r')] (ι := RA) (fun y => ratV y (encQ (r' + r'))) (fun y => True) (fun y => [fRat y (encQ (r' + r'))]) := by
  have H := m19_double p (encQ r') (RQ_enc hr)
  first | exact H | (simp only [qv_encQ, validQ_encQ] at H; exact H)
theorem y_m19_halve {p : Prop} (h : p := by first | assumption | exact Lb_toL _ | omega | (simp; done) | exact Q.le (Q_int (by decide)) (by decide)) : p := h
theorem m19_halve (p : RA) (r : Raw) (hr : RQ 268435456 r) : Spec Try.prog 22 #[ratV p r] [fRat p r] (ι := RA) (fun y => ratV y (encQ (qv r / 2))) (fun y => True) (fun y => [fRat y (encQ (qv r / 2))]) := by
 refine Spec.of_body _ (fn := Try.f22) k_ rfl k_ (fun X w0 => ?_)
 refine J.fact (φ := r.mag.length ≤ 140737488355328 ∧ r.den.length ≤ 140737488355328) (fun w h => by have h1 := (h _ (.head _)).1.1; have h2 := (h _ (.head _)).2.1; omega) (fun hl1 => ?_)
 refine J.sreg ?_
 refine RN.new (fun b => pt b) (.cells (ratC p r) 27 (0, 0)) k_ k_ (fun w => by kernel_rfl) (fun b2 => ?_)
 refine RN.new (fun b => pt b) (.cells (ratC (⟨saNil, saNil⟩ : RA) (⟨false, ([] : List Nat), ([] : List Nat)⟩ : Raw)) 27 (0, 0)) k_ k_ (fun w => by kernel_rfl) (fun b3 => ?_)
 refine RN.fin k_ ?_
 refine J.seq ?_
 refine J.regD k_ [3] ?_
 refine RD.bq [(0, some 1)] [2, 3] [b2, b2, b2] [(2, pt b3), (3, ratV p r)] k_ k_ ?_
 refine RD.call (i := 1) (rational_FromInt 2 y_m19_halve y_m19_halve) [] k_ k_ k_ k_ k_ rfl (fun y4 _ => ?_)
 refine RD.call (i := 2) (m19_quotient_c2 p r y4 ((2 : Int) : Rat) y_m19_halve y_m19_halve) [1, 0] k_ k_ k_ k_ k_ rfl (fun y5 _ => ?_)
 refine RD.last (i := 3) (some 0) [2] [b3, b3, b3] k_ k_ k_ (l' := [(2, pt b3)]) (M' := [(b3, .cells (ratC y5 (encQ ((qv r) / ((2 : Int) : Rat)))) 27 (0, 0)), (b2, .cells (ratC p r) 27 (0, 0))]) k_ ?_
 refine RD.done k_ ?_
 refine KN.next ?_
 have e_1 : (encQ (qv r / 2)) = (encQ ((qv r) / ((2 : Int) : Rat))) := by rfl
 refine J.ret (KR.ret (v := ratV y5 (encQ ((qv r) / ((2 : Int) : Rat)))) (y5) [some 0] [0] [b3, b3, b3] k_ v1_ (trivial) v1_)
theorem m19_halve_c (p : RA) (r' : Rat) (hr : Q 268435456 r') : Spec Try.prog 22 #[ratV p (encQ r')] [fRat p (encQ r')] (ι := RA) (fun y => ratV y (encQ (r' / 2))) (fun y => True) (fun y => [fRat y (encQ (r' / 2))]) := by
  have H := m19_halve p (encQ r') (RQ_enc hr)
  first | exact H | (simp only [qv_encQ, validQ_encQ] at H; exact H)
end Go.Proofs.Ytegnonhgildhoaa.E
namespace Go.Proofs.Ytegnonhgildhoaa.E
open Go Go.RowKit
set_option linter.unusedVariables false
set_option linter.unusedSimpArgs false
theorem Q_sumTo {c s : Rat} (ps : List PR) (hps : ∀ i, i < ps.length → RQ 64 (ps.getD i pr0).2) (hc : Q 64 c) (hs : Q 65536 s) : ∀ k, k ≤ ps.length → Q (197198 * k + 1) (sumTo (meanT c s) ps k)
  | 0, _ => Q0
  | k + 1, h => ((Q_sumTo ps hps hc hs k (by omega)).add (Q_term hc hs (hps k (by omega)).2.2.2.2).2.2.2).le (by omega)
theorem Q_mean {c s : Rat} (ps : List PR) (hps : ∀ i, i < ps.length → RQ 64 (ps.getD i pr0).2) (hc : Q 64 c) (hs : Q 65536 s) (hn : ps.length ≤ 1024) : Q 201930760 (sumTo (meanT c s) ps ps.length / ((((ps.length : Nat) : Int)) : Rat)) :=
  ((Q_sumTo ps hps hc hs ps.length (Nat.le_refl _)).div (Q_int (by omega))).le (by omega)
theorem y_m19_above {p : Prop} (h : p := by first | assumption | exact Lb_toL _ | omega | (simp; done) | first | exact ht.le (by decide) | exact hQm) : p := h
theorem m19_above (p' : RA) (t : Rat) (b1 : Nat) (b2 : Nat) (b3 : Nat) (s : SA) (ps : List PR) (p : RA) (c : Raw) (u : RA) (b : Raw) (hps : ∀ i, i < ps.length → RQ 64 (ps.getD i pr0).2) (hcR : RQ 268435456 c) (hbR : RQ 268435456 b) (hc : Q 64 (qv c)) (hb : Q 64 (qv b)) (ht : Q 65536 t) (hn : ps.length ≤ 1024) : SpecM Try.prog 18 #[ratV p' (encQ t), pt b1, pt b2, pt b3] [(b3, .cells (ratC u b) 27 (0, 0)), (b2, .cells (ratC p c) 27 (0, 0)), (b1, .cells #[sl s ps.length] 22 (0, 0))] [fRat p' (encQ t), fRats s ps, fRat p c, fRat u b] (ι := Unit) (fun y => .bool (decide ((qv b) < meanN (vals ps) ps.length (qv c) t))) (fun y => True) (fun y => [(b3, .cells (ratC u b) 27 (0, 0)), (b2, .cells (ratC p c) 27 (0, 0)), (b1, .cells #[sl s ps.length] 22 (0, 0))]) (fun y => []) := by
 refine SpecM.of_body _ (fn := Try.f18) k_ rfl k_ (fun X w0 => ?_)
 refine J.fact (φ := (encQ t).mag.length ≤ 140737488355328 ∧ (encQ t).den.length ≤ 140737488355328) (fun w h => by have h1 := (h _ (.head _)).1.1; have h2 := (h _ (.head _)).2.1; omega) (fun hl1 => ?_)
 refine J.fact (φ := ps.length ≤ 140737488355328) (fun w h => by have := (h _ (.tail _ ((.head _)))).1; omega) (fun hl2 => ?_)
 refine J.fact (φ := c.mag.length ≤ 140737488355328 ∧ c.den.length ≤ 140737488355328) (fun w h => by have h1 := (h _ (.tail _ ((.tail _ ((.head _)))))).1.1; have h2 := (h _ (.tail _ ((.tail _ ((.head _)))))).2.1; omega) (fun hl3 => ?_)
 refine J.fact (φ := b.mag.length ≤ 140737488355328 ∧ b.den.length ≤ 140737488355328) (fun w h => by have h1 := (h _ (.tail _ ((.tail _ ((.tail _ ((.head _)))))))).1.1; have h2 := (h _ (.tail _ ((.tail _ ((.tail _ ((.head _)))))))).2.1; omega) (fun hl4 => ?_)
 have hQm := (Q_mean ps hps hc ht hn).le (by decide : 201930760 ≤ 268435456)
 refine J.sreg ?_
 refine RN.new (fun b => pt b) (.cells (ratC p' (encQ t)) 27 (0, 0)) k_ k_ (fun w => by kernel_rfl) (fun b5 => ?_)
 refine RN.bq (no 1) [1, 2, 3, 4] [] 2 [(1, pt b1), (2, pt b2), (3, pt b3), (4, pt b5)] k_ ?_
 refine RN.fin k_ ?_
 refine J.seq ?_
 refine J.regD k_ [] ?_
 refine RD.bq [(0, some 3), (1, some 2), (2, some 0), (4, some 1)] [6, 7, 8, 10] [b3, b3, b3, b5, b5, b5, b2, b2, b2, b1] [(6, sl s ps.length), (7, ratV p c), (8, ratV p' (encQ t)), (10, ratV u b)] k_ k_ ?_
 refine RD.call (i := 3) (m19_mean_c2 s ps p c p' t y_m19_above y_m19_above y_m19_above y_m19_above y_m19_above y_m19_above) [1, 2, 0] k_ k_ k_ k_ k_ rfl (fun y6 _ => ?_)
 refine RD.call (i := 5) (rational_Compare_c1 y6 (sumTo (meanT (qv c) t) ps ps.length / ((((ps.length : Nat) : Int)) : Rat)) u b y_m19_above y_m19_above) [0, 4] k_ k_ k_ k_ k_ rfl (fun y7 _ => ?_)
 refine RD.bq (nl [6, 7]) [5] [] [(5, .bool (decide ((cmpQ (sumTo (meanT (qv c) t) ps ps.length / ((((ps.length : Nat) : Int)) : Rat)) (qv b)) > 0)))] k_ k_ ?_
 refine RD.done k_ ?_
 refine KN.next ?_
 refine J.dropF 1 ?_
 have e_1 : (decide ((qv b) < meanN (vals ps) ps.length (qv c) t)) = (decide ((cmpQ (sumTo (meanT (qv c) t) ps ps.length / ((((ps.length : Nat) : Int)) : Rat)) (qv b)) > 0)) := by rw [decide_eq_decide]; exact cmpQ_gt.symm
 refine J.ret (KR.retM (v := .bool (decide ((cmpQ (sumTo (meanT (qv c) t) ps ps.length / ((((ps.length : Nat) : Int)) : Rat)) (qv b)) > 0))) (()) [none] [] [] k_ v1_ (trivial) v1_ v1_)
end Go.Proofs.Ytegnonhgildhoaa.E
/- Plain law of Scale's loops, step by step. -/
namespace Go.Proofs.Ytegnonhgildhoaa.E
set_option linter.unusedVariables false
set_option linter.unusedSimpArgs false
structure SIn (x : Nat → Rat) (n : Nat) (c b : Rat) (bits : Int) : Prop where
  n0 : 0 < n
  n1 : n ≤ 1024
  hx : ∀ i, i < n → Q 64 (x i)
  hc : Q 64 c
  c0 : 0 < c
  hb : Q 64 b
  b0 : 0 < b
  hs : b < shareN x n
  t0 : 0 ≤ bits
  t1 : bits ≤ 128
structure L1 (ab : Int) (i : Nat) (H : Rat) : Prop where
  e : H = dy (P2 ab) (2 ^ i) 0
  le : i ≤ 14624
  a1 : -6400 ≤ ab
  a2 : ab ≤ 6400
theorem L1.start {ab : Int} (h : -6400 ≤ ab ∧ ab ≤ 6400) : L1 ab 0 (P2 ab) := ⟨by rw [Nat.pow_zero, dy_one], Nat.zero_le _, h.1, h.2⟩
theorem L1.Q {ab : Int} {i : Nat} {H : Rat} (h : L1 ab i H) : Q 664 H := by
  rw [h.e]
  have hp := P2_Q (e := ab) (l := 201) (by have := h.a1; omega) (by have := h.a2; omega) (by decide)
  obtain ⟨l, hl⟩ : ∃ l, l = 458 := ⟨_, rfl⟩
  exact (Q_dy hp (a := 2 ^ i) (l := l) (k := 0) (m := 1) (pow2_lt (by have := h.le; omega)) (by omega) (by decide)).le (by omega)
theorem L1.step {x : Nat → Rat} {n : Nat} {c b : Rat} {bits : Int} {ab : Int} {i : Nat} {H : Rat} (s : SIn x n c b bits) (h : L1 ab i H) (ha : b < meanN x n c H) : i < 14624 ∧ L1 ab (i + 1) (H + H) := by
  have hp := P2_le (e := ab) (l := 200) (by have := h.a1; omega) (by have := h.a2; omega)
  have hlt := loop1_stop s.n0 s.hx s.hc s.c0 s.hb s.b0 hp.2 (i := i) (by rw [← h.e]; exact ha)
  refine ⟨hlt, ?_, hlt, h.a1, h.a2⟩
  rw [h.e, dy_double, Nat.pow_succ, Nat.mul_comm]
theorem L1.done {ab : Int} {i : Nat} {H : Rat} (h : L1 ab i H) : 0 < H ∧ H ≤ KW 657 := by
  have hp := P2_le (e := ab) (l := 200) (by have := h.a1; omega) (by have := h.a2; omega)
  rw [h.e]
  exact ⟨dy_pos (P2_pos ab) (Nat.pow_pos (by decide)) 0, dy_le_KW (P2_pos ab) hp.1 h.le⟩
structure L2 (x : Nat → Rat) (n : Nat) (c b H : Rat) (j : Nat) (U L : Rat) : Prop where
  eu : U = dy H 1 j
  el : L = dy H 1 (j + 1)
  le : j ≤ 27168
  u : ¬ b < meanN x n c U
theorem L2.start {x : Nat → Rat} {n : Nat} {c b H : Rat} (h : ¬ b < meanN x n c H) : L2 x n c b H 0 H (H / 2) :=
  ⟨(dy_one H).symm, by rw [← dy_halve, dy_one], Nat.zero_le _, h⟩
theorem L2.step {x : Nat → Rat} {n : Nat} {c b H : Rat} {bits : Int} {j : Nat} {U L : Rat} (s : SIn x n c b bits) (hH : 0 < H ∧ H ≤ KW 657) (h : L2 x n c b H j U L) (ha : ¬ b < meanN x n c L) : j < 27168 ∧ L2 x n c b H (j + 1) L (L / 2) := by
  have := loop2_stop s.hx s.hc s.c0 s.hs hH.1 hH.2 (j := j + 1) (by rw [← h.el]; exact ha)
  exact ⟨by omega, h.el, by rw [h.el, dy_halve], by omega, ha⟩
theorem L2.Q {x : Nat → Rat} {n : Nat} {c b H : Rat} {j : Nat} {U L : Rat} (h : L2 x n c b H j U L) (hq : E.Q 664 H) : E.Q 1516 U ∧ E.Q 1516 L := by
  rw [h.eu, h.el]
  have hj := h.le
  exact ⟨(Q_dy hq (a := 1) (l := 1) (m := 850) (by decide +kernel) (by decide) (by omega)).le (by decide), (Q_dy hq (a := 1) (l := 1) (m := 850) (by decide +kernel) (by decide) (by omega)).le (by decide)⟩
structure L3 (x : Nat → Rat) (n : Nat) (c b l : Rat) (bits : Int) (a k : Nat) (U L : Rat) : Prop where
  el : L = dy l a k
  eu : U = dy l (a + 1) k
  a1 : 2 ^ k ≤ a
  a2 : a < 2 ^ (k + 1)
  le : k ≤ bits.toNat
  lo : b < meanN x n c L
  hi : ¬ b < meanN x n c U
  l0 : 0 < l
  hl : Q 1516 l
theorem L3.start {x : Nat → Rat} {n : Nat} {c b H : Rat} {j : Nat} {U L : Rat} {bits : Int} (hH : 0 < H) (hq : E.Q 664 H) (h : L2 x n c b H j U L) (ha : b < meanN x n c L) : L3 x n c b L bits 1 0 U L := by
  have e : U = dy L 2 0 := by
    have : dy H 1 j = dy H 1 (j + 1) + dy H 1 (j + 1) := by rw [← dy_halve]; grind
    rw [h.eu, this, ← h.el]
    have h2 := dy_double L 1 0
    rw [dy_one] at h2
    exact h2
  exact ⟨(dy_one L).symm, e, by decide, by decide, Nat.zero_le _, ha, h.u, by rw [h.el]; exact dy_pos hH (by decide) _, (h.Q hq).2⟩
theorem L3.Q {x : Nat → Rat} {n : Nat} {c b l : Rat} {bits : Int} {a k : Nat} {U L : Rat} (h : L3 x n c b l bits a k U L) (t0 : 0 ≤ bits) (t1 : bits ≤ 128) : E.Q 1530 U ∧ E.Q 1530 L ∧ E.Q 3064 ((L + U) / 2) ∧ E.Q 8 (P2 (-bits)) := by
  have hk : k ≤ 128 := by have := h.le; omega
  have ha : a + 1 < W ^ 5 := by
    have h1 : 2 ^ (k + 1) ≤ 2 ^ 129 := Nat.pow_le_pow_right (by decide) (by omega)
    have h2 : 2 ^ 129 + 1 < W ^ 5 := by decide +kernel
    have := h.a2
    omega
  have q1 : E.Q 1530 U := by rw [h.eu]; exact (Q_dy h.hl (l := 5) (m := 5) ha (by decide) (by omega)).le (by decide)
  have q2 : E.Q 1530 L := by rw [h.el]; exact (Q_dy h.hl (l := 5) (m := 5) (Nat.lt_of_succ_lt ha) (by decide) (by omega)).le (by decide)
  refine ⟨q1, q2, ?_, ?_⟩
  · have hh : E.Q 1 (2 : Rat) := ⟨by decide +kernel, by decide +kernel⟩
    have e : (L + U) / 2 = (L + U) * ((1 : Nat) : Int) / two 1 := by
      rw [show two 1 = (2 : Rat) from rfl, show ((((1 : Nat) : Int)) : Rat) = 1 from rfl]; grind
    rw [e]
    exact (Q_dy (q2.add q1) (a := 1) (l := 1) (k := 1) (m := 1) (by decide +kernel) (by decide) (by decide)).le (by decide)
  · exact (P2_Q (l := 5) (by omega) (by omega) (by decide)).le (by decide)
theorem L3.less {x : Nat → Rat} {n : Nat} {c b l : Rat} {bits : Int} {a k : Nat} {U L : Rat} (h : L3 x n c b l bits a k U L) (t0 : 0 ≤ bits) (ht : P2 (-bits) * U < U - L) : k < bits.toNat := by
  have e : -bits = -((bits.toNat : Nat) : Int) := by omega
  rw [e, h.eu, h.el] at ht
  exact loop3_stop h.l0 h.a1 ht
theorem L3.mid {x : Nat → Rat} {n : Nat} {c b l : Rat} {bits : Int} {a k : Nat} {U L : Rat} (h : L3 x n c b l bits a k U L) : (L + U) / 2 = dy l (2 * a + 1) (k + 1) := by
  rw [h.el, h.eu, dy_mid]
theorem L3.up {x : Nat → Rat} {n : Nat} {c b l : Rat} {bits : Int} {a k : Nat} {U L : Rat} (h : L3 x n c b l bits a k U L) (hk : k < bits.toNat) (ha : b < meanN x n c ((L + U) / 2)) : L3 x n c b l bits (2 * a + 1) (k + 1) U ((L + U) / 2) := by
  have p1 := h.a1
  have p2 := h.a2
  exact ⟨h.mid, by rw [h.eu, dy_up]; rfl, by rw [Nat.pow_succ]; omega, by rw [Nat.pow_succ]; omega, hk, ha, h.hi, h.l0, h.hl⟩
theorem L3.down {x : Nat → Rat} {n : Nat} {c b l : Rat} {bits : Int} {a k : Nat} {U L : Rat} (h : L3 x n c b l bits a k U L) (hk : k < bits.toNat) (ha : ¬ b < meanN x n c ((L + U) / 2)) : L3 x n c b l bits (2 * a) (k + 1) ((L + U) / 2) L := by
  have p1 := h.a1
  have p2 := h.a2
  exact ⟨by rw [h.el, dy_up], h.mid, by rw [Nat.pow_succ]; omega, by rw [Nat.pow_succ]; omega, hk, h.lo, ha, h.l0, h.hl⟩
theorem L3.done {x : Nat → Rat} {n : Nat} {c b l : Rat} {bits : Int} {a k : Nat} {U L : Rat} (h : L3 x n c b l bits a k U L) (t0 : 0 ≤ bits) (t1 : bits ≤ 128) (ht : ¬ P2 (-bits) * U < U - L) : ScaleOk x n c b bits L U := by
  obtain ⟨q1, q2, _, _⟩ := h.Q t0 t1
  refine ⟨by rw [h.el]; exact dy_pos h.l0 (Nat.lt_of_lt_of_le (Nat.pow_pos (by decide)) h.a1) k, ?_, h.lo, Rat.not_lt.1 h.hi, Rat.not_lt.1 ht, q2.le (by decide), q1.le (by decide)⟩
  rw [h.el, h.eu, dy_succ]
  have : 0 < l / two k := by rw [Rat.div_def]; exact Rat.mul_pos h.l0 (Rat.inv_pos.2 (two_pos k))
  grind
end Go.Proofs.Ytegnonhgildhoaa.E
namespace Go.Proofs.Ytegnonhgildhoaa.E
open Go Go.RowKit
set_option linter.unusedVariables false
set_option linter.unusedSimpArgs false
def ScaleR (x : Nat → Rat) (n : Nat) (c b : Rat) (bits : Int) (lo hi : Rat) : Prop := if checkE n c b bits ≠ 0 ∨ shareN x n ≤ b then lo = 0 ∧ hi = 0 else ScaleOk x n c b bits lo hi
theorem ScaleR_0 {x : Nat → Rat} {n : Nat} {c b : Rat} {bits : Int} (h : checkE n c b bits ≠ 0 ∨ shareN x n ≤ b) : ScaleR x n c b bits 0 0 := by unfold ScaleR; rw [if_pos h]; exact ⟨rfl, rfl⟩
theorem ScaleR_ok {x : Nat → Rat} {n : Nat} {c b : Rat} {bits : Int} {lo hi : Rat} (h1 : checkE n c b bits = 0) (h2 : ¬ shareN x n ≤ b) (h : ScaleOk x n c b bits lo hi) : ScaleR x n c b bits lo hi := by unfold ScaleR; rw [if_neg (by simp [h1, h2])]; exact h
theorem checkE_0 {n : Nat} {c b : Rat} {bits : Int} (h : checkE n c b bits = 0) : 0 < n ∧ n ≤ 1024 ∧ 0 < c ∧ 0 < b ∧ b < 1 ∧ 0 ≤ bits ∧ bits ≤ 128 := by
  unfold checkE at h
  split at h
  · contradiction
  · rename_i h0
    have h1 := sizeE_0 (Decidable.not_not.1 h0)
    split at h
    · rename_i h2; exact ⟨h1.1, h1.2, h2⟩
    · exact absurd h (by decide)
theorem Q_share (x : Nat → Rat) {n : Nat} (h : n ≤ 1024) : Q 5 (shareN x n) := by
  have := cntN_le (fun i => decide (x i ≠ 0)) n
  exact ((Q_int (v := ((cntN (fun i => decide (x i ≠ 0)) n : Nat) : Int)) (by omega)).div (Q_int (v := ((n : Nat) : Int)) (by omega)))
theorem y_m19_Scale {p : Prop} (h : p := by first | assumption | exact Lb_toL _ | omega | (simp; done) | first | exact Q.le hsq (by decide) | exact Q.le hc (by decide) | exact Q.le hb (by decide) | exact Q.le hHQ (by decide) | exact Q.le hUQ.1 (by decide) | exact Q.le hUQ.2 (by decide) | exact Q.le hQ1 (by decide) | exact Q.le hQ2 (by decide) | exact Q.le hQ3 (by decide) | exact Q.le hQ4 (by decide) | exact Q.le hQ5 (by decide) | exact Q.le hQ6 (by decide) | exact Q.le hQ7 (by decide) | omega) : p := h
theorem m19_Scale (s : SA) (ps : List PR) (p : RA) (c : Raw) (u : RA) (b : Raw) (bits : Int) (hps : ∀ i, i < ps.length → RQ 64 (ps.getD i pr0).2) (hcR : RQ 268435456 c) (hbR : RQ 268435456 b) (hc : Q 64 (qv c)) (hb : Q 64 (qv b)) : Spec Try.prog 7 #[sl s ps.length, ratV p c, ratV u b, .int .i64 bits] [fRats s ps, fRat p c, fRat u b] (ι := RA × RA × Rat × Rat) (fun y => .tuple #[.agg (ivC y.1 (encQ y.2.2.1) y.2.1 (encQ y.2.2.2)), .int .i64 (checkE ps.length (qv c) (qv b) bits)]) (fun y => ScaleR (vals ps) ps.length (qv c) (qv b) bits y.2.2.1 y.2.2.2) (fun y => [fRat y.1 (encQ y.2.2.1), fRat y.2.1 (encQ y.2.2.2)]) := by
 refine Spec.of_body _ (fn := Try.f7) k_ rfl k_ (fun X w0 => ?_)
 refine J.fact (φ := ps.length ≤ 140737488355328) (fun w h => by have := (h _ (.head _)).1; omega) (fun hl1 => ?_)
 refine J.fact (φ := c.mag.length ≤ 140737488355328 ∧ c.den.length ≤ 140737488355328) (fun w h => by have h1 := (h _ (.tail _ ((.head _)))).1.1; have h2 := (h _ (.tail _ ((.head _)))).2.1; omega) (fun hl2 => ?_)
 refine J.fact (φ := b.mag.length ≤ 140737488355328 ∧ b.den.length ≤ 140737488355328) (fun w h => by have h1 := (h _ (.tail _ ((.tail _ ((.head _)))))).1.1; have h2 := (h _ (.tail _ ((.tail _ ((.head _)))))).2.1; omega) (fun hl3 => ?_)
 refine J.sreg ?_
 refine RN.new (fun b => pt b) (.cells #[sl s ps.length] 22 (0, 0)) k_ k_ (fun w => by kernel_rfl) (fun b4 => ?_)
 refine RN.new (fun b => pt b) (.cells (ratC p c) 27 (0, 0)) k_ k_ (fun w => by kernel_rfl) (fun b5 => ?_)
 refine RN.new (fun b => pt b) (.cells (ratC u b) 27 (0, 0)) k_ k_ (fun w => by kernel_rfl) (fun b6 => ?_)
 refine RN.new (fun b => pt b) (.cells (ivC (⟨saNil, saNil⟩ : RA) (⟨false, ([] : List Nat), ([] : List Nat)⟩ : Raw) (⟨saNil, saNil⟩ : RA) (⟨false, ([] : List Nat), ([] : List Nat)⟩ : Raw)) 34 (0, 0)) k_ k_ (fun w => by kernel_rfl) (fun b7 => ?_)
 refine RN.bq (no 1) [3, 4, 5, 6, 8] [] 5 [(3, .int .i64 bits), (4, pt b4), (5, pt b5), (6, pt b6), (8, pt b7)] k_ ?_
 refine RN.fin k_ ?_
 refine J.seq ?_
 refine J.sreg ?_
 refine RN.bq [some 3, some 2, some 1, none] [3, 4, 5, 6, 8, 16, 17, 18, 19] [b6, b6, b6, b5, b5, b5, b4] 4 [(3, .int .i64 bits), (4, pt b4), (5, pt b5), (6, pt b6), (8, pt b7), (16, sl s ps.length), (17, ratV p c), (18, ratV u b), (19, .int .i64 bits)] k_ ?_
 refine RN.call (m19_Check s ps p c u b bits y_m19_Scale y_m19_Scale) [0, 1, 2] k_ k_ k_ rfl (fun y8 _ => ?_)
 refine RN.bq (no 1) [3, 4, 5, 6, 8, 10] [] 6 [(3, .int .i64 bits), (4, pt b4), (5, pt b5), (6, pt b6), (8, pt b7), (10, .int .i64 (checkE ps.length (qv c) (qv b) bits))] k_ ?_
 refine RN.fs k_ ?_
 refine RN.bq (no 2) [3, 4, 5, 6, 8, 10, 22] [] 2 [(3, .int .i64 bits), (4, pt b4), (5, pt b5), (6, pt b6), (8, pt b7), (10, .int .i64 (checkE ps.length (qv c) (qv b) bits)), (22, .bool (((checkE ps.length (qv c) (qv b) bits) : Int) != 0))] k_ ?_
 refine RN.fin k_ ?_
 refine J.cond (((checkE ps.length (qv c) (qv b) bits) : Int) != 0) k_ (fun c9 => ?_) (fun c9 => ?_)
 ·replace c9 := bne_iff_ne.1 c9
  have he := c9
  refine J.sreg ?_
  refine RN.bs [none, none, some 0, none] [8, 9] [b7, b7, b7, b7, b7, b7] 4 [(8, pt b7), (9, .int .i64 (checkE ps.length (qv c) (qv b) bits))] ([(b7, .cells (ivC (⟨saNil, saNil⟩ : RA) (⟨false, ([] : List Nat), ([] : List Nat)⟩ : Raw) (⟨saNil, saNil⟩ : RA) (⟨false, ([] : List Nat), ([] : List Nat)⟩ : Raw)) 34 (0, 0)), (b6, .cells (ratC u b) 27 (0, 0)), (b5, .cells (ratC p c) 27 (0, 0)), (b4, .cells #[sl s ps.length] 22 (0, 0))]) k_ ?_
  refine RN.fin k_ ?_
  have e_1 : encQ (0 : Rat) = (⟨false, ([] : List Nat), ([] : List Nat)⟩ : Raw) := encQ_zero
  have e_2 : encQ (0 : Rat) = (⟨false, ([] : List Nat), ([] : List Nat)⟩ : Raw) := encQ_zero
  refine J.also (fRat (⟨saNil, saNil⟩ : RA) (⟨false, ([] : List Nat), ([] : List Nat)⟩ : Raw)) (fun w h => ⟨fU_nil w, fU_nil w⟩) ?_
  refine J.ret (KR.next (KR.ret (v := .tuple #[.agg (ivC (⟨saNil, saNil⟩ : RA) (⟨false, ([] : List Nat), ([] : List Nat)⟩ : Raw) (⟨saNil, saNil⟩ : RA) (⟨false, ([] : List Nat), ([] : List Nat)⟩ : Raw)), .int .i64 (checkE ps.length (qv c) (qv b) bits)]) (⟨⟨saNil, saNil⟩, ⟨⟨saNil, saNil⟩, ⟨(0 : Rat), (0 : Rat)⟩⟩⟩) [some 0, none] [0, 0] [b7, b7, b7, b7, b7, b7] k_ v2_ (ScaleR_0 (.inl he)) v2_))
 ·replace c9 := bne_eq_false_iff_eq.1 c9
  have he : checkE ps.length (qv c) (qv b) bits = 0 := by simpa using c9
  obtain ⟨hn0, hn1, hc0, hb0, hb1, ht0, ht1⟩ := checkE_0 he
  have hsq := Q_share (vals ps) hn1
  refine J.skip ?_
  refine KN.next ?_
  refine J.seq ?_
  refine J.seq ?_
  refine J.regD k_ [] ?_
  refine RD.bq [(0, some 3), (2, some 1)] [3, 4, 5, 6, 8, 25, 27] [b6, b6, b6, b4] [(3, .int .i64 bits), (4, pt b4), (5, pt b5), (6, pt b6), (8, pt b7), (25, sl s ps.length), (27, ratV u b)] k_ k_ ?_
  refine RD.call (i := 1) (m19_share s ps y_m19_Scale y_m19_Scale) [0] k_ k_ k_ k_ k_ rfl (fun y10 _ => ?_)
  refine RD.call (i := 3) (rational_Compare_c1 y10 (shareN (vals ps) ps.length) u b y_m19_Scale y_m19_Scale) [0, 3] k_ k_ k_ k_ k_ rfl (fun y11 _ => ?_)
  refine RD.bq (nl [4]) [3, 4, 5, 6, 8, 29] [] [(3, .int .i64 bits), (4, pt b4), (5, pt b5), (6, pt b6), (8, pt b7), (29, .bool (decide ((cmpQ (shareN (vals ps) ps.length) (qv b)) ≤ 0)))] k_ k_ ?_
  refine RD.done k_ ?_
  refine KN.next ?_
  refine J.cond (decide ((cmpQ (shareN (vals ps) ps.length) (qv b)) ≤ 0)) k_ (fun c12 => ?_) (fun c12 => ?_)
  ·replace c12 := of_decide_eq_true c12
   have hle : shareN (vals ps) ps.length ≤ qv b := Rat.not_lt.1 (cmpQ_le.1 c12)
   refine J.sreg ?_
   refine RN.bs [none, some 0, none] [8, 9] [b7, b7, b7, b7, b7, b7] 3 [(8, pt b7), (9, .int .i64 0)] ([(b7, .cells (ivC (⟨saNil, saNil⟩ : RA) (⟨false, ([] : List Nat), ([] : List Nat)⟩ : Raw) (⟨saNil, saNil⟩ : RA) (⟨false, ([] : List Nat), ([] : List Nat)⟩ : Raw)) 34 (0, 0)), (b6, .cells (ratC u b) 27 (0, 0)), (b5, .cells (ratC p c) 27 (0, 0)), (b4, .cells #[sl s ps.length] 22 (0, 0))]) k_ ?_
   refine RN.fin k_ ?_
   have e_1 : encQ (0 : Rat) = (⟨false, ([] : List Nat), ([] : List Nat)⟩ : Raw) := encQ_zero
   have e_2 : encQ (0 : Rat) = (⟨false, ([] : List Nat), ([] : List Nat)⟩ : Raw) := encQ_zero
   have e_3 : (checkE ps.length (qv c) (qv b) bits : Int) = (0 : Int) := by exact he
   refine J.also (fRat (⟨saNil, saNil⟩ : RA) (⟨false, ([] : List Nat), ([] : List Nat)⟩ : Raw)) (fun w h => ⟨fU_nil w, fU_nil w⟩) ?_
   refine J.ret (KR.next (KR.ret (v := .tuple #[.agg (ivC (⟨saNil, saNil⟩ : RA) (⟨false, ([] : List Nat), ([] : List Nat)⟩ : Raw) (⟨saNil, saNil⟩ : RA) (⟨false, ([] : List Nat), ([] : List Nat)⟩ : Raw)), .int .i64 0]) (⟨⟨saNil, saNil⟩, ⟨⟨saNil, saNil⟩, ⟨(0 : Rat), (0 : Rat)⟩⟩⟩) [some 0, none] [0, 0] [b7, b7, b7, b7, b7, b7] k_ v3_ (ScaleR_0 (.inr hle)) v3_))
  ·replace c12 := of_decide_eq_false c12
   have hnle : ¬ shareN (vals ps) ps.length ≤ qv b := fun h => c12 (cmpQ_le.2 (Rat.not_lt.2 h))
   have hin : SIn (vals ps) ps.length (qv c) (qv b) bits := ⟨hn0, hn1, fun i hi => (hps i hi).2.2.2.2, hc, hc0, hb, hb0, Rat.not_le.1 hnle, ht0, ht1⟩
   refine J.skip ?_
   refine KN.next ?_
   refine J.sreg ?_
   refine RN.bq (no 2) [3, 4, 5, 8, 11] [] 2 [(3, .int .i64 bits), (4, pt b4), (5, pt b5), (8, pt b7), (11, .func (.func 18) #[] #[pt b4, pt b5, pt b6])] k_ ?_
   refine RN.fs k_ ?_
   refine RN.bq [some 3, some 2] [3, 8, 11, 32, 33] [b5, b5, b5, b4] 2 [(3, .int .i64 bits), (8, pt b7), (11, .func (.func 18) #[] #[pt b4, pt b5, pt b6]), (32, sl s ps.length), (33, ratV p c)] k_ ?_
   refine RN.call (m19_about s ps p c y_m19_Scale y_m19_Scale y_m19_Scale) [1, 2] k_ k_ k_ rfl (fun ab h13 => ?_)
   have hab := h13
   have hpq := (L1.start hab).Q
   refine RN.call (m19_power ab y_m19_Scale y_m19_Scale) [] k_ k_ k_ rfl (fun y14 _ => ?_)
   refine RN.new (fun b => pt b) (.cells (ratC (⟨saNil, saNil⟩ : RA) (⟨false, ([] : List Nat), ([] : List Nat)⟩ : Raw)) 27 (0, 0)) k_ k_ (fun w => by kernel_rfl) (fun b15 => ?_)
   refine RN.bs [some 0] [3, 8, 11, 12] [b15, b15, b15] 6 [(3, .int .i64 bits), (8, pt b7), (11, .func (.func 18) #[] #[pt b4, pt b5, pt b6]), (12, pt b15)] ([(b15, .cells (ratC y14 (encQ (P2 ab))) 27 (0, 0)), (b7, .cells (ivC (⟨saNil, saNil⟩ : RA) (⟨false, ([] : List Nat), ([] : List Nat)⟩ : Raw) (⟨saNil, saNil⟩ : RA) (⟨false, ([] : List Nat), ([] : List Nat)⟩ : Raw)) 34 (0, 0)), (b6, .cells (ratC u b) 27 (0, 0)), (b5, .cells (ratC p c) 27 (0, 0)), (b4, .cells #[sl s ps.length] 22 (0, 0))]) k_ ?_
   refine RN.fin k_ ?_
   refine J.seq ?_
   refine J.block ?_
   refine J.loop (ι := (Nat) × (RA) × (Rat)) (fun x => L1 ab x.1 x.2.2) (fun x => 14624 - x.1) (fun x => [(3, .int .i64 bits), (8, pt b7), (11, .func (.func 18) #[] #[pt b4, pt b5, pt b6]), (12, pt b15)]) (fun x => [(b15, .cells (ratC x.2.1 (encQ x.2.2)) 27 (0, 0)), (b7, .cells (ivC (⟨saNil, saNil⟩ : RA) (⟨false, ([] : List Nat), ([] : List Nat)⟩ : Raw) (⟨saNil, saNil⟩ : RA) (⟨false, ([] : List Nat), ([] : List Nat)⟩ : Raw)) 34 (0, 0)), (b6, .cells (ratC u b) 27 (0, 0)), (b5, .cells (ratC p c) 27 (0, 0)), (b4, .cells #[sl s ps.length] 22 (0, 0))]) (fun x => [fRat x.2.1 (encQ x.2.2), fRat y14 (encQ (P2 ab)), fRat y10 (encQ (shareN (vals ps) ps.length)), fRats s ps, fRat p c, fRat u b]) (0, y14, P2 ab) [3, 8, 11, 12] [0, 0, 1, 2, 3, 4] (L1.start hab) k_ (by first | rfl | (simp only [encQ_zero]; done) | (simp only [encQ_zero]; rfl)) (by rfl) (fun x16 hI => ?_)
   obtain ⟨i, ho, H⟩ := x16
   replace hI : L1 ab i H := hI
   have hHQ := L1.Q hI
   refine J.seq ?_
   refine J.sreg ?_
   refine RN.bq [none, some 0] [3, 8, 11, 12, 36, 37] [b15, b15, b15] 2 [(3, .int .i64 bits), (8, pt b7), (11, .func (.func 18) #[] #[pt b4, pt b5, pt b6]), (12, pt b15), (36, .func (.func 18) #[] #[pt b4, pt b5, pt b6]), (37, ratV ho (encQ H))] k_ ?_
   refine RN.callM (m19_above ho H b4 b5 b6 s ps p c u b y_m19_Scale y_m19_Scale y_m19_Scale y_m19_Scale y_m19_Scale y_m19_Scale y_m19_Scale) [(b15, .cells (ratC ho (encQ H)) 27 (0, 0)), (b7, .cells (ivC (⟨saNil, saNil⟩ : RA) (⟨false, ([] : List Nat), ([] : List Nat)⟩ : Raw) (⟨saNil, saNil⟩ : RA) (⟨false, ([] : List Nat), ([] : List Nat)⟩ : Raw)) 34 (0, 0))] ([]) [0, 3, 4, 5] k_ k_ k_ rfl rfl (fun y17 _ => ?_)
   refine RN.fin k_ ?_
   refine J.cond (decide ((qv b) < meanN (vals ps) ps.length (qv c) H)) k_ (fun c18 => ?_) (fun c18 => ?_)
   ·replace c18 := of_decide_eq_true c18
    have hst := L1.step hin hI c18
    refine J.skip ?_
    refine KN.next ?_
    refine J.block ?_
    refine J.regN ?_
    refine RN.bq [some 0] [3, 8, 11, 12, 39] [b15, b15, b15] 1 [(3, .int .i64 bits), (8, pt b7), (11, .func (.func 18) #[] #[pt b4, pt b5, pt b6]), (12, pt b15), (39, ratV ho (encQ H))] k_ ?_
    refine RN.call (m19_double_c ho H y_m19_Scale) [0] k_ k_ k_ rfl (fun y19 _ => ?_)
    refine RN.bs [some 0] [3, 8, 11, 12] [b15, b15, b15] 3 [(3, .int .i64 bits), (8, pt b7), (11, .func (.func 18) #[] #[pt b4, pt b5, pt b6]), (12, pt b15)] ([(b15, .cells (ratC y19 (encQ (H + H))) 27 (0, 0)), (b7, .cells (ivC (⟨saNil, saNil⟩ : RA) (⟨false, ([] : List Nat), ([] : List Nat)⟩ : Raw) (⟨saNil, saNil⟩ : RA) (⟨false, ([] : List Nat), ([] : List Nat)⟩ : Raw)) 34 (0, 0)), (b6, .cells (ratC u b) 27 (0, 0)), (b5, .cells (ratC p c) 27 (0, 0)), (b4, .cells #[sl s ps.length] 22 (0, 0))]) k_ ?_
    refine RN.done k_ ?_
    refine KN.blk ?_
    refine KN.roundE (i + 1, y19, H + H) [3, 8, 11, 12] [0, 2, 3, 4, 5, 6] (l2 := [(3, .int .i64 bits), (8, pt b7), (11, .func (.func 18) #[] #[pt b4, pt b5, pt b6]), (12, pt b15)]) (by (try dsimp only); omega) (by (try dsimp only); exact hst.2) k_ (by rfl) (by rfl) (by rfl)
   ·replace c18 := of_decide_eq_false c18
    have hna := c18
    have hH := L1.done hI
    refine J.exit (KX.next (KX.next (KX.hit ?_)))
    refine KN.next ?_
    refine J.sreg ?_
    refine RN.bq [some 0] [3, 8, 11, 12, 41] [b15, b15, b15] 1 [(3, .int .i64 bits), (8, pt b7), (11, .func (.func 18) #[] #[pt b4, pt b5, pt b6]), (12, pt b15), (41, ratV ho (encQ H))] k_ ?_
    refine RN.call (m19_halve_c ho H y_m19_Scale) [0] k_ k_ k_ rfl (fun y20 _ => ?_)
    refine RN.new (fun b => pt b) (.cells (ratC (⟨saNil, saNil⟩ : RA) (⟨false, ([] : List Nat), ([] : List Nat)⟩ : Raw)) 27 (0, 0)) k_ k_ (fun w => by kernel_rfl) (fun b21 => ?_)
    refine RN.bs [some 0] [3, 8, 11, 12, 13] [b21, b21, b21] 4 [(3, .int .i64 bits), (8, pt b7), (11, .func (.func 18) #[] #[pt b4, pt b5, pt b6]), (12, pt b15), (13, pt b21)] ([(b21, .cells (ratC y20 (encQ (H / 2))) 27 (0, 0)), (b15, .cells (ratC ho (encQ H)) 27 (0, 0)), (b7, .cells (ivC (⟨saNil, saNil⟩ : RA) (⟨false, ([] : List Nat), ([] : List Nat)⟩ : Raw) (⟨saNil, saNil⟩ : RA) (⟨false, ([] : List Nat), ([] : List Nat)⟩ : Raw)) 34 (0, 0)), (b6, .cells (ratC u b) 27 (0, 0)), (b5, .cells (ratC p c) 27 (0, 0)), (b4, .cells #[sl s ps.length] 22 (0, 0))]) k_ ?_
    refine RN.fin k_ ?_
    refine J.seq ?_
    refine J.block ?_
    refine J.loop (ι := (Nat) × (RA) × (Rat) × (RA) × (Rat)) (fun x => L2 (vals ps) ps.length (qv c) (qv b) H x.1 x.2.2.1 x.2.2.2.2) (fun x => 27168 - x.1) (fun x => [(3, .int .i64 bits), (8, pt b7), (11, .func (.func 18) #[] #[pt b4, pt b5, pt b6]), (12, pt b15), (13, pt b21)]) (fun x => [(b21, .cells (ratC x.2.2.2.1 (encQ x.2.2.2.2)) 27 (0, 0)), (b15, .cells (ratC x.2.1 (encQ x.2.2.1)) 27 (0, 0)), (b7, .cells (ivC (⟨saNil, saNil⟩ : RA) (⟨false, ([] : List Nat), ([] : List Nat)⟩ : Raw) (⟨saNil, saNil⟩ : RA) (⟨false, ([] : List Nat), ([] : List Nat)⟩ : Raw)) 34 (0, 0)), (b6, .cells (ratC u b) 27 (0, 0)), (b5, .cells (ratC p c) 27 (0, 0)), (b4, .cells #[sl s ps.length] 22 (0, 0))]) (fun x => [fRat x.2.1 (encQ x.2.2.1), fRat x.2.2.2.1 (encQ x.2.2.2.2), fRat y20 (encQ (H / 2)), fRat ho (encQ H), fRat y14 (encQ (P2 ab)), fRat y10 (encQ (shareN (vals ps) ps.length)), fRats s ps, fRat p c, fRat u b]) (0, ho, H, y20, H / 2) [3, 8, 11, 12, 13] [1, 0, 0, 1, 2, 3, 4, 5, 6] (L2.start hna) k_ (by first | rfl | (simp only [encQ_zero]; done) | (simp only [encQ_zero]; rfl)) (by rfl) (fun x22 hJ => ?_)
    obtain ⟨j, ho2, U, lo, Lo⟩ := x22
    replace hJ : L2 (vals ps) ps.length (qv c) (qv b) H j U Lo := hJ
    have hUQ := L2.Q hJ hHQ
    refine J.seq ?_
    refine J.sreg ?_
    refine RN.bq [none, some 0] [3, 8, 11, 12, 13, 43, 44] [b21, b21, b21] 2 [(3, .int .i64 bits), (8, pt b7), (11, .func (.func 18) #[] #[pt b4, pt b5, pt b6]), (12, pt b15), (13, pt b21), (43, .func (.func 18) #[] #[pt b4, pt b5, pt b6]), (44, ratV lo (encQ Lo))] k_ ?_
    refine RN.callM (m19_above lo Lo b4 b5 b6 s ps p c u b y_m19_Scale y_m19_Scale y_m19_Scale y_m19_Scale y_m19_Scale y_m19_Scale y_m19_Scale) [(b21, .cells (ratC lo (encQ Lo)) 27 (0, 0)), (b15, .cells (ratC ho2 (encQ U)) 27 (0, 0)), (b7, .cells (ivC (⟨saNil, saNil⟩ : RA) (⟨false, ([] : List Nat), ([] : List Nat)⟩ : Raw) (⟨saNil, saNil⟩ : RA) (⟨false, ([] : List Nat), ([] : List Nat)⟩ : Raw)) 34 (0, 0))] ([]) [1, 6, 7, 8] k_ k_ k_ rfl rfl (fun y23 _ => ?_)
    refine RN.bq (no 1) [3, 8, 11, 12, 13, 46] [] 4 [(3, .int .i64 bits), (8, pt b7), (11, .func (.func 18) #[] #[pt b4, pt b5, pt b6]), (12, pt b15), (13, pt b21), (46, .bool (!(decide ((qv b) < meanN (vals ps) ps.length (qv c) Lo))))] k_ ?_
    refine RN.fin k_ ?_
    refine J.cond (!(decide ((qv b) < meanN (vals ps) ps.length (qv c) Lo))) k_ (fun c24 => ?_) (fun c24 => ?_)
    ·replace c24 := of_decide_eq_false ((Bool.not_eq_true' _).mp c24)
     have hst := L2.step hin hH hJ c24
     refine J.skip ?_
     refine KN.next ?_
     refine J.block ?_
     refine J.regD k_ [3, 4] ?_
     refine RD.bq [(0, some 0), (1, some 0)] [3, 8, 11, 12, 13, 47, 48] [b21, b21, b21, b21, b21, b21] [(3, .int .i64 bits), (8, pt b7), (11, .func (.func 18) #[] #[pt b4, pt b5, pt b6]), (12, pt b15), (13, pt b21), (47, ratV lo (encQ Lo)), (48, ratV lo (encQ Lo))] k_ k_ ?_
     refine RD.call (i := 2) (m19_halve_c lo Lo y_m19_Scale) [1] k_ k_ k_ k_ k_ rfl (fun y25 _ => ?_)
     refine RD.last (i := 3) (some 1) [3, 8, 11, 12, 13, 49] [b15, b15, b15] k_ k_ k_ (l' := [(3, .int .i64 bits), (8, pt b7), (11, .func (.func 18) #[] #[pt b4, pt b5, pt b6]), (12, pt b15), (13, pt b21), (49, ratV y25 (encQ (Lo / 2)))]) (M' := [(b21, .cells (ratC lo (encQ Lo)) 27 (0, 0)), (b15, .cells (ratC lo (encQ Lo)) 27 (0, 0)), (b7, .cells (ivC (⟨saNil, saNil⟩ : RA) (⟨false, ([] : List Nat), ([] : List Nat)⟩ : Raw) (⟨saNil, saNil⟩ : RA) (⟨false, ([] : List Nat), ([] : List Nat)⟩ : Raw)) 34 (0, 0)), (b6, .cells (ratC u b) 27 (0, 0)), (b5, .cells (ratC p c) 27 (0, 0)), (b4, .cells #[sl s ps.length] 22 (0, 0))]) k_ ?_
     refine RD.last (i := 4) (some 0) [3, 8, 11, 12, 13] [b21, b21, b21] k_ k_ k_ (l' := [(3, .int .i64 bits), (8, pt b7), (11, .func (.func 18) #[] #[pt b4, pt b5, pt b6]), (12, pt b15), (13, pt b21)]) (M' := [(b21, .cells (ratC y25 (encQ (Lo / 2))) 27 (0, 0)), (b15, .cells (ratC lo (encQ Lo)) 27 (0, 0)), (b7, .cells (ivC (⟨saNil, saNil⟩ : RA) (⟨false, ([] : List Nat), ([] : List Nat)⟩ : Raw) (⟨saNil, saNil⟩ : RA) (⟨false, ([] : List Nat), ([] : List Nat)⟩ : Raw)) 34 (0, 0)), (b6, .cells (ratC u b) 27 (0, 0)), (b5, .cells (ratC p c) 27 (0, 0)), (b4, .cells #[sl s ps.length] 22 (0, 0))]) k_ ?_
     refine RD.done k_ ?_
     refine KN.blk ?_
     refine KN.roundE (j + 1, lo, Lo, y25, Lo / 2) [3, 8, 11, 12, 13] [2, 0, 3, 4, 5, 6, 7, 8, 9] (l2 := [(3, .int .i64 bits), (8, pt b7), (11, .func (.func 18) #[] #[pt b4, pt b5, pt b6]), (12, pt b15), (13, pt b21)]) (by (try dsimp only); omega) (by (try dsimp only); exact hst.2) k_ (by rfl) (by rfl) (by rfl)
    ·replace c24 := of_decide_eq_true ((Bool.not_eq_false' _).mp c24)
     have hyes := c24
     refine J.exit (KX.next (KX.next (KX.hit ?_)))
     refine KN.next ?_
     refine J.sreg ?_
     refine RN.bq (no 2) [8, 11, 12, 13, 51] [] 2 [(8, pt b7), (11, .func (.func 18) #[] #[pt b4, pt b5, pt b6]), (12, pt b15), (13, pt b21), (51, .int .i64 (IntKind.i64.wrap (0 - bits)))] k_ ?_
     rw [show IntKind.i64.wrap (0 - bits) = (-bits) from by rw [IntKind.wrap_i64]; omega]
     refine RN.call (m19_power (-bits) y_m19_Scale y_m19_Scale) [] k_ k_ k_ rfl (fun y26 _ => ?_)
     refine RN.new (fun b => pt b) (.cells (ratC (⟨saNil, saNil⟩ : RA) (⟨false, ([] : List Nat), ([] : List Nat)⟩ : Raw)) 27 (0, 0)) k_ k_ (fun w => by kernel_rfl) (fun b27 => ?_)
     refine RN.bs [some 0] [8, 11, 12, 13, 14] [b27, b27, b27] 5 [(8, pt b7), (11, .func (.func 18) #[] #[pt b4, pt b5, pt b6]), (12, pt b15), (13, pt b21), (14, pt b27)] ([(b27, .cells (ratC y26 (encQ (P2 (-bits)))) 27 (0, 0)), (b21, .cells (ratC lo (encQ Lo)) 27 (0, 0)), (b15, .cells (ratC ho2 (encQ U)) 27 (0, 0)), (b7, .cells (ivC (⟨saNil, saNil⟩ : RA) (⟨false, ([] : List Nat), ([] : List Nat)⟩ : Raw) (⟨saNil, saNil⟩ : RA) (⟨false, ([] : List Nat), ([] : List Nat)⟩ : Raw)) 34 (0, 0)), (b6, .cells (ratC u b) 27 (0, 0)), (b5, .cells (ratC p c) 27 (0, 0)), (b4, .cells #[sl s ps.length] 22 (0, 0))]) k_ ?_
     refine RN.fin k_ ?_
     refine J.seq ?_
     refine J.block ?_
     refine J.loop (ι := (Nat) × (Nat) × (RA) × (Rat) × (RA) × (Rat)) (fun x => L3 (vals ps) ps.length (qv c) (qv b) Lo bits x.1 x.2.1 x.2.2.2.1 x.2.2.2.2.2) (fun x => bits.toNat - x.2.1) (fun x => [(8, pt b7), (11, .func (.func 18) #[] #[pt b4, pt b5, pt b6]), (12, pt b15), (13, pt b21), (14, pt b27)]) (fun x => [(b27, .cells (ratC y26 (encQ (P2 (-bits)))) 27 (0, 0)), (b21, .cells (ratC x.2.2.2.2.1 (encQ x.2.2.2.2.2)) 27 (0, 0)), (b15, .cells (ratC x.2.2.1 (encQ x.2.2.2.1)) 27 (0, 0)), (b7, .cells (ivC (⟨saNil, saNil⟩ : RA) (⟨false, ([] : List Nat), ([] : List Nat)⟩ : Raw) (⟨saNil, saNil⟩ : RA) (⟨false, ([] : List Nat), ([] : List Nat)⟩ : Raw)) 34 (0, 0)), (b6, .cells (ratC u b) 27 (0, 0)), (b5, .cells (ratC p c) 27 (0, 0)), (b4, .cells #[sl s ps.length] 22 (0, 0))]) (fun x => [fRat x.2.2.1 (encQ x.2.2.2.1), fRat x.2.2.2.2.1 (encQ x.2.2.2.2.2), fRat y26 (encQ (P2 (-bits))), fRat ho2 (encQ U), fRat lo (encQ Lo), fRat y20 (encQ (H / 2)), fRat ho (encQ H), fRat y14 (encQ (P2 ab)), fRat y10 (encQ (shareN (vals ps) ps.length)), fRats s ps, fRat p c, fRat u b]) (1, 0, ho2, U, lo, Lo) [8, 11, 12, 13, 14] [1, 2, 0, 1, 2, 3, 4, 5, 6, 7, 8, 9] (L3.start hH.1 hHQ hJ hyes) k_ (by first | rfl | (simp only [encQ_zero]; done) | (simp only [encQ_zero]; rfl)) (by rfl) (fun x28 hK => ?_)
     obtain ⟨a, k, ho3, U3, lo3, L3v⟩ := x28
     replace hK : L3 (vals ps) ps.length (qv c) (qv b) Lo bits a k U3 L3v := hK
     obtain ⟨hQ1, hQ2, hQ3, hQ4⟩ := L3.Q hK hin.t0 hin.t1
     have hQ5 := hQ1.sub hQ2
     have hQ6 := hQ4.mul hQ1
     have hQ7 := hQ2.add hQ1
     refine J.seq ?_
     refine J.seq ?_
     refine J.regD k_ [] ?_
     refine RD.bq [(0, some 2), (1, some 1), (3, some 0), (4, some 2)] [8, 11, 12, 13, 14, 53, 54, 56, 57] [b15, b15, b15, b27, b27, b27, b21, b21, b21, b15, b15, b15] [(8, pt b7), (11, .func (.func 18) #[] #[pt b4, pt b5, pt b6]), (12, pt b15), (13, pt b21), (14, pt b27), (53, ratV ho3 (encQ U3)), (54, ratV lo3 (encQ L3v)), (56, ratV y26 (encQ (P2 (-bits)))), (57, ratV ho3 (encQ U3))] k_ k_ ?_
     refine RD.call (i := 2) (rational_Sub_c ho3 U3 lo3 L3v y_m19_Scale y_m19_Scale) [0, 1] k_ k_ k_ k_ k_ rfl (fun y29 _ => ?_)
     refine RD.call (i := 5) (rational_Mul_c y26 (P2 (-bits)) ho3 U3 y_m19_Scale y_m19_Scale) [3, 1] k_ k_ k_ k_ k_ rfl (fun y30 _ => ?_)
     refine RD.call (i := 6) (rational_Compare_c y29 (U3 - L3v) y30 ((P2 (-bits)) * U3) y_m19_Scale y_m19_Scale) [1, 0] k_ k_ k_ k_ k_ rfl (fun y31 _ => ?_)
     refine RD.bq (nl [7]) [8, 11, 12, 13, 14, 60] [] [(8, pt b7), (11, .func (.func 18) #[] #[pt b4, pt b5, pt b6]), (12, pt b15), (13, pt b21), (14, pt b27), (60, .bool (decide ((cmpQ (U3 - L3v) ((P2 (-bits)) * U3)) > 0)))] k_ k_ ?_
     refine RD.done k_ ?_
     refine KN.next ?_
     refine J.cond (decide ((cmpQ (U3 - L3v) ((P2 (-bits)) * U3)) > 0)) k_ (fun c32 => ?_) (fun c32 => ?_)
     ·replace c32 := of_decide_eq_true c32
      have hkb := L3.less hK hin.t0 (cmpQ_gt.1 c32)
      refine J.skip ?_
      refine KN.next ?_
      refine J.block ?_
      refine J.sreg ?_
      refine RN.bq [some 1, some 2] [8, 11, 12, 13, 14, 61, 62] [b15, b15, b15, b21, b21, b21] 2 [(8, pt b7), (11, .func (.func 18) #[] #[pt b4, pt b5, pt b6]), (12, pt b15), (13, pt b21), (14, pt b27), (61, ratV lo3 (encQ L3v)), (62, ratV ho3 (encQ U3))] k_ ?_
      refine RN.call (rational_Add_c lo3 L3v ho3 U3 y_m19_Scale y_m19_Scale) [3, 2] k_ k_ k_ rfl (fun y33 _ => ?_)
      refine RN.call (m19_halve_c y33 (L3v + U3) y_m19_Scale) [0] k_ k_ k_ rfl (fun y34 _ => ?_)
      refine RN.new (fun b => pt b) (.cells (ratC (⟨saNil, saNil⟩ : RA) (⟨false, ([] : List Nat), ([] : List Nat)⟩ : Raw)) 27 (0, 0)) k_ k_ (fun w => by kernel_rfl) (fun b35 => ?_)
      refine RN.bs [some 0] [8, 11, 12, 13, 14, 15] [b35, b35, b35] 6 [(8, pt b7), (11, .func (.func 18) #[] #[pt b4, pt b5, pt b6]), (12, pt b15), (13, pt b21), (14, pt b27), (15, pt b35)] ([(b35, .cells (ratC y34 (encQ ((L3v + U3) / 2))) 27 (0, 0)), (b27, .cells (ratC y26 (encQ (P2 (-bits)))) 27 (0, 0)), (b21, .cells (ratC lo3 (encQ L3v)) 27 (0, 0)), (b15, .cells (ratC ho3 (encQ U3)) 27 (0, 0)), (b7, .cells (ivC (⟨saNil, saNil⟩ : RA) (⟨false, ([] : List Nat), ([] : List Nat)⟩ : Raw) (⟨saNil, saNil⟩ : RA) (⟨false, ([] : List Nat), ([] : List Nat)⟩ : Raw)) 34 (0, 0)), (b6, .cells (ratC u b) 27 (0, 0)), (b5, .cells (ratC p c) 27 (0, 0)), (b4, .cells #[sl s ps.length] 22 (0, 0))]) k_ ?_
      refine RN.fs k_ ?_
      refine RN.bq [none, some 0] [8, 11, 12, 13, 14, 15, 65, 66] [b35, b35, b35] 2 [(8, pt b7), (11, .func (.func 18) #[] #[pt b4, pt b5, pt b6]), (12, pt b15), (13, pt b21), (14, pt b27), (15, pt b35), (65, .func (.func 18) #[] #[pt b4, pt b5, pt b6]), (66, ratV y34 (encQ ((L3v + U3) / 2)))] k_ ?_
      refine RN.callM (m19_above y34 ((L3v + U3) / 2) b4 b5 b6 s ps p c u b y_m19_Scale y_m19_Scale y_m19_Scale y_m19_Scale y_m19_Scale y_m19_Scale y_m19_Scale) [(b35, .cells (ratC y34 (encQ ((L3v + U3) / 2))) 27 (0, 0)), (b27, .cells (ratC y26 (encQ (P2 (-bits)))) 27 (0, 0)), (b21, .cells (ratC lo3 (encQ L3v)) 27 (0, 0)), (b15, .cells (ratC ho3 (encQ U3)) 27 (0, 0)), (b7, .cells (ivC (⟨saNil, saNil⟩ : RA) (⟨false, ([] : List Nat), ([] : List Nat)⟩ : Raw) (⟨saNil, saNil⟩ : RA) (⟨false, ([] : List Nat), ([] : List Nat)⟩ : Raw)) 34 (0, 0))] ([]) [0, 13, 14, 15] k_ k_ k_ rfl rfl (fun y36 _ => ?_)
      refine RN.fin k_ ?_
      refine J.cond (decide ((qv b) < meanN (vals ps) ps.length (qv c) ((L3v + U3) / 2))) k_ (fun c37 => ?_) (fun c37 => ?_)
      ·replace c37 := of_decide_eq_true c37
       have hup := L3.up hK hkb c37
       refine J.regN ?_
       refine RN.bs [some 0, some 2] [8, 11, 12, 13, 14] [b21, b21, b21, b35, b35, b35] 2 [(8, pt b7), (11, .func (.func 18) #[] #[pt b4, pt b5, pt b6]), (12, pt b15), (13, pt b21), (14, pt b27)] ([(b35, .cells (ratC y34 (encQ ((L3v + U3) / 2))) 27 (0, 0)), (b27, .cells (ratC y26 (encQ (P2 (-bits)))) 27 (0, 0)), (b21, .cells (ratC y34 (encQ ((L3v + U3) / 2))) 27 (0, 0)), (b15, .cells (ratC ho3 (encQ U3)) 27 (0, 0)), (b7, .cells (ivC (⟨saNil, saNil⟩ : RA) (⟨false, ([] : List Nat), ([] : List Nat)⟩ : Raw) (⟨saNil, saNil⟩ : RA) (⟨false, ([] : List Nat), ([] : List Nat)⟩ : Raw)) 34 (0, 0)), (b6, .cells (ratC u b) 27 (0, 0)), (b5, .cells (ratC p c) 27 (0, 0)), (b4, .cells #[sl s ps.length] 22 (0, 0))]) k_ ?_
       refine RN.done k_ ?_
       refine KN.blk ?_
       refine KN.dropF 1 ?_
       refine KN.roundE (2 * a + 1, k + 1, ho3, U3, y34, (L3v + U3) / 2) [8, 11, 12, 13, 14] [4, 0, 6, 7, 8, 9, 10, 11, 12, 13, 14, 15] (l2 := [(8, pt b7), (11, .func (.func 18) #[] #[pt b4, pt b5, pt b6]), (12, pt b15), (13, pt b21), (14, pt b27)]) (by (try dsimp only); omega) (by (try dsimp only); exact hup) k_ (by rfl) (by rfl) (by rfl)
      ·replace c37 := of_decide_eq_false c37
       have hdn := L3.down hK hkb c37
       refine J.regN ?_
       refine RN.bs [some 0, some 3] [8, 11, 12, 13, 14] [b15, b15, b15, b35, b35, b35] 2 [(8, pt b7), (11, .func (.func 18) #[] #[pt b4, pt b5, pt b6]), (12, pt b15), (13, pt b21), (14, pt b27)] ([(b35, .cells (ratC y34 (encQ ((L3v + U3) / 2))) 27 (0, 0)), (b27, .cells (ratC y26 (encQ (P2 (-bits)))) 27 (0, 0)), (b21, .cells (ratC lo3 (encQ L3v)) 27 (0, 0)), (b15, .cells (ratC y34 (encQ ((L3v + U3) / 2))) 27 (0, 0)), (b7, .cells (ivC (⟨saNil, saNil⟩ : RA) (⟨false, ([] : List Nat), ([] : List Nat)⟩ : Raw) (⟨saNil, saNil⟩ : RA) (⟨false, ([] : List Nat), ([] : List Nat)⟩ : Raw)) 34 (0, 0)), (b6, .cells (ratC u b) 27 (0, 0)), (b5, .cells (ratC p c) 27 (0, 0)), (b4, .cells #[sl s ps.length] 22 (0, 0))]) k_ ?_
       refine RN.done k_ ?_
       refine KN.blk ?_
       refine KN.dropF 1 ?_
       refine KN.roundE (2 * a, k + 1, y34, (L3v + U3) / 2, lo3, L3v) [8, 11, 12, 13, 14] [0, 5, 6, 7, 8, 9, 10, 11, 12, 13, 14, 15] (l2 := [(8, pt b7), (11, .func (.func 18) #[] #[pt b4, pt b5, pt b6]), (12, pt b15), (13, pt b21), (14, pt b27)]) (by (try dsimp only); omega) (by (try dsimp only); exact hdn) k_ (by rfl) (by rfl) (by rfl)
     ·replace c32 := of_decide_eq_false c32
      have hdone := L3.done hK hin.t0 hin.t1 (mt cmpQ_gt.2 c32)
      refine J.exit (KX.next (KX.next (KX.hit ?_)))
      refine KN.next ?_
      refine J.sreg ?_
      refine RN.bs [some 1, some 2, none, some 3, none] [8, 9] [b7, b7, b7, b7, b7, b7, b15, b15, b15, b21, b21, b21] 5 [(8, pt b7), (9, .int .i64 0)] ([(b27, .cells (ratC y26 (encQ (P2 (-bits)))) 27 (0, 0)), (b21, .cells (ratC lo3 (encQ L3v)) 27 (0, 0)), (b15, .cells (ratC ho3 (encQ U3)) 27 (0, 0)), (b7, .cells (ivC lo3 (encQ L3v) ho3 (encQ U3)) 34 (0, 0)), (b6, .cells (ratC u b) 27 (0, 0)), (b5, .cells (ratC p c) 27 (0, 0)), (b4, .cells #[sl s ps.length] 22 (0, 0))]) k_ ?_
      refine RN.fin k_ ?_
      have e_1 : (checkE ps.length (qv c) (qv b) bits : Int) = (0 : Int) := by exact he
      refine J.ret (KR.ret (v := .tuple #[.agg (ivC lo3 (encQ L3v) ho3 (encQ U3)), .int .i64 0]) (⟨lo3, ⟨ho3, ⟨(L3v : Rat), (U3 : Rat)⟩⟩⟩) [some 3, none] [3, 2] [b7, b7, b7, b7, b7, b7] k_ v1_ (ScaleR_ok he hnle hdone) v1_)
theorem m19_Scale_c (s : SA) (ps : List PR) (p : RA) (c' : Rat) (u : RA) (b' : Rat) (bits : Int) (hps : ∀ i, i < ps.length → RQ 64 (ps.getD i pr0).2) (hcR : Q 268435456 c') (hbR : Q 268435456 b') (hc : Q 64 c') (hb : Q 64 b') : Spec Try.prog 7 #[sl s ps.length, ratV p (encQ c'), ratV u (encQ b'), .int .i64 bits] [fRats s ps, fRat p (encQ c'), fRat u (encQ b')] (ι := RA × RA × Rat × Rat) (fun y => .tuple #[.agg (ivC y.1 (encQ y.2.2.1) y.2.1 (encQ y.2.2.2)), .int .i64 (checkE ps.length c' b' bits)]) (fun y => ScaleR (vals ps) ps.length c' b' bits y.2.2.1 y.2.2.2) (fun y => [fRat y.1 (encQ y.2.2.1), fRat y.2.1 (encQ y.2.2.2)]) := by
  have H := m19_Scale s ps p (encQ c') u (encQ b') bits (by first | exact hps | simpa only [qv_encQ, qv_encQ] using hps) (RQ_enc hcR) (RQ_enc hbR) (by first | exact hc | simpa only [qv_encQ, qv_encQ] using hc) (by first | exact hb | simpa only [qv_encQ, qv_encQ] using hb)
  first | exact H | (simp only [qv_encQ, validQ_encQ] at H; exact H)
end Go.Proofs.Ytegnonhgildhoaa.E
/- Plain laws of the scale: order, growth, scaling. -/
namespace Go.Proofs.Ytegnonhgildhoaa.E
set_option linter.unusedVariables false
set_option linter.unusedSimpArgs false
end Go.Proofs.Ytegnonhgildhoaa.E
namespace Go.Proofs.Ytegnonhgildhoaa.E
open Go Go.RowKit
set_option linter.unusedVariables false
set_option linter.unusedSimpArgs false
def tauE (n : Nat) (c b d : Rat) (bits : Int) : Int := if checkE n c b bits ≠ 0 then checkE n c b bits else if 0 < d then 0 else 1
/-- What Tau returns, out of some interval that Scale may return. -/
def TauR (x : Nat → Rat) (n : Nat) (c b d : Rat) (bits : Int) (lo hi : Rat) : Prop :=
  if tauE n c b d bits ≠ 0 then lo = 0 ∧ hi = 0 else ∃ l h, ScaleR x n c b bits l h ∧ if h = 0 then lo = l ∧ hi = h else lo = l * meanN x n d l ∧ hi = h * meanN x n d h
theorem tauE_1 {n : Nat} {c b d : Rat} {bits : Int} (h : checkE n c b bits ≠ 0) : tauE n c b d bits = checkE n c b bits := if_pos h
theorem tauE_2 {n : Nat} {c b d : Rat} {bits : Int} (h : checkE n c b bits = 0) (h2 : ¬ 0 < d) : tauE n c b d bits = 1 := by unfold tauE; rw [if_neg (by simp [h]), if_neg h2]
theorem tauE_3 {n : Nat} {c b d : Rat} {bits : Int} (h : checkE n c b bits = 0) (h2 : 0 < d) : tauE n c b d bits = 0 := by unfold tauE; rw [if_neg (by simp [h]), if_pos h2]
theorem TauR_0 {x : Nat → Rat} {n : Nat} {c b d : Rat} {bits : Int} (h : tauE n c b d bits ≠ 0) : TauR x n c b d bits 0 0 := by unfold TauR; rw [if_pos h]; exact ⟨rfl, rfl⟩
theorem TauR_1 {x : Nat → Rat} {n : Nat} {c b d : Rat} {bits : Int} {l h : Rat} (he : tauE n c b d bits = 0) (hs : ScaleR x n c b bits l h) (h0 : h = 0) : TauR x n c b d bits l h := by
  unfold TauR; rw [if_neg (by simp [he])]; exact ⟨l, h, hs, by rw [if_pos h0]; exact ⟨rfl, rfl⟩⟩
theorem TauR_2 {x : Nat → Rat} {n : Nat} {c b d : Rat} {bits : Int} {l h : Rat} (he : tauE n c b d bits = 0) (hs : ScaleR x n c b bits l h) (h0 : h ≠ 0) : TauR x n c b d bits (l * meanN x n d l) (h * meanN x n d h) := by
  unfold TauR; rw [if_neg (by simp [he])]; exact ⟨l, h, hs, by rw [if_neg h0]; exact ⟨rfl, rfl⟩⟩
theorem ScaleR.Q {x : Nat → Rat} {n : Nat} {c b : Rat} {bits : Int} {l h : Rat} (hs : ScaleR x n c b bits l h) : E.Q 2000 l ∧ E.Q 2000 h := by
  unfold ScaleR at hs
  split at hs
  · rw [hs.1, hs.2]; exact ⟨Q.le Q0 (by decide), Q.le Q0 (by decide)⟩
  · exact ⟨hs.qlo, hs.qhi⟩
theorem sign_eq0' {q : Rat} : Int.sign q.num = 0 ↔ q = 0 := by rw [Int.sign_eq_zero_iff_zero, Rat.num_eq_zero]
theorem y_m19_Tau {p : Prop} (h : p := by first | assumption | exact Lb_toL _ | omega | (simp; done) | first | exact Q.le hd (by decide) | exact Q.le hc (by decide) | exact Q.le hb (by decide) | exact Q.le hq.1 (by decide) | exact Q.le hq.2 (by decide) | exact Q.le hm1 (by decide) | exact Q.le hm2 (by decide)) : p := h
theorem m19_Tau (s : SA) (ps : List PR) (p : RA) (c : Raw) (u : RA) (b : Raw) (v : RA) (d : Raw) (bits : Int) (hps : ∀ i, i < ps.length → RQ 64 (ps.getD i pr0).2) (hcR : RQ 268435456 c) (hbR : RQ 268435456 b) (hdR : RQ 268435456 d) (hc : Q 64 (qv c)) (hb : Q 64 (qv b)) (hd : Q 64 (qv d)) : Spec Try.prog 8 #[sl s ps.length, ratV p c, ratV u b, ratV v d, .int .i64 bits] [fRats s ps, fRat p c, fRat u b, fRat v d] (ι := RA × RA × Rat × Rat) (fun y => .tuple #[.agg (ivC y.1 (encQ y.2.2.1) y.2.1 (encQ y.2.2.2)), .int .i64 (tauE ps.length (qv c) (qv b) (qv d) bits)]) (fun y => TauR (vals ps) ps.length (qv c) (qv b) (qv d) bits y.2.2.1 y.2.2.2) (fun y => [fRat y.1 (encQ y.2.2.1), fRat y.2.1 (encQ y.2.2.2)]) := by
 refine Spec.of_body _ (fn := Try.f8) k_ rfl k_ (fun X w0 => ?_)
 refine J.fact (φ := ps.length ≤ 140737488355328) (fun w h => by have := (h _ (.head _)).1; omega) (fun hl1 => ?_)
 refine J.fact (φ := c.mag.length ≤ 140737488355328 ∧ c.den.length ≤ 140737488355328) (fun w h => by have h1 := (h _ (.tail _ ((.head _)))).1.1; have h2 := (h _ (.tail _ ((.head _)))).2.1; omega) (fun hl2 => ?_)
 refine J.fact (φ := b.mag.length ≤ 140737488355328 ∧ b.den.length ≤ 140737488355328) (fun w h => by have h1 := (h _ (.tail _ ((.tail _ ((.head _)))))).1.1; have h2 := (h _ (.tail _ ((.tail _ ((.head _)))))).2.1; omega) (fun hl3 => ?_)
 refine J.fact (φ := d.mag.length ≤ 140737488355328 ∧ d.den.length ≤ 140737488355328) (fun w h => by have h1 := (h _ (.tail _ ((.tail _ ((.tail _ ((.head _)))))))).1.1; have h2 := (h _ (.tail _ ((.tail _ ((.tail _ ((.head _)))))))).2.1; omega) (fun hl4 => ?_)
 refine J.sreg ?_
 refine RN.new (fun b => pt b) (.cells (ratC p c) 27 (0, 0)) k_ k_ (fun w => by kernel_rfl) (fun b5 => ?_)
 refine RN.new (fun b => pt b) (.cells (ratC u b) 27 (0, 0)) k_ k_ (fun w => by kernel_rfl) (fun b6 => ?_)
 refine RN.new (fun b => pt b) (.cells (ratC v d) 27 (0, 0)) k_ k_ (fun w => by kernel_rfl) (fun b7 => ?_)
 refine RN.new (fun b => pt b) (.cells (ivC (⟨saNil, saNil⟩ : RA) (⟨false, ([] : List Nat), ([] : List Nat)⟩ : Raw) (⟨saNil, saNil⟩ : RA) (⟨false, ([] : List Nat), ([] : List Nat)⟩ : Raw)) 34 (0, 0)) k_ k_ (fun w => by kernel_rfl) (fun b8 => ?_)
 refine RN.bq (no 1) [0, 4, 6, 7, 8, 10] [] 5 [(0, sl s ps.length), (4, .int .i64 bits), (6, pt b5), (7, pt b6), (8, pt b7), (10, pt b8)] k_ ?_
 refine RN.fs k_ ?_
 refine RN.bq [none, some 3, some 2, none] [0, 8, 10, 15, 16, 17, 18] [b6, b6, b6, b5, b5, b5] 4 [(0, sl s ps.length), (8, pt b7), (10, pt b8), (15, sl s ps.length), (16, ratV p c), (17, ratV u b), (18, .int .i64 bits)] k_ ?_
 refine RN.call (m19_Scale s ps p c u b bits y_m19_Tau y_m19_Tau y_m19_Tau y_m19_Tau y_m19_Tau) [0, 1, 2] k_ k_ k_ rfl (fun y9 h10 => ?_)
 have hsc := h10
 have hq := hsc.Q
 refine RN.bq (no 3) [0, 8, 10, 20, 21] [] 8 [(0, sl s ps.length), (8, pt b7), (10, pt b8), (20, .agg (ivC y9.1 (encQ y9.2.2.1) y9.2.1 (encQ y9.2.2.2))), (21, .int .i64 (checkE ps.length (qv c) (qv b) bits))] k_ ?_
 refine RN.new (fun b => pt b) (.cells (ivC (⟨saNil, saNil⟩ : RA) (⟨false, ([] : List Nat), ([] : List Nat)⟩ : Raw) (⟨saNil, saNil⟩ : RA) (⟨false, ([] : List Nat), ([] : List Nat)⟩ : Raw)) 34 (0, 0)) k_ k_ (fun w => by kernel_rfl) (fun b11 => ?_)
 refine RN.bs [some 0, none] [0, 8, 10, 12, 13] [b11, b11, b11, b11, b11, b11] 11 [(0, sl s ps.length), (8, pt b7), (10, pt b8), (12, pt b11), (13, .int .i64 (checkE ps.length (qv c) (qv b) bits))] ([(b11, .cells (ivC y9.1 (encQ y9.2.2.1) y9.2.1 (encQ y9.2.2.2)) 34 (0, 0)), (b8, .cells (ivC (⟨saNil, saNil⟩ : RA) (⟨false, ([] : List Nat), ([] : List Nat)⟩ : Raw) (⟨saNil, saNil⟩ : RA) (⟨false, ([] : List Nat), ([] : List Nat)⟩ : Raw)) 34 (0, 0)), (b7, .cells (ratC v d) 27 (0, 0)), (b6, .cells (ratC u b) 27 (0, 0)), (b5, .cells (ratC p c) 27 (0, 0))]) k_ ?_
 refine RN.fin k_ ?_
 refine J.seq ?_
 refine J.block ?_
 refine J.sreg ?_
 refine RN.bq (no 3) [0, 8, 10, 12, 13, 22] [] 3 [(0, sl s ps.length), (8, pt b7), (10, pt b8), (12, pt b11), (13, .int .i64 (checkE ps.length (qv c) (qv b) bits)), (22, .bool (((checkE ps.length (qv c) (qv b) bits) : Int) != 0))] k_ ?_
 refine RN.fin k_ ?_
 refine J.cond (((checkE ps.length (qv c) (qv b) bits) : Int) != 0) k_ (fun c12 => ?_) (fun c12 => ?_)
 ·replace c12 := bne_iff_ne.1 c12
  have he := c12
  have ht := tauE_1 (d := qv d) he
  have ht0 : tauE ps.length (qv c) (qv b) (qv d) bits ≠ 0 := by rw [ht]; exact he
  refine J.sreg ?_
  refine RN.bs [none, none, some 1, none] [10, 11] [b8, b8, b8, b8, b8, b8] 4 [(10, pt b8), (11, .int .i64 (checkE ps.length (qv c) (qv b) bits))] ([(b11, .cells (ivC y9.1 (encQ y9.2.2.1) y9.2.1 (encQ y9.2.2.2)) 34 (0, 0)), (b8, .cells (ivC (⟨saNil, saNil⟩ : RA) (⟨false, ([] : List Nat), ([] : List Nat)⟩ : Raw) (⟨saNil, saNil⟩ : RA) (⟨false, ([] : List Nat), ([] : List Nat)⟩ : Raw)) 34 (0, 0)), (b7, .cells (ratC v d) 27 (0, 0)), (b6, .cells (ratC u b) 27 (0, 0)), (b5, .cells (ratC p c) 27 (0, 0))]) k_ ?_
  refine RN.fin k_ ?_
  have e_1 : encQ (0 : Rat) = (⟨false, ([] : List Nat), ([] : List Nat)⟩ : Raw) := encQ_zero
  have e_2 : encQ (0 : Rat) = (⟨false, ([] : List Nat), ([] : List Nat)⟩ : Raw) := encQ_zero
  have e_3 : (tauE ps.length (qv c) (qv b) (qv d) bits : Int) = (checkE ps.length (qv c) (qv b) bits : Int) := by first | exact ht | rfl
  refine J.also (fRat (⟨saNil, saNil⟩ : RA) (⟨false, ([] : List Nat), ([] : List Nat)⟩ : Raw)) (fun w h => ⟨fU_nil w, fU_nil w⟩) ?_
  refine J.ret (KR.blk (KR.next (KR.ret (v := .tuple #[.agg (ivC (⟨saNil, saNil⟩ : RA) (⟨false, ([] : List Nat), ([] : List Nat)⟩ : Raw) (⟨saNil, saNil⟩ : RA) (⟨false, ([] : List Nat), ([] : List Nat)⟩ : Raw)), .int .i64 (checkE ps.length (qv c) (qv b) bits)]) (⟨⟨saNil, saNil⟩, ⟨⟨saNil, saNil⟩, ⟨(0 : Rat), (0 : Rat)⟩⟩⟩) [some 1, none] [0, 0] [b8, b8, b8, b8, b8, b8] k_ v3_ (TauR_0 ht0) v3_)))
 ·replace c12 := bne_eq_false_iff_eq.1 c12
  have he : checkE ps.length (qv c) (qv b) bits = 0 := by simpa using c12
  have hn := (checkE_0 he).2.1
  have hm1 := (Q_mean ps hps hd (hq.1.le (by decide : 2000 ≤ 65536)) hn)
  have hm2 := (Q_mean ps hps hd (hq.2.le (by decide : 2000 ≤ 65536)) hn)
  refine J.sreg ?_
  refine RN.bq [some 2] [0, 8, 10, 12, 28] [b7, b7, b7] 1 [(0, sl s ps.length), (8, pt b7), (10, pt b8), (12, pt b11), (28, ratV v d)] k_ ?_
  refine RN.call (m19_positive v d y_m19_Tau) [5] k_ k_ k_ rfl (fun y13 _ => ?_)
  refine RN.bq (no 2) [0, 8, 10, 12, 27] [] 4 [(0, sl s ps.length), (8, pt b7), (10, pt b8), (12, pt b11), (27, .bool (!(decide (0 < (qv d)))))] k_ ?_
  refine RN.fin k_ ?_
  refine J.cond (!(decide (0 < (qv d)))) k_ (fun c14 => ?_) (fun c14 => ?_)
  ·replace c14 := of_decide_eq_false ((Bool.not_eq_true' _).mp c14)
   have ht := tauE_2 he (d := qv d) c14
   have ht0 : tauE ps.length (qv c) (qv b) (qv d) bits ≠ 0 := by rw [ht]; decide
   refine J.sreg ?_
   refine RN.bs [none, some 1, none] [10, 11] [b8, b8, b8, b8, b8, b8] 3 [(10, pt b8), (11, .int .i64 1)] ([(b11, .cells (ivC y9.1 (encQ y9.2.2.1) y9.2.1 (encQ y9.2.2.2)) 34 (0, 0)), (b8, .cells (ivC (⟨saNil, saNil⟩ : RA) (⟨false, ([] : List Nat), ([] : List Nat)⟩ : Raw) (⟨saNil, saNil⟩ : RA) (⟨false, ([] : List Nat), ([] : List Nat)⟩ : Raw)) 34 (0, 0)), (b7, .cells (ratC v d) 27 (0, 0)), (b6, .cells (ratC u b) 27 (0, 0)), (b5, .cells (ratC p c) 27 (0, 0))]) k_ ?_
   refine RN.fin k_ ?_
   have e_1 : encQ (0 : Rat) = (⟨false, ([] : List Nat), ([] : List Nat)⟩ : Raw) := encQ_zero
   have e_2 : encQ (0 : Rat) = (⟨false, ([] : List Nat), ([] : List Nat)⟩ : Raw) := encQ_zero
   have e_3 : (tauE ps.length (qv c) (qv b) (qv d) bits : Int) = (1 : Int) := by first | exact ht | rfl
   refine J.also (fRat (⟨saNil, saNil⟩ : RA) (⟨false, ([] : List Nat), ([] : List Nat)⟩ : Raw)) (fun w h => ⟨fU_nil w, fU_nil w⟩) ?_
   refine J.ret (KR.blk (KR.next (KR.ret (v := .tuple #[.agg (ivC (⟨saNil, saNil⟩ : RA) (⟨false, ([] : List Nat), ([] : List Nat)⟩ : Raw) (⟨saNil, saNil⟩ : RA) (⟨false, ([] : List Nat), ([] : List Nat)⟩ : Raw)), .int .i64 1]) (⟨⟨saNil, saNil⟩, ⟨⟨saNil, saNil⟩, ⟨(0 : Rat), (0 : Rat)⟩⟩⟩) [some 1, none] [0, 0] [b8, b8, b8, b8, b8, b8] k_ v3_ (TauR_0 ht0) v3_)))
  ·replace c14 := of_decide_eq_true ((Bool.not_eq_false' _).mp c14)
   have ht := tauE_3 he c14
   refine J.sreg ?_
   refine RN.bq [none, some 0] [0, 8, 10, 12, 34] [b11, b11, b11] 2 [(0, sl s ps.length), (8, pt b7), (10, pt b8), (12, pt b11), (34, ratV y9.2.1 (encQ y9.2.2.2))] k_ ?_
   refine RN.call (rational_Sign_c y9.2.1 y9.2.2.2 y_m19_Tau) [1] k_ k_ k_ rfl (fun y15 _ => ?_)
   refine RN.bq (no 2) [0, 8, 10, 12, 32] [] 5 [(0, sl s ps.length), (8, pt b7), (10, pt b8), (12, pt b11), (32, .bool (((Int.sign (y9.2.2.2.num)) : Int) == 0))] k_ ?_
   refine RN.fin k_ ?_
   refine J.cond (((Int.sign (y9.2.2.2.num)) : Int) == 0) k_ (fun c16 => ?_) (fun c16 => ?_)
   ·replace c16 := eq_of_beq c16
    have h0 := sign_eq0'.1 c16
    refine J.sreg ?_
    refine RN.bs [some 0, some 1, none] [10, 11] [b8, b8, b8, b8, b8, b8, b11, b11, b11, b11, b11, b11] 3 [(10, pt b8), (11, .int .i64 0)] ([(b11, .cells (ivC y9.1 (encQ y9.2.2.1) y9.2.1 (encQ y9.2.2.2)) 34 (0, 0)), (b8, .cells (ivC y9.1 (encQ y9.2.2.1) y9.2.1 (encQ y9.2.2.2)) 34 (0, 0)), (b7, .cells (ratC v d) 27 (0, 0)), (b6, .cells (ratC u b) 27 (0, 0)), (b5, .cells (ratC p c) 27 (0, 0))]) k_ ?_
    refine RN.fin k_ ?_
    have e_1 : (tauE ps.length (qv c) (qv b) (qv d) bits : Int) = (0 : Int) := by first | exact ht | rfl
    refine J.ret (KR.blk (KR.next (KR.ret (v := .tuple #[.agg (ivC y9.1 (encQ y9.2.2.1) y9.2.1 (encQ y9.2.2.2)), .int .i64 0]) (⟨y9.1, ⟨y9.2.1, ⟨(y9.2.2.1 : Rat), (y9.2.2.2 : Rat)⟩⟩⟩) [some 1, none] [0, 1] [b8, b8, b8, b8, b8, b8] k_ v1_ (TauR_1 ht hsc h0) v1_)))
   ·replace c16 := ne_of_beq_false c16
    have h0 := mt sign_eq0'.2 c16
    refine J.skip ?_
    refine KN.blk ?_
    refine KN.next ?_
    refine J.seq ?_
    refine J.regD k_ [17] ?_
    refine RD.bq [(0, none), (1, some 0), (2, none), (3, some 2), (4, none), (5, some 0), (8, none), (9, some 0), (10, none), (11, some 2), (12, none), (13, some 0)] [10, 39, 40, 41, 43, 47, 48, 49, 51] [b11, b11, b11, b7, b7, b7, b11, b11, b11, b11, b11, b11, b7, b7, b7, b11, b11, b11] [(10, pt b8), (39, ratV y9.1 (encQ y9.2.2.1)), (40, sl s ps.length), (41, ratV v d), (43, ratV y9.1 (encQ y9.2.2.1)), (47, ratV y9.2.1 (encQ y9.2.2.2)), (48, sl s ps.length), (49, ratV v d), (51, ratV y9.2.1 (encQ y9.2.2.2))] k_ k_ ?_
    refine RD.call (i := 6) (m19_mean_c2 s ps v d y9.1 y9.2.2.1 y_m19_Tau y_m19_Tau y_m19_Tau y_m19_Tau y_m19_Tau y_m19_Tau) [2, 5, 0] k_ k_ k_ k_ k_ rfl (fun y17 _ => ?_)
    refine RD.call (i := 7) (rational_Mul_c y9.1 y9.2.2.1 y17 (sumTo (meanT (qv d) y9.2.2.1) ps ps.length / ((((ps.length : Nat) : Int)) : Rat)) y_m19_Tau y_m19_Tau) [1, 0] k_ k_ k_ k_ k_ rfl (fun y18 _ => ?_)
    refine RD.call (i := 14) (m19_mean_c2 s ps v d y9.2.1 y9.2.2.2 y_m19_Tau y_m19_Tau y_m19_Tau y_m19_Tau y_m19_Tau y_m19_Tau) [4, 7, 3] k_ k_ k_ k_ k_ rfl (fun y19 _ => ?_)
    refine RD.call (i := 15) (rational_Mul_c y9.2.1 y9.2.2.2 y19 (sumTo (meanT (qv d) y9.2.2.2) ps ps.length / ((((ps.length : Nat) : Int)) : Rat)) y_m19_Tau y_m19_Tau) [4, 0] k_ k_ k_ k_ k_ rfl (fun y20 _ => ?_)
    refine RD.bq (nl [16]) [10, 54] [] [(10, pt b8), (54, .agg (ivC y18 (encQ (y9.2.2.1 * (sumTo (meanT (qv d) y9.2.2.1) ps ps.length / ((((ps.length : Nat) : Int)) : Rat)))) y20 (encQ (y9.2.2.2 * (sumTo (meanT (qv d) y9.2.2.2) ps ps.length / ((((ps.length : Nat) : Int)) : Rat))))))] k_ k_ ?_
    refine RD.last (i := 17) (some 1) [10] [b8, b8, b8, b8, b8, b8] k_ k_ k_ (l' := [(10, pt b8)]) (M' := [(b11, .cells (ivC y9.1 (encQ y9.2.2.1) y9.2.1 (encQ y9.2.2.2)) 34 (0, 0)), (b8, .cells (ivC y18 (encQ (y9.2.2.1 * (sumTo (meanT (qv d) y9.2.2.1) ps ps.length / ((((ps.length : Nat) : Int)) : Rat)))) y20 (encQ (y9.2.2.2 * (sumTo (meanT (qv d) y9.2.2.2) ps ps.length / ((((ps.length : Nat) : Int)) : Rat))))) 34 (0, 0)), (b7, .cells (ratC v d) 27 (0, 0)), (b6, .cells (ratC u b) 27 (0, 0)), (b5, .cells (ratC p c) 27 (0, 0))]) k_ ?_
    refine RD.bq (nl [18]) [10, 11] [] [(10, pt b8), (11, .int .i64 0)] k_ k_ ?_
    refine RD.done k_ ?_
    refine KN.next ?_
    have e_1 : (tauE ps.length (qv c) (qv b) (qv d) bits : Int) = (0 : Int) := by first | exact ht | rfl
    refine J.ret (KR.ret (v := .tuple #[.agg (ivC y18 (encQ (y9.2.2.1 * (sumTo (meanT (qv d) y9.2.2.1) ps ps.length / ((((ps.length : Nat) : Int)) : Rat)))) y20 (encQ (y9.2.2.2 * (sumTo (meanT (qv d) y9.2.2.2) ps ps.length / ((((ps.length : Nat) : Int)) : Rat))))), .int .i64 0]) (⟨y18, ⟨y20, ⟨(y9.2.2.1 * (sumTo (meanT (qv d) y9.2.2.1) ps ps.length / ((((ps.length : Nat) : Int)) : Rat)) : Rat), (y9.2.2.2 * (sumTo (meanT (qv d) y9.2.2.2) ps ps.length / ((((ps.length : Nat) : Int)) : Rat)) : Rat)⟩⟩⟩) [some 1, none] [2, 0] [b8, b8, b8, b8, b8, b8] k_ v1_ (TauR_2 ht hsc h0) v1_)
theorem m19_Tau_c (s : SA) (ps : List PR) (p : RA) (c' : Rat) (u : RA) (b' : Rat) (v : RA) (d' : Rat) (bits : Int) (hps : ∀ i, i < ps.length → RQ 64 (ps.getD i pr0).2) (hcR : Q 268435456 c') (hbR : Q 268435456 b') (hdR : Q 268435456 d') (hc : Q 64 c') (hb : Q 64 b') (hd : Q 64 d') : Spec Try.prog 8 #[sl s ps.length, ratV p (encQ c'), ratV u (encQ b'), ratV v (encQ d'), .int .i64 bits] [fRats s ps, fRat p (encQ c'), fRat u (encQ b'), fRat v (encQ d')] (ι := RA × RA × Rat × Rat) (fun y => .tuple #[.agg (ivC y.1 (encQ y.2.2.1) y.2.1 (encQ y.2.2.2)), .int .i64 (tauE ps.length c' b' d' bits)]) (fun y => TauR (vals ps) ps.length c' b' d' bits y.2.2.1 y.2.2.2) (fun y => [fRat y.1 (encQ y.2.2.1), fRat y.2.1 (encQ y.2.2.2)]) := by
  have H := m19_Tau s ps p (encQ c') u (encQ b') v (encQ d') bits (by first | exact hps | simpa only [qv_encQ, qv_encQ, qv_encQ] using hps) (RQ_enc hcR) (RQ_enc hbR) (RQ_enc hdR) (by first | exact hc | simpa only [qv_encQ, qv_encQ, qv_encQ] using hc) (by first | exact hb | simpa only [qv_encQ, qv_encQ, qv_encQ] using hb) (by first | exact hd | simpa only [qv_encQ, qv_encQ, qv_encQ] using hd)
  first | exact H | (simp only [qv_encQ, validQ_encQ] at H; exact H)
end Go.Proofs.Ytegnonhgildhoaa.E
namespace Go.Proofs.Ytegnonhgildhoaa.E
open Go Go.RowKit
set_option linter.unusedVariables false
set_option linter.unusedSimpArgs false
end Go.Proofs.Ytegnonhgildhoaa.E
namespace Go.Proofs.Ytegnonhgildhoaa.E
open Go Go.RowKit
set_option linter.unusedVariables false
set_option linter.unusedSimpArgs false
end Go.Proofs.Ytegnonhgildhoaa.E
