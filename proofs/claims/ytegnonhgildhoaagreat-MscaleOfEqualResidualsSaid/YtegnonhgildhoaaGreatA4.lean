/- Lemmas and contracts of functions on the way to the law, part 4. -/
import Derived.Test.YtegnonhgildhoaaGreatA3
namespace Go.Proofs.YtegnonhgildhoaaGreat.E
open Go Go.RowKit
set_option linter.unusedVariables false
set_option linter.unusedSimpArgs false
instance : DecidableEq RawI := fun a b => decidable_of_iff (a.neg = b.neg ∧ a.mag = b.mag) ⟨fun h => by cases a; cases b; simp_all, fun h => by subst h; exact ⟨rfl, rfl⟩⟩
instance : DecidableEq Raw := fun a b => decidable_of_iff (a.neg = b.neg ∧ a.mag = b.mag ∧ a.den = b.den) ⟨fun h => by cases a; cases b; simp_all, fun h => by subst h; exact ⟨rfl, rfl, rfl⟩⟩
theorem encZ_take {z : RawI} (hb : Lb z.mag) (h : validZ z = true) : encZ (zv z) = ⟨z.neg, toL (nv z.mag)⟩ := by
  rw [encZ_zv hb h]
  have hv := validZ_mag h
  rw [nv_of_valid hv, toL_lv hb hv]
theorem r02_Valid (s : SA) (z : RawI) : Spec Tryz.prog 124 #[intV s z] [fU s z.mag] (ι := Unit) (fun y => .bool (validZ z)) (fun y => True) (fun y => []) := by
 refine Spec.of_body _ (fn := Tryz.f124) k_ rfl k_ (fun X w0 => ?_)
 refine J.fact (φ := z.mag.length ≤ 140737488355328) (fun w h => by have := (h _ (.head _)).1; omega) (fun hl1 => ?_)
 refine J.sreg ?_
 refine RN.new (fun b => pt b) (.cells #[.bool z.neg, sl s z.mag.length] 25 (0, 0)) k_ k_ (fun w => by kernel_rfl) (fun b2 => ?_)
 refine RN.bq (no 1) [1] [] 2 [(1, pt b2)] k_ ?_
 refine RN.fs k_ ?_
 refine RN.bq [none, some 0] [1, 4] [b2] 2 [(1, pt b2), (4, sl s z.mag.length)] k_ ?_
 refine RN.call (r01_Valid s z.mag) [0] k_ k_ k_ rfl (fun y3 _ => ?_)
 refine RN.bq (no 1) [1, 6] [] 4 [(1, pt b2), (6, .bool (validU z.mag))] k_ ?_
 refine RN.split 6 (validU z.mag) k_ (fun c4 => ?_) (fun c4 => ?_)
 ·refine RN.bq [none, some 0, none] [1, 6, 9] [b2] 7 [(1, pt b2), (6, .bool true), (9, .bool z.neg)] k_ ?_
  refine RN.split 9 (z.neg) k_ (fun c5 => ?_) (fun c5 => ?_)
  ·refine RN.bq [none, some 0, none, none, none, none, none, none] [2] [b2] 15 [(2, .bool (!((((z.mag.length : Nat) : Int) : Int) == 0)))] k_ ?_
   refine RN.fin k_ ?_
   have e_1 : (validZ z) = (!((((z.mag.length : Nat) : Int) : Int) == 0)) := by rcases z with ⟨neg, mag⟩; cases mag <;> simp_all [validZ] <;> omega
   refine J.ret (KR.ret (v := .bool (!((((z.mag.length : Nat) : Int) : Int) == 0))) (()) [none] [] [] k_ v1_ (trivial) v1_)
  ·refine RN.bq (no 8) [2] [] 15 [(2, .bool true)] k_ ?_
   refine RN.fin k_ ?_
   have e_1 : (validZ z) = true := by rcases z with ⟨neg, mag⟩; cases mag <;> simp_all [validZ] <;> omega
   refine J.ret (KR.ret (v := .bool true) (()) [none] [] [] k_ v1_ (trivial) v1_)
 ·refine RN.bq (no 11) [2] [] 15 [(2, .bool false)] k_ ?_
  refine RN.fin k_ ?_
  have e_1 : (validZ z) = false := by rcases z with ⟨neg, mag⟩; cases mag <;> simp_all [validZ] <;> omega
  refine J.ret (KR.ret (v := .bool false) (()) [none] [] [] k_ v1_ (trivial) v1_)
theorem r02_Take (s : SA) (z : RawI) (hz : Lb z.mag) (hzl : z.mag.length ≤ 1099511627776) : Spec Tryz.prog 99 #[intV s z] [fU s z.mag] (ι := SA) (fun y => intV y (encZ (zv z))) (fun y => True) (fun y => [fU y (toL ((zv z).natAbs))]) := by
 refine Spec.of_body _ (fn := Tryz.f99) k_ rfl k_ (fun X w0 => ?_)
 refine J.fact (φ := z.mag.length ≤ 140737488355328) (fun w h => by have := (h _ (.head _)).1; omega) (fun hl1 => ?_)
 refine J.sreg ?_
 refine RN.new (fun b => pt b) (.cells #[.bool z.neg, sl s z.mag.length] 25 (0, 0)) k_ k_ (fun w => by kernel_rfl) (fun b2 => ?_)
 refine RN.new (fun b => pt b) (.cells #[.bool false, sl saNil ([] : List Nat).length] 25 (0, 0)) k_ k_ (fun w => by kernel_rfl) (fun b3 => ?_)
 refine RN.fin k_ ?_
 refine J.seq ?_
 refine J.sreg ?_
 refine RN.bq [some 1] [1, 2, 3] [b2, b2] 1 [(1, pt b2), (2, pt b3), (3, intV s z)] k_ ?_
 refine RN.call (r02_Valid s z) [0] k_ k_ k_ rfl (fun y4 _ => ?_)
 refine RN.bq (no 1) [1, 2, 5] [] 3 [(1, pt b2), (2, pt b3), (5, .bool (!(validZ z)))] k_ ?_
 refine RN.fin k_ ?_
 refine J.cond (!(validZ z)) k_ (fun c5 => ?_) (fun c5 => ?_)
 ·refine J.sreg ?_
  refine RN.bs [none, some 0] [2] [b3, b3] 2 [(2, pt b3)] ([(b3, .cells #[.bool false, sl saNil ([] : List Nat).length] 25 (0, 0)), (b2, .cells #[.bool z.neg, sl s z.mag.length] 25 (0, 0))]) k_ ?_
  refine RN.fin k_ ?_
  have e_1 : (encZ (zv z)) = (⟨false, ([] : List Nat)⟩ : RawI) := by exact encZ_zv_f (by simpa using ‹(!validZ z) = true›)
  have e_2 : (toL ((zv z).natAbs)) = ([] : List Nat) := congrArg RawI.mag e_1
  refine J.also (fU saNil ([] : List Nat)) (fun w h => fU_nil w) ?_
  refine J.ret (KR.next (KR.ret (v := intV saNil (⟨false, ([] : List Nat)⟩ : RawI)) (saNil) [some 0] [0] [b3, b3] k_ (by first | rfl | (rw [e_1]; done) | (simp only [e_1]; done) | (rw [e_2]; done) | (rw [e_1, e_2]; rfl) | (simp only [e_1, e_2]; done) | (simp only [e_1, e_2]; rfl)) (trivial) (by first | rfl | (rw [e_1]; done) | (simp only [e_1]; done) | (rw [e_2]; done) | (rw [e_1, e_2]; rfl) | (simp only [e_1, e_2]; done) | (simp only [e_1, e_2]; rfl))))
 ·refine J.skip ?_
  refine KN.next ?_
  refine J.seq ?_
  refine J.regD k_ [6] ?_
  refine RD.bq [(0, none), (1, some 1), (2, none), (3, some 1)] [2, 8, 10] [b2, b2] [(2, pt b3), (8, .bool z.neg), (10, sl s z.mag.length)] k_ k_ ?_
  refine RD.call (i := 4) (r01_Take s z.mag y_ y_) [0] k_ k_ k_ k_ k_ rfl (fun y6 _ => ?_)
  refine RD.bq (nl [5]) [2, 12] [] [(2, pt b3), (12, intV y6 (⟨z.neg, toL (nv z.mag)⟩ : RawI))] k_ k_ ?_
  refine RD.last (i := 6) (some 0) [2] [b3, b3] k_ k_ k_ (l' := [(2, pt b3)]) (M' := [(b3, .cells #[.bool z.neg, sl y6 (toL (nv z.mag)).length] 25 (0, 0)), (b2, .cells #[.bool z.neg, sl s z.mag.length] 25 (0, 0))]) k_ ?_
  refine RD.done k_ ?_
  refine KN.next ?_
  have e_1 : (encZ (zv z)) = (⟨z.neg, toL (nv z.mag)⟩ : RawI) := by exact encZ_take hz (by simpa using ‹(!validZ z) = false›)
  have e_2 : (toL ((zv z).natAbs)) = (toL (nv z.mag)) := congrArg RawI.mag e_1
  refine J.ret (KR.ret (v := intV y6 (⟨z.neg, toL (nv z.mag)⟩ : RawI)) (y6) [some 0] [0] [b3, b3] k_ (by first | rfl | (rw [e_1]; done) | (simp only [e_1]; done) | (rw [e_2]; done) | (rw [e_1, e_2]; rfl) | (simp only [e_1, e_2]; done) | (simp only [e_1, e_2]; rfl)) (trivial) (by first | rfl | (rw [e_1]; done) | (simp only [e_1]; done) | (rw [e_2]; done) | (rw [e_1, e_2]; rfl) | (simp only [e_1, e_2]; done) | (simp only [e_1, e_2]; rfl)))
theorem r02_signed (b : Bool) (s : SA) (n : Nat) : Spec Tryz.prog 92 #[.bool b, sl s (toL n).length] [fU s (toL n)] (ι := SA) (fun y => intV y (encZ (sgn b n))) (fun y => True) (fun y => [fU y (toL ((sgn b n).natAbs))]) := by
 refine Spec.of_body _ (fn := Tryz.f92) k_ rfl k_ (fun X w0 => ?_)
 refine J.fact (φ := (toL n).length ≤ 140737488355328) (fun w h => by have := (h _ (.head _)).1; omega) (fun hl1 => ?_)
 refine J.sreg ?_
 refine RN.new (fun b => pt b) (.cells #[.bool false, sl saNil ([] : List Nat).length] 25 (0, 0)) k_ k_ (fun w => by kernel_rfl) (fun b2 => ?_)
 refine RN.fs k_ ?_
 refine RN.bq (no 2) [1, 4, 6] [] 2 [(1, sl s (toL n).length), (4, pt b2), (6, .bool b)] k_ ?_
 refine RN.split 6 (b) k_ (fun c3 => ?_) (fun c3 => ?_)
 ·refine RN.bs [none, none, none, none, none, none, some 0] [4] [b2, b2] 9 [(4, pt b2)] ([(b2, .cells #[.bool (decide ((((toL n).length : Nat) : Int) > 0)), sl s (toL n).length] 25 (0, 0))]) k_ ?_
  refine RN.fin k_ ?_
  have e_1 : (encZ (sgn b n)) = (⟨decide ((((toL n).length : Nat) : Int) > 0), toL n⟩ : RawI) := by first | (rw [‹b = true›]; exact sgn_true _) | (rw [‹b = false›]; exact sgn_false _) | (rw [‹b = false›]; rfl)
  have e_2 : (toL ((sgn b n).natAbs)) = (toL n) := congrArg RawI.mag e_1
  refine J.ret (KR.ret (v := intV s (⟨decide ((((toL n).length : Nat) : Int) > 0), toL n⟩ : RawI)) (s) [some 0] [0] [b2, b2] k_ (by first | rfl | (rw [e_1]; done) | (simp only [e_1]; done) | (rw [e_2]; done) | (rw [e_1, e_2]; rfl) | (simp only [e_1, e_2]; done) | (simp only [e_1, e_2]; rfl)) (trivial) (by first | rfl | (rw [e_1]; done) | (simp only [e_1]; done) | (rw [e_2]; done) | (rw [e_1, e_2]; rfl) | (simp only [e_1, e_2]; done) | (simp only [e_1, e_2]; rfl)))
 ·refine RN.bs [none, none, none, none, none, none, some 0] [4] [b2, b2] 9 [(4, pt b2)] ([(b2, .cells #[.bool false, sl s (toL n).length] 25 (0, 0))]) k_ ?_
  refine RN.fin k_ ?_
  have e_1 : (sgn b n) = ((n : Nat) : Int) := by first | (rw [‹b = true›]; exact sgn_true _) | (rw [‹b = false›]; exact sgn_false _) | (rw [‹b = false›]; rfl)
  refine J.ret (KR.ret (v := intV s (encZ ((n : Nat) : Int))) (s) [some 0] [0] [b2, b2] k_ v1_ (trivial) v1_)
theorem r02_Sign (s : SA) (z : RawI) (hz : Lb z.mag) (hzl : z.mag.length ≤ 1099511627776) : Spec Tryz.prog 74 #[intV s z] [fU s z.mag] (ι := Unit) (fun y => .int .i64 (Int.sign (zv z))) (fun y => True) (fun y => []) := by
 refine Spec.of_body _ (fn := Tryz.f74) k_ rfl k_ (fun X w0 => ?_)
 refine J.fact (φ := z.mag.length ≤ 140737488355328) (fun w h => by have := (h _ (.head _)).1; omega) (fun hl1 => ?_)
 refine J.sreg ?_
 refine RN.new (fun b => pt b) (.cells #[.bool z.neg, sl s z.mag.length] 25 (0, 0)) k_ k_ (fun w => by kernel_rfl) (fun b2 => ?_)
 refine RN.bq (no 1) [1] [] 2 [(1, pt b2)] k_ ?_
 refine RN.fs k_ ?_
 refine RN.bq [some 0] [1, 3] [b2, b2] 1 [(1, pt b2), (3, intV s z)] k_ ?_
 refine RN.call (r02_Take s z y_ y_) [0] k_ k_ k_ rfl (fun y3 _ => ?_)
 refine RN.bs [some 0] [1] [b2, b2] 3 [(1, pt b2)] ([(b2, .cells #[.bool (decide ((zv z) < 0)), sl y3 (toL ((zv z).natAbs)).length] 25 (0, 0))]) k_ ?_
 refine RN.fin k_ ?_
 refine J.seq ?_
 refine J.block ?_
 refine J.sreg ?_
 refine RN.bq [none, some 0, none] [1, 5] [b2] 3 [(1, pt b2), (5, .bool (decide ((zv z) < 0)))] k_ ?_
 refine RN.fin k_ ?_
 refine J.cond (decide ((zv z) < 0)) k_ (fun c4 => ?_) (fun c4 => ?_)
 ·replace c4 := of_decide_eq_true c4
  refine J.sreg ?_
  refine RN.bq (no 1) [2] [] 1 [(2, .int .i64 (-1))] k_ ?_
  refine RN.fin k_ ?_
  have e_1 : (Int.sign (zv z) : Int) = ((-1) : Int) := by exact Int.sign_eq_neg_one_of_neg (by simpa using ‹_›)
  refine J.ret (KR.blk (KR.next (KR.ret (v := .int .i64 (-1)) (()) [none] [] [] k_ v1_ (trivial) v1_)))
 ·replace c4 := of_decide_eq_false c4
  refine J.sreg ?_
  refine RN.bq [none, some 0, none, none, none] [8] [b2] 5 [(8, .bool (decide ((((toL ((zv z).natAbs)).length : Nat) : Int) > 0)))] k_ ?_
  refine RN.fin k_ ?_
  refine J.cond (decide ((((toL ((zv z).natAbs)).length : Nat) : Int) > 0)) k_ (fun c5 => ?_) (fun c5 => ?_)
  ·replace c5 := of_decide_eq_true c5
   refine J.sreg ?_
   refine RN.bq (no 1) [2] [] 1 [(2, .int .i64 1)] k_ ?_
   refine RN.fin k_ ?_
   have e_1 : (Int.sign (zv z) : Int) = (1 : Int) := by exact Int.sign_eq_one_of_pos (by have h1 := mt toL_len0.2 (by omega : ¬ (toL ((zv z).natAbs)).length = 0); simp at *; omega)
   refine J.ret (KR.blk (KR.next (KR.ret (v := .int .i64 1) (()) [none] [] [] k_ v1_ (trivial) v1_)))
  ·replace c5 := of_decide_eq_false c5
   refine J.skip ?_
   refine KN.blk ?_
   refine KN.next ?_
   refine J.sreg ?_
   refine RN.bq (no 1) [2] [] 1 [(2, .int .i64 0)] k_ ?_
   refine RN.fin k_ ?_
   have e_1 : (Int.sign (zv z) : Int) = (0 : Int) := by rw [show zv z = 0 from by have := toL_len0.1 (by omega : (toL ((zv z).natAbs)).length = 0); omega]; rfl
   refine J.ret (KR.ret (v := .int .i64 0) (()) [none] [] [] k_ v1_ (trivial) v1_)
theorem r02_Sign_c (s : SA) (z' : Int) (hzl : (toL (z'.natAbs)).length ≤ 1099511627776) : Spec Tryz.prog 74 #[intV s (encZ z')] [fU s (toL (z'.natAbs))] (ι := Unit) (fun y => .int .i64 (Int.sign z')) (fun y => True) (fun y => []) := by
  have H := r02_Sign s (encZ z') (Lb_toL _) (by first | exact hzl | simpa only [zv_encZ] using hzl)
  first | exact H | (simp only [zv_encZ, validZ_encZ] at H; exact H)
theorem r02_Neg (s : SA) (z : RawI) (hz : Lb z.mag) (hzl : z.mag.length ≤ 1099511627776) : Spec Tryz.prog 101 #[intV s z] [fU s z.mag] (ι := SA) (fun y => intV y (encZ (-zv z))) (fun y => True) (fun y => [fU y (toL ((-zv z).natAbs))]) := by
 refine Spec.of_body _ (fn := Tryz.f101) k_ rfl k_ (fun X w0 => ?_)
 refine J.fact (φ := z.mag.length ≤ 140737488355328) (fun w h => by have := (h _ (.head _)).1; omega) (fun hl1 => ?_)
 refine J.sreg ?_
 refine RN.new (fun b => pt b) (.cells #[.bool z.neg, sl s z.mag.length] 25 (0, 0)) k_ k_ (fun w => by kernel_rfl) (fun b2 => ?_)
 refine RN.new (fun b => pt b) (.cells #[.bool false, sl saNil ([] : List Nat).length] 25 (0, 0)) k_ k_ (fun w => by kernel_rfl) (fun b3 => ?_)
 refine RN.fs k_ ?_
 refine RN.bq [some 1] [1, 2, 3] [b2, b2] 1 [(1, pt b2), (2, pt b3), (3, intV s z)] k_ ?_
 refine RN.call (r02_Take s z y_ y_) [0] k_ k_ k_ rfl (fun y4 _ => ?_)
 refine RN.bs [some 1] [1, 2] [b2, b2] 3 [(1, pt b2), (2, pt b3)] ([(b3, .cells #[.bool false, sl saNil ([] : List Nat).length] 25 (0, 0)), (b2, .cells #[.bool (decide ((zv z) < 0)), sl y4 (toL ((zv z).natAbs)).length] 25 (0, 0))]) k_ ?_
 refine RN.fs k_ ?_
 refine RN.bq [none, some 1, none, none, some 1] [2, 7, 9] [b2, b2] 5 [(2, pt b3), (7, .bool (!(decide ((zv z) < 0)))), (9, sl y4 (toL ((zv z).natAbs)).length)] k_ ?_
 refine RN.call (r02_signed (!(decide ((zv z) < 0))) y4 ((zv z).natAbs)) [0] k_ k_ k_ rfl (fun y5 _ => ?_)
 refine RN.bs [some 0] [2] [b3, b3] 7 [(2, pt b3)] ([(b3, .cells #[.bool (decide ((sgn (!(decide ((zv z) < 0))) ((zv z).natAbs)) < 0)), sl y5 (toL ((sgn (!(decide ((zv z) < 0))) ((zv z).natAbs)).natAbs)).length] 25 (0, 0)), (b2, .cells #[.bool (decide ((zv z) < 0)), sl y4 (toL ((zv z).natAbs)).length] 25 (0, 0))]) k_ ?_
 refine RN.fin k_ ?_
 have e_1 : (-zv z) = (sgn (!(decide ((zv z) < 0))) ((zv z).natAbs)) := by rw [sgn_not]
 refine J.ret (KR.ret (v := intV y5 (encZ (sgn (!(decide ((zv z) < 0))) ((zv z).natAbs)))) (y5) [some 0] [0] [b3, b3] k_ v1_ (trivial) v1_)
theorem r02_Neg_c (s : SA) (z' : Int) (hzl : (toL (z'.natAbs)).length ≤ 1099511627776) : Spec Tryz.prog 101 #[intV s (encZ z')] [fU s (toL (z'.natAbs))] (ι := SA) (fun y => intV y (encZ (-z'))) (fun y => True) (fun y => [fU y (toL ((-z').natAbs))]) := by
  have H := r02_Neg s (encZ z') (Lb_toL _) (by first | exact hzl | simpa only [zv_encZ] using hzl)
  first | exact H | (simp only [zv_encZ, validZ_encZ] at H; exact H)
theorem r02_Add (s : SA) (x : RawI) (t : SA) (z : RawI) (hx : Lb x.mag) (hxl : x.mag.length ≤ 1099511627776) (hz : Lb z.mag) (hzl : z.mag.length ≤ 1099511627776) : Spec Tryz.prog 69 #[intV s x, intV t z] [fU s x.mag, fU t z.mag] (ι := SA) (fun y => intV y (encZ (zv x + zv z))) (fun y => True) (fun y => [fU y (toL ((zv x + zv z).natAbs))]) := by
 refine Spec.of_body _ (fn := Tryz.f69) k_ rfl k_ (fun X w0 => ?_)
 refine J.fact (φ := x.mag.length ≤ 140737488355328) (fun w h => by have := (h _ (.head _)).1; omega) (fun hl1 => ?_)
 refine J.fact (φ := z.mag.length ≤ 140737488355328) (fun w h => by have := (h _ (.tail _ ((.head _)))).1; omega) (fun hl2 => ?_)
 have hxv := Nat.le_trans (zv_len hx) hxl
 have hzv := Nat.le_trans (zv_len hz) hzl
 refine J.sreg ?_
 refine RN.new (fun b => pt b) (.cells #[.bool x.neg, sl s x.mag.length] 25 (0, 0)) k_ k_ (fun w => by kernel_rfl) (fun b3 => ?_)
 refine RN.new (fun b => pt b) (.cells #[.bool z.neg, sl t z.mag.length] 25 (0, 0)) k_ k_ (fun w => by kernel_rfl) (fun b4 => ?_)
 refine RN.new (fun b => pt b) (.cells #[.bool false, sl saNil ([] : List Nat).length] 25 (0, 0)) k_ k_ (fun w => by kernel_rfl) (fun b5 => ?_)
 refine RN.fin k_ ?_
 refine J.seq ?_
 refine J.regD k_ [4, 5] ?_
 refine RD.bq [(0, some 2), (2, some 1)] [2, 3, 4, 9, 11] [b4, b4, b3, b3] [(2, pt b3), (3, pt b4), (4, pt b5), (9, intV s x), (11, intV t z)] k_ k_ ?_
 refine RD.call (i := 1) (r02_Take s x y_ y_) [0] k_ k_ k_ k_ k_ rfl (fun y6 _ => ?_)
 refine RD.call (i := 3) (r02_Take t z y_ y_) [2] k_ k_ k_ k_ k_ rfl (fun y7 _ => ?_)
 refine RD.last (i := 4) (some 2) [2, 3, 4, 12] [b3, b3] k_ k_ k_ (l' := [(2, pt b3), (3, pt b4), (4, pt b5), (12, intV y7 (encZ (zv z)))]) (M' := [(b5, .cells #[.bool false, sl saNil ([] : List Nat).length] 25 (0, 0)), (b4, .cells #[.bool z.neg, sl t z.mag.length] 25 (0, 0)), (b3, .cells #[.bool (decide ((zv x) < 0)), sl y6 (toL ((zv x).natAbs)).length] 25 (0, 0))]) k_ ?_
 refine RD.last (i := 5) (some 1) [2, 3, 4] [b4, b4] k_ k_ k_ (l' := [(2, pt b3), (3, pt b4), (4, pt b5)]) (M' := [(b5, .cells #[.bool false, sl saNil ([] : List Nat).length] 25 (0, 0)), (b4, .cells #[.bool (decide ((zv z) < 0)), sl y7 (toL ((zv z).natAbs)).length] 25 (0, 0)), (b3, .cells #[.bool (decide ((zv x) < 0)), sl y6 (toL ((zv x).natAbs)).length] 25 (0, 0))]) k_ ?_
 refine RD.done k_ ?_
 refine KN.next ?_
 refine J.seq ?_
 refine J.sreg ?_
 refine RN.bq [none, some 2, none, some 1, none] [2, 3, 4, 17] [b4, b3] 5 [(2, pt b3), (3, pt b4), (4, pt b5), (17, .bool ((decide ((zv x) < 0)) == (decide ((zv z) < 0))))] k_ ?_
 refine RN.fin k_ ?_
 refine J.cond ((decide ((zv x) < 0)) == (decide ((zv z) < 0))) k_ (fun c8 => ?_) (fun c8 => ?_)
 ·refine J.seq ?_
  refine J.regD k_ [8] ?_
  refine RD.bq [(0, none), (1, some 2), (2, none), (3, some 2), (4, none), (5, some 1)] [4, 19, 21, 23] [b4, b3, b3] [(4, pt b5), (19, .bool (decide ((zv x) < 0))), (21, sl y6 (toL ((zv x).natAbs)).length), (23, sl y7 (toL ((zv z).natAbs)).length)] k_ k_ ?_
  refine RD.call (i := 6) (r01_Add_c y6 ((zv x).natAbs) y7 ((zv z).natAbs) y_ y_) [1, 0] k_ k_ k_ k_ k_ rfl (fun y9 _ => ?_)
  refine RD.call (i := 7) (r02_signed (decide ((zv x) < 0)) y9 (((zv x).natAbs) + ((zv z).natAbs))) [0] k_ k_ k_ k_ k_ rfl (fun y10 _ => ?_)
  refine RD.last (i := 8) (some 0) [4] [b5, b5] k_ k_ k_ (l' := [(4, pt b5)]) (M' := [(b5, .cells #[.bool (decide ((sgn (decide ((zv x) < 0)) (((zv x).natAbs) + ((zv z).natAbs))) < 0)), sl y10 (toL ((sgn (decide ((zv x) < 0)) (((zv x).natAbs) + ((zv z).natAbs))).natAbs)).length] 25 (0, 0)), (b4, .cells #[.bool (decide ((zv z) < 0)), sl y7 (toL ((zv z).natAbs)).length] 25 (0, 0)), (b3, .cells #[.bool (decide ((zv x) < 0)), sl y6 (toL ((zv x).natAbs)).length] 25 (0, 0))]) k_ ?_
  refine RD.done k_ ?_
  refine KN.next ?_
  have e_1 : (zv x + zv z) = (sgn (decide ((zv x) < 0)) (((zv x).natAbs) + ((zv z).natAbs))) := by rw [sgn_add ‹_›]
  refine J.ret (KR.next (KR.ret (v := intV y10 (encZ (sgn (decide ((zv x) < 0)) (((zv x).natAbs) + ((zv z).natAbs))))) (y10) [some 0] [0] [b5, b5] k_ v1_ (trivial) v1_))
 ·refine J.skip ?_
  refine KN.next ?_
  refine J.seq ?_
  refine J.sreg ?_
  refine RN.bq [none, some 2, none, some 1] [2, 3, 4, 28, 30] [b4, b3] 4 [(2, pt b3), (3, pt b4), (4, pt b5), (28, sl y6 (toL ((zv x).natAbs)).length), (30, sl y7 (toL ((zv z).natAbs)).length)] k_ ?_
  refine RN.call (r01_Sub_c y6 ((zv x).natAbs) y7 ((zv z).natAbs) y_ y_) [1, 0] k_ k_ k_ rfl (fun y11 _ => ?_)
  refine RN.bq (no 5) [2, 3, 4, 5, 6] [] 10 [(2, pt b3), (3, pt b4), (4, pt b5), (5, sl y11 (toL (((zv x).natAbs) - ((zv z).natAbs))).length), (6, .bool (decide (((zv z).natAbs) ≤ ((zv x).natAbs))))] k_ ?_
  refine RN.fs k_ ?_
  refine RN.bq (no 1) [2, 3, 4, 5, 34] [] 1 [(2, pt b3), (3, pt b4), (4, pt b5), (5, sl y11 (toL (((zv x).natAbs) - ((zv z).natAbs))).length), (34, .bool (decide (((zv z).natAbs) ≤ ((zv x).natAbs))))] k_ ?_
  refine RN.fin k_ ?_
  refine J.cond (decide (((zv z).natAbs) ≤ ((zv x).natAbs))) k_ (fun c12 => ?_) (fun c12 => ?_)
  ·replace c12 := of_decide_eq_true c12
   refine J.sreg ?_
   refine RN.bq [none, some 2, none] [4, 36, 37] [b3] 3 [(4, pt b5), (36, .bool (decide ((zv x) < 0))), (37, sl y11 (toL (((zv x).natAbs) - ((zv z).natAbs))).length)] k_ ?_
   refine RN.call (r02_signed (decide ((zv x) < 0)) y11 (((zv x).natAbs) - ((zv z).natAbs))) [0] k_ k_ k_ rfl (fun y13 _ => ?_)
   refine RN.bs [some 0] [4] [b5, b5] 5 [(4, pt b5)] ([(b5, .cells #[.bool (decide ((sgn (decide ((zv x) < 0)) (((zv x).natAbs) - ((zv z).natAbs))) < 0)), sl y13 (toL ((sgn (decide ((zv x) < 0)) (((zv x).natAbs) - ((zv z).natAbs))).natAbs)).length] 25 (0, 0)), (b4, .cells #[.bool (decide ((zv z) < 0)), sl y7 (toL ((zv z).natAbs)).length] 25 (0, 0)), (b3, .cells #[.bool (decide ((zv x) < 0)), sl y6 (toL ((zv x).natAbs)).length] 25 (0, 0))]) k_ ?_
   refine RN.fin k_ ?_
   have e_1 : (zv x + zv z) = (sgn (decide ((zv x) < 0)) (((zv x).natAbs) - ((zv z).natAbs))) := by rw [sgn_sub ‹_› ‹_›]
   refine J.ret (KR.next (KR.ret (v := intV y13 (encZ (sgn (decide ((zv x) < 0)) (((zv x).natAbs) - ((zv z).natAbs))))) (y13) [some 0] [0] [b5, b5] k_ v1_ (trivial) v1_))
  ·replace c12 := of_decide_eq_false c12
   refine J.skip ?_
   refine KN.next ?_
   refine J.sreg ?_
   refine RN.bq [none, some 1, none, some 2] [3, 4, 41, 43] [b3, b4] 4 [(3, pt b4), (4, pt b5), (41, sl y7 (toL ((zv z).natAbs)).length), (43, sl y6 (toL ((zv x).natAbs)).length)] k_ ?_
   refine RN.call (r01_Sub_c y7 ((zv z).natAbs) y6 ((zv x).natAbs) y_ y_) [1, 2] k_ k_ k_ rfl (fun y14 _ => ?_)
   refine RN.bq (no 5) [3, 4, 7] [] 10 [(3, pt b4), (4, pt b5), (7, sl y14 (toL (((zv z).natAbs) - ((zv x).natAbs))).length)] k_ ?_
   refine RN.fs k_ ?_
   refine RN.bq [none, some 1, none] [4, 48, 49] [b4] 3 [(4, pt b5), (48, .bool (decide ((zv z) < 0))), (49, sl y14 (toL (((zv z).natAbs) - ((zv x).natAbs))).length)] k_ ?_
   refine RN.call (r02_signed (decide ((zv z) < 0)) y14 (((zv z).natAbs) - ((zv x).natAbs))) [0] k_ k_ k_ rfl (fun y15 _ => ?_)
   refine RN.bs [some 0] [4] [b5, b5] 5 [(4, pt b5)] ([(b5, .cells #[.bool (decide ((sgn (decide ((zv z) < 0)) (((zv z).natAbs) - ((zv x).natAbs))) < 0)), sl y15 (toL ((sgn (decide ((zv z) < 0)) (((zv z).natAbs) - ((zv x).natAbs))).natAbs)).length] 25 (0, 0)), (b4, .cells #[.bool (decide ((zv z) < 0)), sl y7 (toL ((zv z).natAbs)).length] 25 (0, 0)), (b3, .cells #[.bool (decide ((zv x) < 0)), sl y6 (toL ((zv x).natAbs)).length] 25 (0, 0))]) k_ ?_
   refine RN.fin k_ ?_
   have e_1 : (zv x + zv z) = (sgn (decide ((zv z) < 0)) (((zv z).natAbs) - ((zv x).natAbs))) := by rw [sgn_sub' ‹_› ‹_›]
   refine J.ret (KR.ret (v := intV y15 (encZ (sgn (decide ((zv z) < 0)) (((zv z).natAbs) - ((zv x).natAbs))))) (y15) [some 0] [0] [b5, b5] k_ v1_ (trivial) v1_)
theorem r02_Add_c (s : SA) (x' : Int) (t : SA) (z' : Int) (hxl : (toL (x'.natAbs)).length ≤ 1099511627776) (hzl : (toL (z'.natAbs)).length ≤ 1099511627776) : Spec Tryz.prog 69 #[intV s (encZ x'), intV t (encZ z')] [fU s (toL (x'.natAbs)), fU t (toL (z'.natAbs))] (ι := SA) (fun y => intV y (encZ (x' + z'))) (fun y => True) (fun y => [fU y (toL ((x' + z').natAbs))]) := by
  have H := r02_Add s (encZ x') t (encZ z') (Lb_toL _) (by first | exact hxl | simpa only [zv_encZ, zv_encZ] using hxl) (Lb_toL _) (by first | exact hzl | simpa only [zv_encZ, zv_encZ] using hzl)
  first | exact H | (simp only [zv_encZ, validZ_encZ] at H; exact H)
theorem r02_Mul (s : SA) (x : RawI) (t : SA) (z : RawI) (hx : Lb x.mag) (hxl : x.mag.length ≤ 137438953472) (hz : Lb z.mag) (hzl : z.mag.length ≤ 137438953472) : Spec Tryz.prog 70 #[intV s x, intV t z] [fU s x.mag, fU t z.mag] (ι := SA) (fun y => intV y (encZ (zv x * zv z))) (fun y => True) (fun y => [fU y (toL ((zv x * zv z).natAbs))]) := by
 refine Spec.of_body _ (fn := Tryz.f70) k_ rfl k_ (fun X w0 => ?_)
 refine J.fact (φ := x.mag.length ≤ 140737488355328) (fun w h => by have := (h _ (.head _)).1; omega) (fun hl1 => ?_)
 refine J.fact (φ := z.mag.length ≤ 140737488355328) (fun w h => by have := (h _ (.tail _ ((.head _)))).1; omega) (fun hl2 => ?_)
 have hxv := Nat.le_trans (zv_len hx) hxl
 have hzv := Nat.le_trans (zv_len hz) hzl
 refine J.sreg ?_
 refine RN.new (fun b => pt b) (.cells #[.bool x.neg, sl s x.mag.length] 25 (0, 0)) k_ k_ (fun w => by kernel_rfl) (fun b3 => ?_)
 refine RN.new (fun b => pt b) (.cells #[.bool z.neg, sl t z.mag.length] 25 (0, 0)) k_ k_ (fun w => by kernel_rfl) (fun b4 => ?_)
 refine RN.new (fun b => pt b) (.cells #[.bool false, sl saNil ([] : List Nat).length] 25 (0, 0)) k_ k_ (fun w => by kernel_rfl) (fun b5 => ?_)
 refine RN.fin k_ ?_
 refine J.seq ?_
 refine J.regD k_ [4, 5] ?_
 refine RD.bq [(0, some 2), (2, some 1)] [2, 3, 4, 5, 7] [b4, b4, b3, b3] [(2, pt b3), (3, pt b4), (4, pt b5), (5, intV s x), (7, intV t z)] k_ k_ ?_
 refine RD.call (i := 1) (r02_Take s x y_ y_) [0] k_ k_ k_ k_ k_ rfl (fun y6 _ => ?_)
 refine RD.call (i := 3) (r02_Take t z y_ y_) [2] k_ k_ k_ k_ k_ rfl (fun y7 _ => ?_)
 refine RD.last (i := 4) (some 2) [2, 3, 4, 8] [b3, b3] k_ k_ k_ (l' := [(2, pt b3), (3, pt b4), (4, pt b5), (8, intV y7 (encZ (zv z)))]) (M' := [(b5, .cells #[.bool false, sl saNil ([] : List Nat).length] 25 (0, 0)), (b4, .cells #[.bool z.neg, sl t z.mag.length] 25 (0, 0)), (b3, .cells #[.bool (decide ((zv x) < 0)), sl y6 (toL ((zv x).natAbs)).length] 25 (0, 0))]) k_ ?_
 refine RD.last (i := 5) (some 1) [2, 3, 4] [b4, b4] k_ k_ k_ (l' := [(2, pt b3), (3, pt b4), (4, pt b5)]) (M' := [(b5, .cells #[.bool false, sl saNil ([] : List Nat).length] 25 (0, 0)), (b4, .cells #[.bool (decide ((zv z) < 0)), sl y7 (toL ((zv z).natAbs)).length] 25 (0, 0)), (b3, .cells #[.bool (decide ((zv x) < 0)), sl y6 (toL ((zv x).natAbs)).length] 25 (0, 0))]) k_ ?_
 refine RD.done k_ ?_
 refine KN.next ?_
 refine J.seq ?_
 refine J.regD k_ [11] ?_
 refine RD.bq [(0, none), (1, some 2), (2, none), (3, some 1), (4, none), (5, none), (6, some 2), (7, none), (8, some 1)] [4, 13, 15, 17] [b4, b3, b4, b3] [(4, pt b5), (13, .bool ((decide ((zv x) < 0)) != (decide ((zv z) < 0)))), (15, sl y6 (toL ((zv x).natAbs)).length), (17, sl y7 (toL ((zv z).natAbs)).length)] k_ k_ ?_
 refine RD.call (i := 9) (r01_Mul_c y6 ((zv x).natAbs) y7 ((zv z).natAbs) y_ y_) [1, 0] k_ k_ k_ k_ k_ rfl (fun y8 _ => ?_)
 refine RD.call (i := 10) (r02_signed ((decide ((zv x) < 0)) != (decide ((zv z) < 0))) y8 (((zv x).natAbs) * ((zv z).natAbs))) [0] k_ k_ k_ k_ k_ rfl (fun y9 _ => ?_)
 refine RD.last (i := 11) (some 0) [4] [b5, b5] k_ k_ k_ (l' := [(4, pt b5)]) (M' := [(b5, .cells #[.bool (decide ((sgn ((decide ((zv x) < 0)) != (decide ((zv z) < 0))) (((zv x).natAbs) * ((zv z).natAbs))) < 0)), sl y9 (toL ((sgn ((decide ((zv x) < 0)) != (decide ((zv z) < 0))) (((zv x).natAbs) * ((zv z).natAbs))).natAbs)).length] 25 (0, 0)), (b4, .cells #[.bool (decide ((zv z) < 0)), sl y7 (toL ((zv z).natAbs)).length] 25 (0, 0)), (b3, .cells #[.bool (decide ((zv x) < 0)), sl y6 (toL ((zv x).natAbs)).length] 25 (0, 0))]) k_ ?_
 refine RD.done k_ ?_
 refine KN.next ?_
 have e_1 : (zv x * zv z) = (sgn ((decide ((zv x) < 0)) != (decide ((zv z) < 0))) (((zv x).natAbs) * ((zv z).natAbs))) := by rw [sgn_mul]
 refine J.ret (KR.ret (v := intV y9 (encZ (sgn ((decide ((zv x) < 0)) != (decide ((zv z) < 0))) (((zv x).natAbs) * ((zv z).natAbs))))) (y9) [some 0] [0] [b5, b5] k_ v1_ (trivial) v1_)
theorem r02_Mul_c (s : SA) (x' : Int) (t : SA) (z' : Int) (hxl : (toL (x'.natAbs)).length ≤ 137438953472) (hzl : (toL (z'.natAbs)).length ≤ 137438953472) : Spec Tryz.prog 70 #[intV s (encZ x'), intV t (encZ z')] [fU s (toL (x'.natAbs)), fU t (toL (z'.natAbs))] (ι := SA) (fun y => intV y (encZ (x' * z'))) (fun y => True) (fun y => [fU y (toL ((x' * z').natAbs))]) := by
  have H := r02_Mul s (encZ x') t (encZ z') (Lb_toL _) (by first | exact hxl | simpa only [zv_encZ, zv_encZ] using hxl) (Lb_toL _) (by first | exact hzl | simpa only [zv_encZ, zv_encZ] using hzl)
  first | exact H | (simp only [zv_encZ, validZ_encZ] at H; exact H)
theorem r02_Gcd (s : SA) (x : RawI) (t : SA) (z : RawI) (hx : Lb x.mag) (hxl : x.mag.length ≤ 137438953472) (hz : Lb z.mag) (hzl : z.mag.length ≤ 137438953472) : Spec Tryz.prog 102 #[intV s x, intV t z] [fU s x.mag, fU t z.mag] (ι := SA) (fun y => sl y (toL (Nat.gcd ((zv x).natAbs) ((zv z).natAbs))).length) (fun y => True) (fun y => [fU y (toL (Nat.gcd ((zv x).natAbs) ((zv z).natAbs)))]) := by
 refine Spec.of_body _ (fn := Tryz.f102) k_ rfl k_ (fun X w0 => ?_)
 refine J.fact (φ := x.mag.length ≤ 140737488355328) (fun w h => by have := (h _ (.head _)).1; omega) (fun hl1 => ?_)
 refine J.fact (φ := z.mag.length ≤ 140737488355328) (fun w h => by have := (h _ (.tail _ ((.head _)))).1; omega) (fun hl2 => ?_)
 have hxv := Nat.le_trans (zv_len hx) hxl
 have hzv := Nat.le_trans (zv_len hz) hzl
 refine J.sreg ?_
 refine RN.new (fun b => pt b) (.cells #[.bool x.neg, sl s x.mag.length] 25 (0, 0)) k_ k_ (fun w => by kernel_rfl) (fun b3 => ?_)
 refine RN.new (fun b => pt b) (.cells #[.bool z.neg, sl t z.mag.length] 25 (0, 0)) k_ k_ (fun w => by kernel_rfl) (fun b4 => ?_)
 refine RN.bq (no 1) [2, 3] [] 3 [(2, pt b3), (3, pt b4)] k_ ?_
 refine RN.fin k_ ?_
 refine J.seq ?_
 refine J.regD k_ [] ?_
 refine RD.bq [(0, some 1), (3, some 0)] [5, 8] [b4, b4, b3, b3] [(5, intV s x), (8, intV t z)] k_ k_ ?_
 refine RD.call (i := 1) (r02_Take s x y_ y_) [0] k_ k_ k_ k_ k_ rfl (fun y5 _ => ?_)
 refine RD.bq (nl [2]) [7, 8] [] [(7, sl y5 (toL ((zv x).natAbs)).length), (8, intV t z)] k_ k_ ?_
 refine RD.call (i := 4) (r02_Take t z y_ y_) [2] k_ k_ k_ k_ k_ rfl (fun y6 _ => ?_)
 refine RD.bq (nl [5]) [7, 10] [] [(7, sl y5 (toL ((zv x).natAbs)).length), (10, sl y6 (toL ((zv z).natAbs)).length)] k_ k_ ?_
 refine RD.call (i := 6) (r01_Gcd_c y5 ((zv x).natAbs) y6 ((zv z).natAbs) y_ y_) [1, 0] k_ k_ k_ k_ k_ rfl (fun y7 _ => ?_)
 refine RD.bq (nl [7]) [4] [] [(4, sl y7 (toL (Nat.gcd ((zv x).natAbs) ((zv z).natAbs))).length)] k_ k_ ?_
 refine RD.done k_ ?_
 refine KN.next ?_
 refine J.ret (KR.ret (v := sl y7 (toL (Nat.gcd ((zv x).natAbs) ((zv z).natAbs))).length) (y7) [none] [0] [] k_ rfl (trivial) rfl)
theorem r02_Gcd_c (s : SA) (x' : Int) (t : SA) (z' : Int) (hxl : (toL (x'.natAbs)).length ≤ 137438953472) (hzl : (toL (z'.natAbs)).length ≤ 137438953472) : Spec Tryz.prog 102 #[intV s (encZ x'), intV t (encZ z')] [fU s (toL (x'.natAbs)), fU t (toL (z'.natAbs))] (ι := SA) (fun y => sl y (toL (Nat.gcd (x'.natAbs) (z'.natAbs))).length) (fun y => True) (fun y => [fU y (toL (Nat.gcd (x'.natAbs) (z'.natAbs)))]) := by
  have H := r02_Gcd s (encZ x') t (encZ z') (Lb_toL _) (by first | exact hxl | simpa only [zv_encZ, zv_encZ] using hxl) (Lb_toL _) (by first | exact hzl | simpa only [zv_encZ, zv_encZ] using hzl)
  first | exact H | (simp only [zv_encZ, validZ_encZ] at H; exact H)
theorem r02_Same (s : SA) (x : RawI) (t : SA) (z : RawI) : Spec Tryz.prog 45 #[intV s x, intV t z] [fU s x.mag, fU t z.mag] (ι := Unit) (fun y => .bool (decide (x = z))) (fun y => True) (fun y => []) := by
 refine Spec.of_body _ (fn := Tryz.f45) k_ rfl k_ (fun X w0 => ?_)
 refine J.fact (φ := x.mag.length ≤ 140737488355328) (fun w h => by have := (h _ (.head _)).1; omega) (fun hl1 => ?_)
 refine J.fact (φ := z.mag.length ≤ 140737488355328) (fun w h => by have := (h _ (.tail _ ((.head _)))).1; omega) (fun hl2 => ?_)
 refine J.sreg ?_
 refine RN.new (fun b => pt b) (.cells #[.bool x.neg, sl s x.mag.length] 25 (0, 0)) k_ k_ (fun w => by kernel_rfl) (fun b3 => ?_)
 refine RN.new (fun b => pt b) (.cells #[.bool z.neg, sl t z.mag.length] 25 (0, 0)) k_ k_ (fun w => by kernel_rfl) (fun b4 => ?_)
 refine RN.bq (no 1) [2, 3] [] 3 [(2, pt b3), (3, pt b4)] k_ ?_
 refine RN.fs k_ ?_
 refine RN.bq [none, some 1, none, some 0, none, none] [2, 3, 10] [b4, b3] 6 [(2, pt b3), (3, pt b4), (10, .bool (x.neg == z.neg))] k_ ?_
 refine RN.split 10 (x.neg == z.neg) k_ (fun c5 => ?_) (fun c5 => ?_)
 ·refine RN.bq [none, some 1, none, some 0] [10, 12, 14] [b4, b3] 10 [(10, .bool true), (12, sl s x.mag.length), (14, sl t z.mag.length)] k_ ?_
  refine RN.call (r01_Same s x.mag t z.mag) [0, 1] k_ k_ k_ rfl (fun y6 _ => ?_)
  refine RN.bq (no 2) [4] [] 13 [(4, .bool (decide (x.mag = z.mag)))] k_ ?_
  refine RN.fin k_ ?_
  have e_1 : (decide (x = z)) = (decide (x.mag = z.mag)) := by rcases x with ⟨a, b⟩; rcases z with ⟨c, d⟩; simp_all
  refine J.ret (KR.ret (v := .bool (decide (x.mag = z.mag))) (()) [none] [] [] k_ v1_ (trivial) v1_)
 ·refine RN.bq (no 7) [4] [] 13 [(4, .bool false)] k_ ?_
  refine RN.fin k_ ?_
  have e_1 : (decide (x = z)) = false := by rcases x with ⟨a, b⟩; rcases z with ⟨c, d⟩; simp_all
  refine J.ret (KR.ret (v := .bool false) (()) [none] [] [] k_ v1_ (trivial) v1_)
theorem y_r02_FromInt {p : Prop} (h : p := by first | assumption | exact Lb_toL _ | omega | (simp; done) | first | exact Lb.one (by decide) | (simp; done) | (simp; omega)) : p := h
theorem r02_FromInt (v : Int) (h1 : -9223372036854775808 ≤ v) (h2 : v < 9223372036854775808) : Spec Tryz.prog 63 #[.int .i64 v] [] (ι := SA) (fun y => intV y (encZ v)) (fun y => True) (fun y => [fU y (toL (v.natAbs))]) := by
 refine Spec.of_body _ (fn := Tryz.f63) k_ rfl k_ (fun X w0 => ?_)
 have hl : (toL ((-(v + 1)).natAbs)).length ≤ 1099511627776 := Nat.le_trans (u64_len.2 (by omega)) (by decide)
 refine J.sreg ?_
 refine RN.new (fun b => pt b) (.cells #[.bool false, sl saNil ([] : List Nat).length] 25 (0, 0)) k_ k_ (fun w => by kernel_rfl) (fun b1 => ?_)
 refine RN.fin k_ ?_
 refine J.seq ?_
 refine J.sreg ?_
 refine RN.bq (no 2) [0, 2, 4] [] 2 [(0, .int .i64 v), (2, pt b1), (4, .bool (decide (v < 0)))] k_ ?_
 refine RN.fin k_ ?_
 refine J.cond (decide (v < 0)) k_ (fun c2 => ?_) (fun c2 => ?_)
 ·replace c2 := of_decide_eq_true c2
  refine J.sreg ?_
  refine RN.bq (no 2) [2, 6] [] 2 [(2, pt b1), (6, .int .i64 (IntKind.i64.wrap (v + 1)))] k_ ?_
  rw [show IntKind.i64.wrap (v + 1) = (v + 1) from by rw [IntKind.wrap_i64]; omega]
  refine RN.bq (no 1) [2, 7] [] 3 [(2, pt b1), (7, .int .i64 (IntKind.i64.wrap (0 - (v + 1))))] k_ ?_
  rw [show IntKind.i64.wrap (0 - (v + 1)) = (-(v + 1)) from by rw [IntKind.wrap_i64]; omega]
  refine RN.bq (no 1) [2, 8] [] 4 [(2, pt b1), (8, .int .u64 (IntKind.u64.wrap (-(v + 1))))] k_ ?_
  rw [show (IntKind.u64.wrap (-(v + 1))) = (((-(v + 1)).natAbs : Nat) : Int) from by exact u64_pos (by omega) (by omega)]
  refine RN.call (r01_FromUint ((-(v + 1)).natAbs) y_r02_FromInt) [] k_ k_ k_ rfl (fun y3 _ => ?_)
  refine RN.new (fun b => .slice (some ⟨b, 0, none⟩) 1 1) (.cells (encU ([1] : List Nat)) 82 (0, 0)) k_ k_ (fun w => by kernel_rfl) (fun b4 => ?_)
  refine RN.share 0 rfl rfl ?_
  refine RN.also (fU (⟨some ⟨b4, 0, none⟩, 1⟩ : SA) ([1] : List Nat)) (fun w h => fU_own (h _ (.head _)) x_ x_) ?_
  refine RN.turn 10 (v := .slice (some ⟨b4, 0, none⟩) 1 1) (v' := sl (⟨some ⟨b4, 0, none⟩, 1⟩ : SA) ([1] : List Nat).length) k_ (sl_eq x_) ?_
  refine RN.call (r01_Add y3 (toL ((-(v + 1)).natAbs)) (⟨some ⟨b4, 0, none⟩, 1⟩ : SA) ([1] : List Nat) y_r02_FromInt y_r02_FromInt y_r02_FromInt y_r02_FromInt) [2, 0] k_ k_ k_ rfl (fun y5 _ => ?_)
  refine RN.call (r02_signed true y5 (nv (toL ((-(v + 1)).natAbs)) + nv ([1] : List Nat))) [0] k_ k_ k_ rfl (fun y6 _ => ?_)
  refine RN.bs [some 0] [2] [b1, b1] 9 [(2, pt b1)] ([(b1, .cells #[.bool (decide ((sgn true (nv (toL ((-(v + 1)).natAbs)) + nv ([1] : List Nat))) < 0)), sl y6 (toL ((sgn true (nv (toL ((-(v + 1)).natAbs)) + nv ([1] : List Nat))).natAbs)).length] 25 (0, 0))]) k_ ?_
  refine RN.fin k_ ?_
  have e_1 : v = (sgn true (nv (toL ((-(v + 1)).natAbs)) + nv ([1] : List Nat))) := by first | (rw [nv_toL, nv_one]; simp [sgn]; omega) | (simp [sgn]; omega)
  refine J.ret (KR.next (KR.ret (v := intV y6 (encZ (sgn true (nv (toL ((-(v + 1)).natAbs)) + nv ([1] : List Nat))))) (y6) [some 0] [0] [b1, b1] k_ v1_ (trivial) v1_))
 ·replace c2 := of_decide_eq_false c2
  refine J.skip ?_
  refine KN.next ?_
  refine J.sreg ?_
  refine RN.bq (no 2) [2, 14] [] 2 [(2, pt b1), (14, .int .u64 (IntKind.u64.wrap v))] k_ ?_
  rw [show (IntKind.u64.wrap v) = ((v.natAbs : Nat) : Int) from by exact u64_pos (by omega) (by omega)]
  refine RN.call (r01_FromUint (v.natAbs) y_r02_FromInt) [] k_ k_ k_ rfl (fun y7 _ => ?_)
  refine RN.call (r02_signed false y7 (v.natAbs)) [0] k_ k_ k_ rfl (fun y8 _ => ?_)
  refine RN.bs [some 0] [2] [b1, b1] 5 [(2, pt b1)] ([(b1, .cells #[.bool (decide ((sgn false (v.natAbs)) < 0)), sl y8 (toL ((sgn false (v.natAbs)).natAbs)).length] 25 (0, 0))]) k_ ?_
  refine RN.fin k_ ?_
  have e_1 : v = (sgn false (v.natAbs)) := by first | (rw [nv_toL, nv_one]; simp [sgn]; omega) | (simp [sgn]; omega)
  refine J.ret (KR.ret (v := intV y8 (encZ (sgn false (v.natAbs)))) (y8) [some 0] [0] [b1, b1] k_ v1_ (trivial) v1_)
theorem ediv_core {a b : Int} {m r : Nat} (hb : b ≠ 0) (h : (r : Int) + (b.natAbs : Int) * sgn (decide (a < 0)) m = a) (hr : r < b.natAbs) :
    sgn (decide (a < 0) != decide (b < 0)) m = a / b ∧ (r : Int) = a % b := by
  have hd : (0 : Int) < (b.natAbs : Int) := by omega
  have hu := (Int.ediv_emod_unique (a := a) (r := (r : Int)) (q := sgn (decide (a < 0)) m) hd).2 ⟨h, by omega, by omega⟩
  by_cases hn : b < 0
  · have e : b = -(b.natAbs : Int) := by omega
    have e1 : a / b = -(a / (b.natAbs : Int)) := by
      conv => lhs; rw [e]
      exact Int.ediv_neg a _
    have e2 : a % b = a % (b.natAbs : Int) := by
      conv => lhs; rw [e]
      exact Int.emod_neg a _
    rw [e1, e2, hu.1, hu.2]
    refine ⟨?_, rfl⟩
    cases decide (a < 0) <;> simp [sgn, hn]
  · have e : (b.natAbs : Int) = b := by omega
    rw [e] at hu
    rw [hu.1, hu.2]
    refine ⟨?_, rfl⟩
    cases decide (a < 0) <;> simp [sgn, hn]
theorem ediv_0 {a b : Int} (hb : b ≠ 0) (h : ¬ (a < 0 ∧ a.natAbs % b.natAbs ≠ 0)) : sgn (decide (a < 0) != decide (b < 0)) (a.natAbs / b.natAbs) = a / b ∧ ((a.natAbs % b.natAbs : Nat) : Int) = a % b := by
  have hd : 0 < b.natAbs := by omega
  have hm := Nat.div_add_mod a.natAbs b.natAbs
  have hl := Nat.mod_lt a.natAbs hd
  refine ediv_core hb ?_ hl
  generalize a.natAbs % b.natAbs = r at *
  generalize a.natAbs / b.natAbs = q at *
  have hmi : (b.natAbs : Int) * (q : Int) + (r : Int) = (a.natAbs : Int) := by exact_mod_cast hm
  by_cases ha : a < 0
  · have hr : r = 0 := by
      apply Nat.eq_zero_of_not_pos; intro hp; exact h ⟨ha, by omega⟩
    simp only [ha, decide_true, sgn, if_true]
    rw [Int.mul_neg]; omega
  · simp only [ha, decide_false, sgn]
    simp; omega
theorem ediv_1 {a b : Int} (hb : b ≠ 0) (ha : a < 0) (h : a.natAbs % b.natAbs ≠ 0) : sgn (decide (a < 0) != decide (b < 0)) (a.natAbs / b.natAbs + 1) = a / b ∧ ((b.natAbs - a.natAbs % b.natAbs : Nat) : Int) = a % b := by
  have hd : 0 < b.natAbs := by omega
  have hm := Nat.div_add_mod a.natAbs b.natAbs
  have hl := Nat.mod_lt a.natAbs hd
  refine ediv_core hb ?_ (by omega)
  generalize a.natAbs % b.natAbs = r at *
  generalize a.natAbs / b.natAbs = q at *
  have hmi : (b.natAbs : Int) * (q : Int) + (r : Int) = (a.natAbs : Int) := by exact_mod_cast hm
  simp only [ha, decide_true, sgn, if_true]
  rw [show ((q + 1 : Nat) : Int) = (q : Int) + 1 from rfl, Int.mul_neg, Int.mul_add, Int.mul_one]; omega
theorem y_r02_Div {p : Prop} (h : p := by first | assumption | exact Lb_toL _ | omega | (simp; done) | first | exact Lb.one (by decide) | (simp; done) | (simp; omega)) : p := h
theorem r02_Div (s : SA) (x : RawI) (t : SA) (z : RawI) (hx : Lb x.mag) (hxl : x.mag.length ≤ 137438953472) (hz : Lb z.mag) (hzl : z.mag.length ≤ 137438953472) : Spec Tryz.prog 103 #[intV s x, intV t z] [fU s x.mag, fU t z.mag] (ι := SA × SA) (fun y => .tuple #[intV y.1 (encZ (zv x / zv z)), intV y.2 (encZ (if zv z = 0 then 0 else zv x % zv z)), .bool (decide (zv z ≠ 0))]) (fun y => True) (fun y => [fU y.1 (toL ((zv x / zv z).natAbs)), fU y.2 (toL ((if zv z = 0 then 0 else zv x % zv z).natAbs))]) := by
 refine Spec.of_body _ (fn := Tryz.f103) k_ rfl k_ (fun X w0 => ?_)
 refine J.fact (φ := x.mag.length ≤ 140737488355328) (fun w h => by have := (h _ (.head _)).1; omega) (fun hl1 => ?_)
 refine J.fact (φ := z.mag.length ≤ 140737488355328) (fun w h => by have := (h _ (.tail _ ((.head _)))).1; omega) (fun hl2 => ?_)
 have hxv := Nat.le_trans (zv_len hx) hxl
 have hzv := Nat.le_trans (zv_len hz) hzl
 have hql := length_toL_mono (Nat.div_le_self (zv x).natAbs (zv z).natAbs)
 refine J.sreg ?_
 refine RN.new (fun b => pt b) (.cells #[.bool x.neg, sl s x.mag.length] 25 (0, 0)) k_ k_ (fun w => by kernel_rfl) (fun b3 => ?_)
 refine RN.new (fun b => pt b) (.cells #[.bool z.neg, sl t z.mag.length] 25 (0, 0)) k_ k_ (fun w => by kernel_rfl) (fun b4 => ?_)
 refine RN.new (fun b => pt b) (.cells #[.bool false, sl saNil ([] : List Nat).length] 25 (0, 0)) k_ k_ (fun w => by kernel_rfl) (fun b5 => ?_)
 refine RN.new (fun b => pt b) (.cells #[.bool false, sl saNil ([] : List Nat).length] 25 (0, 0)) k_ k_ (fun w => by kernel_rfl) (fun b6 => ?_)
 refine RN.bq (no 1) [2, 3, 4, 5] [] 5 [(2, pt b3), (3, pt b4), (4, pt b5), (5, pt b6)] k_ ?_
 refine RN.fin k_ ?_
 refine J.seq ?_
 refine J.regD k_ [4, 5] ?_
 refine RD.bq [(0, some 3), (2, some 2)] [2, 3, 4, 5, 10, 12] [b4, b4, b3, b3] [(2, pt b3), (3, pt b4), (4, pt b5), (5, pt b6), (10, intV s x), (12, intV t z)] k_ k_ ?_
 refine RD.call (i := 1) (r02_Take s x y_r02_Div y_r02_Div) [0] k_ k_ k_ k_ k_ rfl (fun y7 _ => ?_)
 refine RD.call (i := 3) (r02_Take t z y_r02_Div y_r02_Div) [2] k_ k_ k_ k_ k_ rfl (fun y8 _ => ?_)
 refine RD.last (i := 4) (some 3) [2, 3, 4, 5, 13] [b3, b3] k_ k_ k_ (l' := [(2, pt b3), (3, pt b4), (4, pt b5), (5, pt b6), (13, intV y8 (encZ (zv z)))]) (M' := [(b6, .cells #[.bool false, sl saNil ([] : List Nat).length] 25 (0, 0)), (b5, .cells #[.bool false, sl saNil ([] : List Nat).length] 25 (0, 0)), (b4, .cells #[.bool z.neg, sl t z.mag.length] 25 (0, 0)), (b3, .cells #[.bool (decide ((zv x) < 0)), sl y7 (toL ((zv x).natAbs)).length] 25 (0, 0))]) k_ ?_
 refine RD.last (i := 5) (some 2) [2, 3, 4, 5] [b4, b4] k_ k_ k_ (l' := [(2, pt b3), (3, pt b4), (4, pt b5), (5, pt b6)]) (M' := [(b6, .cells #[.bool false, sl saNil ([] : List Nat).length] 25 (0, 0)), (b5, .cells #[.bool false, sl saNil ([] : List Nat).length] 25 (0, 0)), (b4, .cells #[.bool (decide ((zv z) < 0)), sl y8 (toL ((zv z).natAbs)).length] 25 (0, 0)), (b3, .cells #[.bool (decide ((zv x) < 0)), sl y7 (toL ((zv x).natAbs)).length] 25 (0, 0))]) k_ ?_
 refine RD.done k_ ?_
 refine KN.next ?_
 refine J.sreg ?_
 refine RN.bq [none, some 3, none, some 2] [2, 3, 4, 5, 16, 18] [b4, b3] 4 [(2, pt b3), (3, pt b4), (4, pt b5), (5, pt b6), (16, sl y7 (toL ((zv x).natAbs)).length), (18, sl y8 (toL ((zv z).natAbs)).length)] k_ ?_
 refine RN.call (r01_Div_c y7 ((zv x).natAbs) y8 ((zv z).natAbs) y_r02_Div y_r02_Div) [1, 0] k_ k_ k_ rfl (fun y9 _ => ?_)
 refine RN.bq (no 7) [2, 3, 4, 5, 7, 8, 9] [] 12 [(2, pt b3), (3, pt b4), (4, pt b5), (5, pt b6), (7, sl y9.1 (toL (((zv x).natAbs) / ((zv z).natAbs))).length), (8, sl y9.2 (toL (if ((zv z).natAbs) = 0 then 0 else ((zv x).natAbs) % ((zv z).natAbs))).length), (9, .bool (decide (((zv z).natAbs) ≠ 0)))] k_ ?_
 refine RN.fin k_ ?_
 refine J.seq ?_
 refine J.sreg ?_
 refine RN.bq (no 2) [2, 3, 4, 5, 7, 8, 24] [] 2 [(2, pt b3), (3, pt b4), (4, pt b5), (5, pt b6), (7, sl y9.1 (toL (((zv x).natAbs) / ((zv z).natAbs))).length), (8, sl y9.2 (toL (if ((zv z).natAbs) = 0 then 0 else ((zv x).natAbs) % ((zv z).natAbs))).length), (24, .bool (!(decide (((zv z).natAbs) ≠ 0))))] k_ ?_
 refine RN.fin k_ ?_
 refine J.cond (!(decide (((zv z).natAbs) ≠ 0))) k_ (fun c10 => ?_) (fun c10 => ?_)
 ·replace c10 := of_decide_eq_false ((Bool.not_eq_true' _).mp c10)
  have h0 : zv z = 0 := by simpa using c10
  refine J.sreg ?_
  refine RN.bs [none, none, some 1, some 0, none] [4, 5, 6] [b6, b6, b5, b5] 5 [(4, pt b5), (5, pt b6), (6, .bool false)] ([(b6, .cells #[.bool false, sl saNil ([] : List Nat).length] 25 (0, 0)), (b5, .cells #[.bool false, sl saNil ([] : List Nat).length] 25 (0, 0)), (b4, .cells #[.bool (decide ((zv z) < 0)), sl y8 (toL ((zv z).natAbs)).length] 25 (0, 0)), (b3, .cells #[.bool (decide ((zv x) < 0)), sl y7 (toL ((zv x).natAbs)).length] 25 (0, 0))]) k_ ?_
  refine RN.fin k_ ?_
  have e_1 : (encZ (zv x / zv z)) = (⟨false, ([] : List Nat)⟩ : RawI) := by first | (rw [h0, Int.ediv_zero, encZ_zero]; done) | (rw [if_pos h0, encZ_zero]; done) | simp [h0]
  have e_2 : (toL ((zv x / zv z).natAbs)) = ([] : List Nat) := congrArg RawI.mag e_1
  have e_3 : (encZ (if zv z = 0 then 0 else zv x % zv z)) = (⟨false, ([] : List Nat)⟩ : RawI) := by first | (rw [h0, Int.ediv_zero, encZ_zero]; done) | (rw [if_pos h0, encZ_zero]; done) | simp [h0]
  have e_4 : (toL ((if zv z = 0 then 0 else zv x % zv z).natAbs)) = ([] : List Nat) := congrArg RawI.mag e_3
  have e_5 : (decide (zv z ≠ 0)) = false := by first | (rw [h0, Int.ediv_zero, encZ_zero]; done) | (rw [if_pos h0, encZ_zero]; done) | simp [h0]
  refine J.also (fU saNil ([] : List Nat)) (fun w h => fU_nil w) ?_
  refine J.ret (KR.next (KR.ret (v := .tuple #[intV saNil (⟨false, ([] : List Nat)⟩ : RawI), intV saNil (⟨false, ([] : List Nat)⟩ : RawI), .bool false]) (⟨saNil, saNil⟩) [some 1, some 0, none] [0, 0] [b5, b5, b6, b6] k_ (by first | rfl | (rw [e_1, e_3, e_5]; done) | (simp only [e_1, e_3, e_5]; done) | (rw [e_2, e_4]; done) | (rw [e_1, e_2, e_3, e_4, e_5]; rfl) | (simp only [e_1, e_2, e_3, e_4, e_5]; done) | (simp only [e_1, e_2, e_3, e_4, e_5]; rfl)) (trivial) (by first | rfl | (rw [e_1, e_3, e_5]; done) | (simp only [e_1, e_3, e_5]; done) | (rw [e_2, e_4]; done) | (rw [e_1, e_2, e_3, e_4, e_5]; rfl) | (simp only [e_1, e_2, e_3, e_4, e_5]; done) | (simp only [e_1, e_2, e_3, e_4, e_5]; rfl))))
 ·replace c10 := of_decide_eq_true ((Bool.not_eq_false' _).mp c10)
  have h0 : zv z ≠ 0 := by simpa using c10
  have hn0 : ¬ (zv z).natAbs = 0 := by omega
  have hml := length_toL_mono (Nat.le_of_lt (Nat.mod_lt (zv x).natAbs (by omega : 0 < (zv z).natAbs)))
  rw [show (if ((zv z).natAbs) = 0 then 0 else ((zv x).natAbs) % ((zv z).natAbs)) = ((zv x).natAbs) % ((zv z).natAbs) from if_neg hn0]
  refine J.skip ?_
  refine KN.next ?_
  refine J.seq ?_
  refine J.sreg ?_
  refine RN.bq [none, some 3, none] [2, 3, 4, 5, 7, 8, 29] [b3] 3 [(2, pt b3), (3, pt b4), (4, pt b5), (5, pt b6), (7, sl y9.1 (toL (((zv x).natAbs) / ((zv z).natAbs))).length), (8, sl y9.2 (toL (((zv x).natAbs) % ((zv z).natAbs))).length), (29, .bool (decide ((zv x) < 0)))] k_ ?_
  refine RN.split 29 (decide ((zv x) < 0)) k_ (fun c11 => ?_) (fun c11 => ?_)
  ·replace c11 := of_decide_eq_true c11
   have hneg := c11
   refine RN.bq (no 4) [2, 3, 4, 5, 7, 8, 33] [] 7 [(2, pt b3), (3, pt b4), (4, pt b5), (5, pt b6), (7, sl y9.1 (toL (((zv x).natAbs) / ((zv z).natAbs))).length), (8, sl y9.2 (toL (((zv x).natAbs) % ((zv z).natAbs))).length), (33, .bool (decide ((((toL (((zv x).natAbs) % ((zv z).natAbs))).length : Nat) : Int) > 0)))] k_ ?_
   refine RN.fin k_ ?_
   refine J.cond (decide ((((toL (((zv x).natAbs) % ((zv z).natAbs))).length : Nat) : Int) > 0)) k_ (fun c12 => ?_) (fun c12 => ?_)
   ·replace c12 := of_decide_eq_true c12
    have hr0 : (zv x).natAbs % (zv z).natAbs ≠ 0 := toL_len_ne (by omega)
    have hE := ediv_1 h0 hneg hr0
    refine J.sreg ?_
    refine RN.bq (no 1) [2, 3, 4, 5, 8, 34] [] 1 [(2, pt b3), (3, pt b4), (4, pt b5), (5, pt b6), (8, sl y9.2 (toL (((zv x).natAbs) % ((zv z).natAbs))).length), (34, sl y9.1 (toL (((zv x).natAbs) / ((zv z).natAbs))).length)] k_ ?_
    refine RN.new (fun b => .slice (some ⟨b, 0, none⟩) 1 1) (.cells (encU ([1] : List Nat)) 82 (0, 0)) k_ k_ (fun w => by kernel_rfl) (fun b13 => ?_)
    refine RN.share 0 rfl rfl ?_
    refine RN.also (fU (⟨some ⟨b13, 0, none⟩, 1⟩ : SA) ([1] : List Nat)) (fun w h => fU_own (h _ (.head _)) x_ x_) ?_
    refine RN.turn 35 (v := .slice (some ⟨b13, 0, none⟩) 1 1) (v' := sl (⟨some ⟨b13, 0, none⟩, 1⟩ : SA) ([1] : List Nat).length) k_ (sl_eq x_) ?_
    refine RN.call (r01_Add y9.1 (toL (((zv x).natAbs) / ((zv z).natAbs))) (⟨some ⟨b13, 0, none⟩, 1⟩ : SA) ([1] : List Nat) y_r02_Div y_r02_Div y_r02_Div y_r02_Div) [2, 0] k_ k_ k_ rfl (fun y14 _ => ?_)
    refine RN.bq (no 1) [2, 3, 4, 5, 7, 8] [] 4 [(2, pt b3), (3, pt b4), (4, pt b5), (5, pt b6), (7, sl y14 (toL (nv (toL (((zv x).natAbs) / ((zv z).natAbs))) + nv ([1] : List Nat))).length), (8, sl y9.2 (toL (((zv x).natAbs) % ((zv z).natAbs))).length)] k_ ?_
    refine RN.fin k_ ?_
    refine J.regN ?_
    refine RN.bq [none, some 2, none] [2, 3, 4, 5, 7, 39, 40] [b4] 3 [(2, pt b3), (3, pt b4), (4, pt b5), (5, pt b6), (7, sl y14 (toL (nv (toL (((zv x).natAbs) / ((zv z).natAbs))) + nv ([1] : List Nat))).length), (39, sl y8 (toL ((zv z).natAbs)).length), (40, sl y9.2 (toL (((zv x).natAbs) % ((zv z).natAbs))).length)] k_ ?_
    refine RN.call (r01_Sub_c y8 ((zv z).natAbs) y9.2 (((zv x).natAbs) % ((zv z).natAbs)) y_r02_Div y_r02_Div) [5, 4] k_ k_ k_ rfl (fun y15 _ => ?_)
    refine RN.bq (no 4) [2, 3, 4, 5, 7, 8] [] 8 [(2, pt b3), (3, pt b4), (4, pt b5), (5, pt b6), (7, sl y14 (toL (nv (toL (((zv x).natAbs) / ((zv z).natAbs))) + nv ([1] : List Nat))).length), (8, sl y15 (toL (((zv z).natAbs) - (((zv x).natAbs) % ((zv z).natAbs)))).length)] k_ ?_
    refine RN.fs k_ ?_
    refine RN.bq [none, some 3, none, some 2, none, none] [4, 5, 8, 48, 49] [b4, b3] 6 [(4, pt b5), (5, pt b6), (8, sl y15 (toL (((zv z).natAbs) - (((zv x).natAbs) % ((zv z).natAbs)))).length), (48, .bool ((decide ((zv x) < 0)) != (decide ((zv z) < 0)))), (49, sl y14 (toL (nv (toL (((zv x).natAbs) / ((zv z).natAbs))) + nv ([1] : List Nat))).length)] k_ ?_
    refine RN.call (r02_signed ((decide ((zv x) < 0)) != (decide ((zv z) < 0))) y14 (nv (toL (((zv x).natAbs) / ((zv z).natAbs))) + nv ([1] : List Nat))) [1] k_ k_ k_ rfl (fun y16 _ => ?_)
    refine RN.bq (no 1) [4, 5, 50, 51] [] 8 [(4, pt b5), (5, pt b6), (50, intV y16 (encZ (sgn ((decide ((zv x) < 0)) != (decide ((zv z) < 0))) (nv (toL (((zv x).natAbs) / ((zv z).natAbs))) + nv ([1] : List Nat))))), (51, sl y15 (toL (((zv z).natAbs) - (((zv x).natAbs) % ((zv z).natAbs)))).length)] k_ ?_
    refine RN.call (r02_signed false y15 (((zv z).natAbs) - (((zv x).natAbs) % ((zv z).natAbs)))) [1] k_ k_ k_ rfl (fun y17 _ => ?_)
    refine RN.bs [some 1, some 0, none] [4, 5, 6] [b6, b6, b5, b5] 12 [(4, pt b5), (5, pt b6), (6, .bool true)] ([(b6, .cells #[.bool (decide ((sgn false (((zv z).natAbs) - (((zv x).natAbs) % ((zv z).natAbs)))) < 0)), sl y17 (toL ((sgn false (((zv z).natAbs) - (((zv x).natAbs) % ((zv z).natAbs)))).natAbs)).length] 25 (0, 0)), (b5, .cells #[.bool (decide ((sgn ((decide ((zv x) < 0)) != (decide ((zv z) < 0))) (nv (toL (((zv x).natAbs) / ((zv z).natAbs))) + nv ([1] : List Nat))) < 0)), sl y16 (toL ((sgn ((decide ((zv x) < 0)) != (decide ((zv z) < 0))) (nv (toL (((zv x).natAbs) / ((zv z).natAbs))) + nv ([1] : List Nat))).natAbs)).length] 25 (0, 0)), (b4, .cells #[.bool (decide ((zv z) < 0)), sl y8 (toL ((zv z).natAbs)).length] 25 (0, 0)), (b3, .cells #[.bool (decide ((zv x) < 0)), sl y7 (toL ((zv x).natAbs)).length] 25 (0, 0))]) k_ ?_
    refine RN.fin k_ ?_
    have e_1 : (zv x / zv z) = (sgn ((decide ((zv x) < 0)) != (decide ((zv z) < 0))) (nv (toL (((zv x).natAbs) / ((zv z).natAbs))) + nv ([1] : List Nat))) := by first | (rw [nv_toL, nv_one]; exact hE.1.symm) | (rw [if_neg h0, ← hE.2]; rfl) | simp [h0]
    have e_2 : (if zv z = 0 then 0 else zv x % zv z) = (sgn false (((zv z).natAbs) - (((zv x).natAbs) % ((zv z).natAbs)))) := by first | (rw [nv_toL, nv_one]; exact hE.1.symm) | (rw [if_neg h0, ← hE.2]; rfl) | simp [h0]
    have e_3 : (decide (zv z ≠ 0)) = true := by first | (rw [nv_toL, nv_one]; exact hE.1.symm) | (rw [if_neg h0, ← hE.2]; rfl) | simp [h0]
    refine J.ret (KR.ret (v := .tuple #[intV y16 (encZ (sgn ((decide ((zv x) < 0)) != (decide ((zv z) < 0))) (nv (toL (((zv x).natAbs) / ((zv z).natAbs))) + nv ([1] : List Nat)))), intV y17 (encZ (sgn false (((zv z).natAbs) - (((zv x).natAbs) % ((zv z).natAbs))))), .bool true]) (⟨y16, y17⟩) [some 1, some 0, none] [1, 0] [b5, b5, b6, b6] k_ v3_ (trivial) v3_)
   ·replace c12 := of_decide_eq_false c12
    have hr0 : (zv x).natAbs % (zv z).natAbs = 0 := toL_len_eq (by omega)
    have hE := ediv_0 h0 (fun h => h.2 hr0)
    refine J.skip ?_
    refine KN.next ?_
    refine J.sreg ?_
    refine RN.bq [none, some 3, none, some 2, none, none] [4, 5, 8, 48, 49] [b4, b3] 6 [(4, pt b5), (5, pt b6), (8, sl y9.2 (toL (((zv x).natAbs) % ((zv z).natAbs))).length), (48, .bool ((decide ((zv x) < 0)) != (decide ((zv z) < 0)))), (49, sl y9.1 (toL (((zv x).natAbs) / ((zv z).natAbs))).length)] k_ ?_
    refine RN.call (r02_signed ((decide ((zv x) < 0)) != (decide ((zv z) < 0))) y9.1 (((zv x).natAbs) / ((zv z).natAbs))) [0] k_ k_ k_ rfl (fun y18 _ => ?_)
    refine RN.bq (no 1) [4, 5, 50, 51] [] 8 [(4, pt b5), (5, pt b6), (50, intV y18 (encZ (sgn ((decide ((zv x) < 0)) != (decide ((zv z) < 0))) (((zv x).natAbs) / ((zv z).natAbs))))), (51, sl y9.2 (toL (((zv x).natAbs) % ((zv z).natAbs))).length)] k_ ?_
    refine RN.call (r02_signed false y9.2 (((zv x).natAbs) % ((zv z).natAbs))) [2] k_ k_ k_ rfl (fun y19 _ => ?_)
    refine RN.bs [some 1, some 0, none] [4, 5, 6] [b6, b6, b5, b5] 12 [(4, pt b5), (5, pt b6), (6, .bool true)] ([(b6, .cells #[.bool (decide ((sgn false (((zv x).natAbs) % ((zv z).natAbs))) < 0)), sl y19 (toL ((sgn false (((zv x).natAbs) % ((zv z).natAbs))).natAbs)).length] 25 (0, 0)), (b5, .cells #[.bool (decide ((sgn ((decide ((zv x) < 0)) != (decide ((zv z) < 0))) (((zv x).natAbs) / ((zv z).natAbs))) < 0)), sl y18 (toL ((sgn ((decide ((zv x) < 0)) != (decide ((zv z) < 0))) (((zv x).natAbs) / ((zv z).natAbs))).natAbs)).length] 25 (0, 0)), (b4, .cells #[.bool (decide ((zv z) < 0)), sl y8 (toL ((zv z).natAbs)).length] 25 (0, 0)), (b3, .cells #[.bool (decide ((zv x) < 0)), sl y7 (toL ((zv x).natAbs)).length] 25 (0, 0))]) k_ ?_
    refine RN.fin k_ ?_
    have e_1 : (zv x / zv z) = (sgn ((decide ((zv x) < 0)) != (decide ((zv z) < 0))) (((zv x).natAbs) / ((zv z).natAbs))) := by first | exact hE.1.symm | (rw [if_neg h0, ← hE.2]; rfl) | simp [h0]
    have e_2 : (if zv z = 0 then 0 else zv x % zv z) = (sgn false (((zv x).natAbs) % ((zv z).natAbs))) := by first | exact hE.1.symm | (rw [if_neg h0, ← hE.2]; rfl) | simp [h0]
    have e_3 : (decide (zv z ≠ 0)) = true := by first | exact hE.1.symm | (rw [if_neg h0, ← hE.2]; rfl) | simp [h0]
    refine J.ret (KR.ret (v := .tuple #[intV y18 (encZ (sgn ((decide ((zv x) < 0)) != (decide ((zv z) < 0))) (((zv x).natAbs) / ((zv z).natAbs)))), intV y19 (encZ (sgn false (((zv x).natAbs) % ((zv z).natAbs)))), .bool true]) (⟨y18, y19⟩) [some 1, some 0, none] [1, 0] [b5, b5, b6, b6] k_ v3_ (trivial) v3_)
  ·replace c11 := of_decide_eq_false c11
   have hneg := c11
   refine RN.bq (no 4) [2, 3, 4, 5, 7, 8, 33] [] 7 [(2, pt b3), (3, pt b4), (4, pt b5), (5, pt b6), (7, sl y9.1 (toL (((zv x).natAbs) / ((zv z).natAbs))).length), (8, sl y9.2 (toL (((zv x).natAbs) % ((zv z).natAbs))).length), (33, .bool false)] k_ ?_
   refine RN.fin k_ ?_
   refine J.condF k_ ?_
   refine J.skip ?_
   refine KN.next ?_
   refine J.sreg ?_
   refine RN.bq [none, some 3, none, some 2, none, none] [4, 5, 8, 48, 49] [b4, b3] 6 [(4, pt b5), (5, pt b6), (8, sl y9.2 (toL (((zv x).natAbs) % ((zv z).natAbs))).length), (48, .bool ((decide ((zv x) < 0)) != (decide ((zv z) < 0)))), (49, sl y9.1 (toL (((zv x).natAbs) / ((zv z).natAbs))).length)] k_ ?_
   refine RN.call (r02_signed ((decide ((zv x) < 0)) != (decide ((zv z) < 0))) y9.1 (((zv x).natAbs) / ((zv z).natAbs))) [0] k_ k_ k_ rfl (fun y20 _ => ?_)
   refine RN.bq (no 1) [4, 5, 50, 51] [] 8 [(4, pt b5), (5, pt b6), (50, intV y20 (encZ (sgn ((decide ((zv x) < 0)) != (decide ((zv z) < 0))) (((zv x).natAbs) / ((zv z).natAbs))))), (51, sl y9.2 (toL (((zv x).natAbs) % ((zv z).natAbs))).length)] k_ ?_
   refine RN.call (r02_signed false y9.2 (((zv x).natAbs) % ((zv z).natAbs))) [2] k_ k_ k_ rfl (fun y21 _ => ?_)
   refine RN.bs [some 1, some 0, none] [4, 5, 6] [b6, b6, b5, b5] 12 [(4, pt b5), (5, pt b6), (6, .bool true)] ([(b6, .cells #[.bool (decide ((sgn false (((zv x).natAbs) % ((zv z).natAbs))) < 0)), sl y21 (toL ((sgn false (((zv x).natAbs) % ((zv z).natAbs))).natAbs)).length] 25 (0, 0)), (b5, .cells #[.bool (decide ((sgn ((decide ((zv x) < 0)) != (decide ((zv z) < 0))) (((zv x).natAbs) / ((zv z).natAbs))) < 0)), sl y20 (toL ((sgn ((decide ((zv x) < 0)) != (decide ((zv z) < 0))) (((zv x).natAbs) / ((zv z).natAbs))).natAbs)).length] 25 (0, 0)), (b4, .cells #[.bool (decide ((zv z) < 0)), sl y8 (toL ((zv z).natAbs)).length] 25 (0, 0)), (b3, .cells #[.bool (decide ((zv x) < 0)), sl y7 (toL ((zv x).natAbs)).length] 25 (0, 0))]) k_ ?_
   refine RN.fin k_ ?_
   have e_1 : (zv x / zv z) = (sgn ((decide ((zv x) < 0)) != (decide ((zv z) < 0))) (((zv x).natAbs) / ((zv z).natAbs))) := by first | exact (ediv_0 h0 (fun h => hneg h.1)).1.symm | (rw [if_neg h0, ← (ediv_0 h0 (fun h => hneg h.1)).2]; rfl) | simp [h0]
   have e_2 : (if zv z = 0 then 0 else zv x % zv z) = (sgn false (((zv x).natAbs) % ((zv z).natAbs))) := by first | exact (ediv_0 h0 (fun h => hneg h.1)).1.symm | (rw [if_neg h0, ← (ediv_0 h0 (fun h => hneg h.1)).2]; rfl) | simp [h0]
   have e_3 : (decide (zv z ≠ 0)) = true := by first | exact (ediv_0 h0 (fun h => hneg h.1)).1.symm | (rw [if_neg h0, ← (ediv_0 h0 (fun h => hneg h.1)).2]; rfl) | simp [h0]
   refine J.ret (KR.ret (v := .tuple #[intV y20 (encZ (sgn ((decide ((zv x) < 0)) != (decide ((zv z) < 0))) (((zv x).natAbs) / ((zv z).natAbs)))), intV y21 (encZ (sgn false (((zv x).natAbs) % ((zv z).natAbs)))), .bool true]) (⟨y20, y21⟩) [some 1, some 0, none] [1, 0] [b5, b5, b6, b6] k_ v3_ (trivial) v3_)
theorem r02_Div_c (s : SA) (x' : Int) (t : SA) (z' : Int) (hxl : (toL (x'.natAbs)).length ≤ 137438953472) (hzl : (toL (z'.natAbs)).length ≤ 137438953472) : Spec Tryz.prog 103 #[intV s (encZ x'), intV t (encZ z')] [fU s (toL (x'.natAbs)), fU t (toL (z'.natAbs))] (ι := SA × SA) (fun y => .tuple #[intV y.1 (encZ (x' / z')), intV y.2 (encZ (if z' = 0 then 0 else x' % z')), .bool (decide (z' ≠ 0))]) (fun y => True) (fun y => [fU y.1 (toL ((x' / z').natAbs)), fU y.2 (toL ((if z' = 0 then 0 else x' % z').natAbs))]) := by
  have H := r02_Div s (encZ x') t (encZ z') (Lb_toL _) (by first | exact hxl | simpa only [zv_encZ, zv_encZ] using hxl) (Lb_toL _) (by first | exact hzl | simpa only [zv_encZ, zv_encZ] using hzl)
  first | exact H | (simp only [zv_encZ, validZ_encZ] at H; exact H)
end Go.Proofs.YtegnonhgildhoaaGreat.E
namespace Go.Proofs.YtegnonhgildhoaaGreat.E
open Go Go.RowKit
set_option linter.unusedVariables false
set_option linter.unusedSimpArgs false
theorem toL_eq1 {n : Nat} : toL n = [1] ↔ n = 1 := ⟨fun h => by have := congrArg lv h; rw [lv_toL] at this; simpa [lv] using this, fun h => by rw [h, toL_1]⟩
theorem one_val {xs : List Nat} (h1 : xs.length = 1) : (xs = [1]) ↔ ((xs.getD 0 0 : Nat) : Int) = 1 := by
  match xs, h1 with
  | [a], _ => simp; omega
theorem encZ_one : encZ 1 = ⟨false, [1]⟩ := by
  show (⟨decide ((1 : Int) < 0), toL 1⟩ : RawI) = _
  rw [toL_1]; rfl
theorem r03_one (s : SA) (xs : List Nat) : Spec Tryz.prog 104 #[sl s xs.length] [fU s xs] (ι := Unit) (fun y => .bool (decide (xs = [1]))) (fun y => True) (fun y => []) := by
 refine Spec.of_body _ (fn := Tryz.f104) k_ rfl k_ (fun X w0 => ?_)
 refine J.fact (φ := xs.length ≤ 140737488355328) (fun w h => by have := (h _ (.head _)).1; omega) (fun hl1 => ?_)
 refine J.sreg ?_
 refine RN.bq (no 1) [0] [] 1 [(0, sl s xs.length)] k_ ?_
 refine RN.fs k_ ?_
 refine RN.bq (no 4) [0, 6] [] 4 [(0, sl s xs.length), (6, .bool ((((xs.length : Nat) : Int) : Int) == 1))] k_ ?_
 refine RN.split 6 ((((xs.length : Nat) : Int) : Int) == 1) k_ (fun c2 => ?_) (fun c2 => ?_)
 ·replace c2 := eq_of_beq c2
  refine RN.bq (no 1) [6, 7] [] 5 [(6, .bool true), (7, sl s xs.length)] k_ ?_
  refine RN.val _ k_ k_ (q_uidx (t := 23) (x := (.tmp 7)) (ix := (.const (.int .i64 0))) (K := .i64) (i0 := 0) (m := 0) (e := 82) 0 rfl k_ k_ k_ k_ k_ (by omega) x_) ?_
  refine RN.val _ k_ k_ (q_uload (T := 82) (x := (.tmp 8)) (m := 0) (s := s) (xs := xs) 0 rfl k_ k_ k_ x_) ?_
  refine RN.bq (no 3) [2] [] 10 [(2, .bool ((((xs.getD 0 0 : Nat) : Int) : Int) == 1))] k_ ?_
  refine RN.fin k_ ?_
  have e_1 : (decide (xs = [1])) = ((((xs.getD 0 0 : Nat) : Int) : Int) == 1) := by first | (have h1 : xs.length = 1 := (by omega)); (rw [Bool.eq_iff_iff]; simp [one_val h1]) | (exact decide_eq_false (fun h => by subst h; simp at *))
  refine J.ret (KR.ret (v := .bool ((((xs.getD 0 0 : Nat) : Int) : Int) == 1)) (()) [none] [] [] k_ v1_ (trivial) v1_)
 ·replace c2 := ne_of_beq_false c2
  refine RN.bq (no 6) [2] [] 10 [(2, .bool false)] k_ ?_
  refine RN.fin k_ ?_
  have e_1 : (decide (xs = [1])) = false := by first | (have h1 : xs.length = 1 := (by omega)); (rw [Bool.eq_iff_iff]; simp [one_val h1]) | (exact decide_eq_false (fun h => by subst h; simp at *))
  refine J.ret (KR.ret (v := .bool false) (()) [none] [] [] k_ v1_ (trivial) v1_)
theorem y_r03_Den {p : Prop} (h : p := by first | assumption | exact Lb_toL _ | omega | (simp; done) | first | exact Lb_toD _ | exact hl) : p := h
theorem r03_Den (p : RA) (q : Rat) (hq : Q 1099511627776 q) : Spec Tryz.prog 71 #[ratV p (encQ q)] [fRat p (encQ q)] (ι := SA) (fun y => intV y (encZ ((q.den : Nat) : Int))) (fun y => True) (fun y => [fU y (toL (q.den))]) := by
 refine Spec.of_body _ (fn := Tryz.f71) k_ rfl k_ (fun X w0 => ?_)
 refine J.fact (φ := (encQ q).mag.length ≤ 140737488355328 ∧ (encQ q).den.length ≤ 140737488355328) (fun w h => by have h1 := (h _ (.head _)).1.1; have h2 := (h _ (.head _)).2.1; omega) (fun hl1 => ?_)
 have hl := Nat.le_trans (toD_le q.den) hq.2
 refine J.sreg ?_
 refine RN.new (fun b => pt b) (.cells (ratC p (encQ q)) 27 (0, 0)) k_ k_ (fun w => by kernel_rfl) (fun b2 => ?_)
 refine RN.new (fun b => pt b) (.cells #[.bool false, sl saNil ([] : List Nat).length] 25 (0, 0)) k_ k_ (fun w => by kernel_rfl) (fun b3 => ?_)
 refine RN.fin k_ ?_
 refine J.seq ?_
 refine J.sreg ?_
 refine RN.bq [none, some 1, none, none] [1, 2, 6] [b2] 4 [(1, pt b2), (2, pt b3), (6, .bool (((((toD (q.den)).length : Nat) : Int) : Int) == 0))] k_ ?_
 refine RN.fin k_ ?_
 refine J.cond (((((toD (q.den)).length : Nat) : Int) : Int) == 0) k_ (fun c4 => ?_) (fun c4 => ?_)
 ·replace c4 := eq_of_beq c4
  refine J.sreg ?_
  refine RN.new (fun b => .slice (some ⟨b, 0, none⟩) 1 1) (.cells (encU ([1] : List Nat)) 82 (0, 0)) k_ k_ (fun w => by kernel_rfl) (fun b5 => ?_)
  refine RN.share 0 rfl rfl ?_
  refine RN.also (fU (⟨some ⟨b5, 0, none⟩, 1⟩ : SA) ([1] : List Nat)) (fun w h => fU_own (h _ (.head _)) x_ x_) ?_
  refine RN.turn 7 (v := .slice (some ⟨b5, 0, none⟩) 1 1) (v' := sl (⟨some ⟨b5, 0, none⟩, 1⟩ : SA) ([1] : List Nat).length) k_ (sl_eq x_) ?_
  refine RN.bs [none, some 0] [2] [b3, b3] 3 [(2, pt b3)] ([(b3, .cells #[.bool false, sl (⟨some ⟨b5, 0, none⟩, 1⟩ : SA) ([1] : List Nat).length] 25 (0, 0)), (b2, .cells (ratC p (encQ q)) 27 (0, 0))]) k_ ?_
  refine RN.fin k_ ?_
  have e_1 : (encZ ((q.den : Nat) : Int)) = (⟨false, ([1] : List Nat)⟩ : RawI) := by first | (rw [(toD_len q.den_nz).1 (by omega), show ((1 : Nat) : Int) = 1 from rfl]; exact encZ_one) | exact (toD_len q.den_nz).1 (by omega)
  have e_2 : (toL (q.den)) = ([1] : List Nat) := congrArg RawI.mag e_1
  refine J.ret (KR.next (KR.ret (v := intV (⟨some ⟨b5, 0, none⟩, 1⟩ : SA) (⟨false, ([1] : List Nat)⟩ : RawI)) ((⟨some ⟨b5, 0, none⟩, 1⟩ : SA)) [some 0] [0] [b3, b3] k_ (by first | rfl | (rw [e_1]; done) | (simp only [e_1]; done) | (rw [e_2]; done) | (rw [e_1, e_2]; rfl) | (simp only [e_1, e_2]; done) | (simp only [e_1, e_2]; rfl)) (trivial) (by first | rfl | (rw [e_1]; done) | (simp only [e_1]; done) | (rw [e_2]; done) | (rw [e_1, e_2]; rfl) | (simp only [e_1, e_2]; done) | (simp only [e_1, e_2]; rfl))))
 ·replace c4 := ne_of_beq_false c4
  refine J.skip ?_
  refine KN.next ?_
  refine J.sreg ?_
  refine RN.bq [none, some 1] [2, 10] [b2] 2 [(2, pt b3), (10, sl (p.den) (toD (q.den)).length)] k_ ?_
  refine RN.also (fU (p.den) (toD (q.den))) (fun w h => (h _ (.head _)).2) ?_
  refine RN.call (r01_Take (p.den) (toD (q.den)) y_r03_Den y_r03_Den) [0] k_ k_ k_ rfl (fun y6 _ => ?_)
  refine RN.bs [none, some 0] [2] [b3, b3] 5 [(2, pt b3)] ([(b3, .cells #[.bool false, sl y6 (toL (nv (toD (q.den)))).length] 25 (0, 0)), (b2, .cells (ratC p (encQ q)) 27 (0, 0))]) k_ ?_
  refine RN.fin k_ ?_
  have e_1 : (q.den) = (nv (toD (q.den))) := by rw [toD_ne (fun h => by have := (toD_len q.den_nz).2 h; omega), nv_toL]
  refine J.ret (KR.ret (v := intV y6 (encZ ((nv (toD (q.den)) : Nat) : Int))) (y6) [some 0] [0] [b3, b3] k_ v1_ (trivial) v1_)
theorem validQ_parts {r : Raw} (h : validQ r = true) : validZ ⟨r.neg, r.mag⟩ = true ∧ validU r.den = true := by
  unfold validQ at h; simp only [Bool.and_eq_true] at h; exact h.1
theorem encQ_take {r : Raw} (h1 : Lb r.mag) (h2 : Lb r.den) (h : validQ r = true) : encQ (qv r) = ⟨decide (zv ⟨r.neg, r.mag⟩ < 0), toL (zv ⟨r.neg, r.mag⟩).natAbs, toL (nv r.den)⟩ := by
  obtain ⟨hz, hd⟩ := validQ_parts h
  have e := encZ_zv (z := ⟨r.neg, r.mag⟩) h1 hz
  have e1 : decide (zv ⟨r.neg, r.mag⟩ < 0) = r.neg := congrArg RawI.neg e
  have e2 : toL (zv ⟨r.neg, r.mag⟩).natAbs = r.mag := congrArg RawI.mag e
  rw [encQ_qv h1 h2 h, e1, e2, nv_of_valid hd, toL_lv h2 hd]
theorem r03_Valid (p : RA) (r : Raw) (hm : Lb r.mag) (hd : Lb r.den) (hml : r.mag.length ≤ 274877906942) (hdl : r.den.length ≤ 274877906942) : Spec Tryz.prog 98 #[ratV p r] [fRat p r] (ι := Unit) (fun y => .bool (validQ r)) (fun y => True) (fun y => []) := by
 refine Spec.of_body _ (fn := Tryz.f98) k_ rfl k_ (fun X w0 => ?_)
 refine J.fact (φ := r.mag.length ≤ 140737488355328 ∧ r.den.length ≤ 140737488355328) (fun w h => by have h1 := (h _ (.head _)).1.1; have h2 := (h _ (.head _)).2.1; omega) (fun hl1 => ?_)
 refine J.sreg ?_
 refine RN.new (fun b => pt b) (.cells (ratC p r) 27 (0, 0)) k_ k_ (fun w => by kernel_rfl) (fun b2 => ?_)
 refine RN.bq (no 1) [1] [] 2 [(1, pt b2)] k_ ?_
 refine RN.fin k_ ?_
 refine J.seq ?_
 refine J.sreg ?_
 refine RN.bq [none, some 0] [1, 4] [b2, b2] 2 [(1, pt b2), (4, intV p.mag (⟨r.neg, r.mag⟩ : RawI))] k_ ?_
 refine RN.also (fU p.mag r.mag) (fun w h => (h _ (.head _)).1) ?_
 refine RN.call (r02_Valid p.mag ⟨r.neg, r.mag⟩) [0] k_ k_ k_ rfl (fun y3 _ => ?_)
 refine RN.bq (no 2) [1, 7] [] 5 [(1, pt b2), (7, .bool (!(validZ (⟨r.neg, r.mag⟩ : RawI))))] k_ ?_
 refine RN.split 7 (!(validZ (⟨r.neg, r.mag⟩ : RawI))) k_ (fun c4 => ?_) (fun c4 => ?_)
 ·refine RN.bq (no 10) [1, 17] [] 15 [(1, pt b2), (17, .bool true)] k_ ?_
  refine RN.fin k_ ?_
  refine J.condT k_ ?_
  refine J.sreg ?_
  refine RN.bq (no 1) [2] [] 1 [(2, .bool false)] k_ ?_
  refine RN.fin k_ ?_
  have e_1 : (validQ r) = false := by first | (simp_all [validQ, toL_eq1, nv_of_valid, lv]; done) | ((have hv := validZ_mag (z := ⟨r.neg, r.mag⟩) (by simpa using c4)); (have hd1 : lv r.den = 1 → r.den = [1] := (fun h => (by rw [← toL_lv hd (by simpa using c6), h, toL_1]))); simp_all [validQ, toL_eq1, nv_of_valid, lv]; intro _ h; simp [h] at c10)
  refine J.ret (KR.next (KR.ret (v := .bool false) (()) [none] [] [] k_ v1_ (trivial) v1_))
 ·refine RN.bq [none, some 0] [1, 7, 9] [b2] 7 [(1, pt b2), (7, .bool false), (9, sl (p.den) (r.den).length)] k_ ?_
  refine RN.also (fU (p.den) (r.den)) (fun w h => (h _ (.tail _ ((.head _)))).2) ?_
  refine RN.call (r01_Valid (p.den) (r.den)) [0] k_ k_ k_ rfl (fun y5 _ => ?_)
  refine RN.bq (no 3) [1, 13] [] 11 [(1, pt b2), (13, .bool (!(validU (r.den))))] k_ ?_
  refine RN.split 13 (!(validU (r.den))) k_ (fun c6 => ?_) (fun c6 => ?_)
  ·refine RN.bq (no 4) [1, 17] [] 15 [(1, pt b2), (17, .bool true)] k_ ?_
   refine RN.fin k_ ?_
   refine J.condT k_ ?_
   refine J.sreg ?_
   refine RN.bq (no 1) [2] [] 1 [(2, .bool false)] k_ ?_
   refine RN.fin k_ ?_
   have e_1 : (validQ r) = false := by first | (simp_all [validQ, toL_eq1, nv_of_valid, lv]; done) | ((have hv := validZ_mag (z := ⟨r.neg, r.mag⟩) (by simpa using c4)); (have hd1 : lv r.den = 1 → r.den = [1] := (fun h => (by rw [← toL_lv hd (by simpa using c6), h, toL_1]))); simp_all [validQ, toL_eq1, nv_of_valid, lv]; intro _ h; simp [h] at c10)
   refine J.ret (KR.next (KR.ret (v := .bool false) (()) [none] [] [] k_ v1_ (trivial) v1_))
  ·refine RN.bq [none, some 0] [1, 13, 15] [b2] 13 [(1, pt b2), (13, .bool false), (15, sl (p.den) (r.den).length)] k_ ?_
   refine RN.call (r03_one (p.den) (r.den)) [0] k_ k_ k_ rfl (fun y7 _ => ?_)
   refine RN.bq (no 1) [1, 17] [] 15 [(1, pt b2), (17, .bool (decide ((r.den) = [1])))] k_ ?_
   refine RN.fin k_ ?_
   refine J.cond (decide ((r.den) = [1])) k_ (fun c8 => ?_) (fun c8 => ?_)
   ·replace c8 := of_decide_eq_true c8
    refine J.sreg ?_
    refine RN.bq (no 1) [2] [] 1 [(2, .bool false)] k_ ?_
    refine RN.fin k_ ?_
    have e_1 : (validQ r) = false := by first | (simp_all [validQ, toL_eq1, nv_of_valid, lv]; done) | ((have hv := validZ_mag (z := ⟨r.neg, r.mag⟩) (by simpa using c4)); (have hd1 : lv r.den = 1 → r.den = [1] := (fun h => (by rw [← toL_lv hd (by simpa using c6), h, toL_1]))); simp_all [validQ, toL_eq1, nv_of_valid, lv]; intro _ h; simp [h] at c10)
    refine J.ret (KR.next (KR.ret (v := .bool false) (()) [none] [] [] k_ v1_ (trivial) v1_))
   ·replace c8 := of_decide_eq_false c8
    refine J.skip ?_
    refine KN.next ?_
    refine J.sreg ?_
    refine RN.bq [none, some 0, none, none, none] [1, 22] [b2] 5 [(1, pt b2), (22, .bool (((((r.den).length : Nat) : Int) : Int) == 0))] k_ ?_
    refine RN.split 22 (((((r.den).length : Nat) : Int) : Int) == 0) k_ (fun c9 => ?_) (fun c9 => ?_)
    ·replace c9 := eq_of_beq c9
     refine RN.bq (no 16) [2] [] 21 [(2, .bool true)] k_ ?_
     refine RN.fin k_ ?_
     have e_1 : (validQ r) = true := by first | (simp_all [validQ, toL_eq1, nv_of_valid, lv]; done) | ((have hv := validZ_mag (z := ⟨r.neg, r.mag⟩) (by simpa using c4)); (have hd1 : lv r.den = 1 → r.den = [1] := (fun h => (by rw [← toL_lv hd (by simpa using c6), h, toL_1]))); simp_all [validQ, toL_eq1, nv_of_valid, lv]; intro _ h; simp [h] at c10)
     refine J.ret (KR.ret (v := .bool true) (()) [none] [] [] k_ v1_ (trivial) v1_)
    ·replace c9 := ne_of_beq_false c9
     refine RN.bq [none, none, some 0, none, none, none] [1, 22, 28] [b2] 11 [(1, pt b2), (22, .bool false), (28, .bool (decide (((r.mag.length : Nat) : Int) > 0)))] k_ ?_
     refine RN.split 28 (decide (((r.mag.length : Nat) : Int) > 0)) k_ (fun c10 => ?_) (fun c10 => ?_)
     ·replace c10 := of_decide_eq_true c10
      refine RN.bq [none, none, some 0, none, some 0] [22, 28, 31, 33] [b2, b2] 16 [(22, .bool false), (28, .bool true), (31, sl p.mag r.mag.length), (33, sl (p.den) (r.den).length)] k_ ?_
      refine RN.call (r01_Gcd p.mag r.mag (p.den) (r.den) y_ y_ y_ y_) [1, 0] k_ k_ k_ rfl (fun y11 _ => ?_)
      refine RN.call (r03_one y11 (toL (Nat.gcd (nv r.mag) (nv (r.den))))) [0] k_ k_ k_ rfl (fun y12 _ => ?_)
      refine RN.bq (no 3) [2] [] 21 [(2, .bool (decide ((toL (Nat.gcd (nv r.mag) (nv (r.den)))) = [1])))] k_ ?_
      refine RN.fin k_ ?_
      have e_1 : (validQ r) = (decide ((toL (Nat.gcd (nv r.mag) (nv (r.den)))) = [1])) := by first | (simp_all [validQ, toL_eq1, nv_of_valid, lv]; done) | ((have hv := validZ_mag (z := ⟨r.neg, r.mag⟩) (by simpa using c4)); (have hd1 : lv r.den = 1 → r.den = [1] := (fun h => (by rw [← toL_lv hd (by simpa using c6), h, toL_1]))); simp_all [validQ, toL_eq1, nv_of_valid, lv]; intro _ h; simp [h] at c10)
      refine J.ret (KR.ret (v := .bool (decide ((toL (Nat.gcd (nv r.mag) (nv (r.den)))) = [1]))) (()) [none] [] [] k_ v1_ (trivial) v1_)
     ·replace c10 := of_decide_eq_false c10
      refine RN.bq (no 10) [2] [] 21 [(2, .bool false)] k_ ?_
      refine RN.fin k_ ?_
      have e_1 : (validQ r) = false := by first | (simp_all [validQ, toL_eq1, nv_of_valid, lv]; done) | ((have hv := validZ_mag (z := ⟨r.neg, r.mag⟩) (by simpa using c4)); (have hd1 : lv r.den = 1 → r.den = [1] := (fun h => (by rw [← toL_lv hd (by simpa using c6), h, toL_1]))); simp_all [validQ, toL_eq1, nv_of_valid, lv]; intro _ h; simp [h] at c10)
      refine J.ret (KR.ret (v := .bool false) (()) [none] [] [] k_ v1_ (trivial) v1_)
theorem r03_Take (p : RA) (r : Raw) (hr : RQ 268435456 r) : Spec Tryz.prog 67 #[ratV p r] [fRat p r] (ι := RA) (fun y => ratV y (encQ (qv r))) (fun y => True) (fun y => [fRat y (encQ (qv r))]) := by
 refine Spec.of_body _ (fn := Tryz.f67) k_ rfl k_ (fun X w0 => ?_)
 refine J.fact (φ := r.mag.length ≤ 140737488355328 ∧ r.den.length ≤ 140737488355328) (fun w h => by have h1 := (h _ (.head _)).1.1; have h2 := (h _ (.head _)).2.1; omega) (fun hl1 => ?_)
 obtain ⟨hm, hd, hml, hdl, hq⟩ := hr
 refine J.sreg ?_
 refine RN.new (fun b => pt b) (.cells (ratC p r) 27 (0, 0)) k_ k_ (fun w => by kernel_rfl) (fun b2 => ?_)
 refine RN.new (fun b => pt b) (.cells (ratC (⟨saNil, saNil⟩ : RA) (⟨false, ([] : List Nat), ([] : List Nat)⟩ : Raw)) 27 (0, 0)) k_ k_ (fun w => by kernel_rfl) (fun b3 => ?_)
 refine RN.fin k_ ?_
 refine J.seq ?_
 refine J.sreg ?_
 refine RN.bq [some 1] [1, 2, 3] [b2, b2, b2] 1 [(1, pt b2), (2, pt b3), (3, ratV p r)] k_ ?_
 refine RN.call (r03_Valid p r y_ y_ y_ y_) [0] k_ k_ k_ rfl (fun y4 _ => ?_)
 refine RN.bq (no 1) [1, 2, 5] [] 3 [(1, pt b2), (2, pt b3), (5, .bool (!(validQ r)))] k_ ?_
 refine RN.fin k_ ?_
 refine J.cond (!(validQ r)) k_ (fun c5 => ?_) (fun c5 => ?_)
 ·refine J.sreg ?_
  refine RN.bs [none, some 0] [2] [b3, b3, b3] 2 [(2, pt b3)] ([(b3, .cells (ratC (⟨saNil, saNil⟩ : RA) (⟨false, ([] : List Nat), ([] : List Nat)⟩ : Raw)) 27 (0, 0)), (b2, .cells (ratC p r) 27 (0, 0))]) k_ ?_
  refine RN.fin k_ ?_
  have e_1 : (encQ (qv r)) = (⟨false, ([] : List Nat), ([] : List Nat)⟩ : Raw) := by exact encQ_qv_f (by simpa using ‹(!validQ r) = true›)
  have e_2 : (toL (((qv r).num).natAbs)) = ([] : List Nat) := congrArg Raw.mag e_1
  have e_3 : (toD ((qv r).den)) = ([] : List Nat) := congrArg Raw.den e_1
  refine J.also (fRat (⟨saNil, saNil⟩ : RA) (⟨false, ([] : List Nat), ([] : List Nat)⟩ : Raw)) (fun w h => ⟨fU_nil w, fU_nil w⟩) ?_
  refine J.ret (KR.next (KR.ret (v := ratV (⟨saNil, saNil⟩ : RA) (⟨false, ([] : List Nat), ([] : List Nat)⟩ : Raw)) (⟨saNil, saNil⟩) [some 0] [0] [b3, b3, b3] k_ (by first | rfl | (rw [e_1]; done) | (simp only [e_1]; done) | (rw [e_2, e_3]; done) | (rw [e_1, e_2, e_3]; rfl) | (simp only [e_1, e_2, e_3]; done) | (simp only [e_1, e_2, e_3]; rfl)) (trivial) (by first | rfl | (rw [e_1]; done) | (simp only [e_1]; done) | (rw [e_2, e_3]; done) | (rw [e_1, e_2, e_3]; rfl) | (simp only [e_1, e_2, e_3]; done) | (simp only [e_1, e_2, e_3]; rfl))))
 ·refine J.skip ?_
  refine KN.next ?_
  refine J.seq ?_
  refine J.regD k_ [7] ?_
  refine RD.bq [(0, none), (1, some 1), (3, none), (4, some 1)] [2, 8, 11] [b2, b2, b2] [(2, pt b3), (8, intV p.mag (⟨r.neg, r.mag⟩ : RawI)), (11, sl (p.den) (r.den).length)] k_ k_ ?_
  refine RD.also (fU p.mag r.mag) (fun w h => (h _ (.head _)).1) k_ ?_
  refine RD.call (i := 2) (r02_Take p.mag ⟨r.neg, r.mag⟩ y_ y_) [0] k_ k_ k_ k_ k_ rfl (fun y6 _ => ?_)
  refine RD.also (fU (p.den) (r.den)) (fun w h => (h _ (.tail _ ((.tail _ ((.head _)))))).2) k_ ?_
  refine RD.call (i := 5) (r01_Take (p.den) (r.den) y_ y_) [0] k_ k_ k_ k_ k_ rfl (fun y7 _ => ?_)
  refine RD.bq (nl [6]) [2, 13] [] [(2, pt b3), (13, ratV (⟨y6, y7⟩ : RA) (⟨decide ((zv (⟨r.neg, r.mag⟩ : RawI)) < 0), toL ((zv (⟨r.neg, r.mag⟩ : RawI)).natAbs), toL (nv (r.den))⟩ : Raw))] k_ k_ ?_
  refine RD.last (i := 7) (some 0) [2] [b3, b3, b3] k_ k_ k_ (l' := [(2, pt b3)]) (M' := [(b3, .cells (ratC (⟨y6, y7⟩ : RA) (⟨decide ((zv (⟨r.neg, r.mag⟩ : RawI)) < 0), toL ((zv (⟨r.neg, r.mag⟩ : RawI)).natAbs), toL (nv (r.den))⟩ : Raw)) 27 (0, 0)), (b2, .cells (ratC p r) 27 (0, 0))]) k_ ?_
  refine RD.done k_ ?_
  refine KN.next ?_
  have e_1 : (encQ (qv r)) = (⟨decide ((zv (⟨r.neg, r.mag⟩ : RawI)) < 0), toL ((zv (⟨r.neg, r.mag⟩ : RawI)).natAbs), toL (nv (r.den))⟩ : Raw) := by exact encQ_take hm hd (by simpa using ‹(!validQ r) = false›)
  have e_2 : (toL (((qv r).num).natAbs)) = (toL ((zv (⟨r.neg, r.mag⟩ : RawI)).natAbs)) := congrArg Raw.mag e_1
  have e_3 : (toD ((qv r).den)) = (toL (nv (r.den))) := congrArg Raw.den e_1
  refine J.also (fRat (⟨y6, y7⟩ : RA) (⟨decide ((zv (⟨r.neg, r.mag⟩ : RawI)) < 0), toL ((zv (⟨r.neg, r.mag⟩ : RawI)).natAbs), toL (nv (r.den))⟩ : Raw)) (fun w h => ⟨(h _ (.tail _ ((.tail _ ((.head _)))))), (h _ (.head _))⟩) ?_
  refine J.ret (KR.ret (v := ratV (⟨y6, y7⟩ : RA) (⟨decide ((zv (⟨r.neg, r.mag⟩ : RawI)) < 0), toL ((zv (⟨r.neg, r.mag⟩ : RawI)).natAbs), toL (nv (r.den))⟩ : Raw)) (⟨y6, y7⟩) [some 0] [0] [b3, b3, b3] k_ (by first | rfl | (rw [e_1]; done) | (simp only [e_1]; done) | (rw [e_2, e_3]; done) | (rw [e_1, e_2, e_3]; rfl) | (simp only [e_1, e_2, e_3]; done) | (simp only [e_1, e_2, e_3]; rfl)) (trivial) (by first | rfl | (rw [e_1]; done) | (simp only [e_1]; done) | (rw [e_2, e_3]; done) | (rw [e_1, e_2, e_3]; rfl) | (simp only [e_1, e_2, e_3]; done) | (simp only [e_1, e_2, e_3]; rfl)))
theorem neg_div {n d : Int} (h : d < 0) : (n : Rat) / (d : Rat) = ((-n : Int) : Rat) / ((-d : Int) : Rat) := by
  rw [← mk_neg h, ← mk_pos (by omega : 0 < -d), Int.natAbs_neg]
theorem over_pos {n d : Int} (hd : 0 < d) : encQ ((n : Rat) / (d : Rat)) = ⟨decide (n / ((Nat.gcd n.natAbs d.natAbs : Nat) : Int) < 0), toL (n / ((Nat.gcd n.natAbs d.natAbs : Nat) : Int)).natAbs, toD (d / ((Nat.gcd n.natAbs d.natAbs : Nat) : Int)).natAbs⟩ := by
  have h0 : d.natAbs ≠ 0 := by omega
  have hg : 0 < Nat.gcd n.natAbs d.natAbs := Nat.gcd_pos_of_pos_right _ (Nat.pos_of_ne_zero h0)
  obtain ⟨e1, e2⟩ := low_num (n := n) h0
  rw [← mk_pos hd]
  show (⟨decide ((mkRat n d.natAbs).num < 0), toL (mkRat n d.natAbs).num.natAbs, toD (mkRat n d.natAbs).den⟩ : Raw) = _
  rw [e1, e2]
  have e3 : (d / ((Nat.gcd n.natAbs d.natAbs : Nat) : Int)).natAbs = d.natAbs / Nat.gcd n.natAbs d.natAbs := by
    have hdv : ((Nat.gcd n.natAbs d.natAbs : Nat) : Int) ∣ d := Int.ofNat_dvd_left.2 (Nat.gcd_dvd_right _ _)
    rw [Int.natAbs_ediv_of_dvd hdv]; rfl
  rw [e3]
theorem y_r03_over {p : Prop} (h : p := by first | assumption | exact Lb_toL _ | omega | (simp; done) | first | (simp; omega) | (simp; done)) : p := h
theorem r03_over (s : SA) (n : Int) (t : SA) (d : Int) (hd : d ≠ 0) (hln : (toL (n.natAbs)).length ≤ 137438953472) (hld : (toL (d.natAbs)).length ≤ 137438953472) : Spec Tryz.prog 68 #[intV s (encZ n), intV t (encZ d)] [fU s (toL (n.natAbs)), fU t (toL (d.natAbs))] (ι := RA) (fun y => ratV y (encQ (((n : Int) : Rat) / ((d : Int) : Rat)))) (fun y => True) (fun y => [fRat y (encQ (((n : Int) : Rat) / ((d : Int) : Rat)))]) := by
 refine Spec.of_body _ (fn := Tryz.f68) k_ rfl k_ (fun X w0 => ?_)
 refine J.fact (φ := (toL (n.natAbs)).length ≤ 140737488355328) (fun w h => by have := (h _ (.head _)).1; omega) (fun hl1 => ?_)
 refine J.fact (φ := (toL (d.natAbs)).length ≤ 140737488355328) (fun w h => by have := (h _ (.tail _ ((.head _)))).1; omega) (fun hl2 => ?_)
 have hgl := length_toL_mono (Nat.gcd_le_right n.natAbs (show 0 < d.natAbs by omega))
 refine J.sreg ?_
 refine RN.new (fun b => pt b) (.cells #[.bool (decide (n < 0)), sl s (toL (n.natAbs)).length] 25 (0, 0)) k_ k_ (fun w => by kernel_rfl) (fun b3 => ?_)
 refine RN.new (fun b => pt b) (.cells #[.bool (decide (d < 0)), sl t (toL (d.natAbs)).length] 25 (0, 0)) k_ k_ (fun w => by kernel_rfl) (fun b4 => ?_)
 refine RN.new (fun b => pt b) (.cells (ratC (⟨saNil, saNil⟩ : RA) (⟨false, ([] : List Nat), ([] : List Nat)⟩ : Raw)) 27 (0, 0)) k_ k_ (fun w => by kernel_rfl) (fun b5 => ?_)
 refine RN.fin k_ ?_
 refine J.seq ?_
 refine J.sreg ?_
 refine RN.bq [some 1] [2, 3, 4, 12] [b4, b4] 1 [(2, pt b3), (3, pt b4), (4, pt b5), (12, intV t (encZ d))] k_ ?_
 refine RN.call (r02_Sign_c t d y_r03_over) [1] k_ k_ k_ rfl (fun y6 _ => ?_)
 refine RN.bq (no 1) [2, 3, 4, 14] [] 3 [(2, pt b3), (3, pt b4), (4, pt b5), (14, .bool (decide ((Int.sign d) < 0)))] k_ ?_
 refine RN.fin k_ ?_
 refine J.cond (decide ((Int.sign d) < 0)) k_ (fun c7 => ?_) (fun c7 => ?_)
 ·replace c7 := of_decide_eq_true c7
  have hs := sign_lt0 c7
  refine J.regD k_ [4, 5] ?_
  refine RD.bq [(0, some 2), (2, some 1)] [2, 3, 4, 15, 17] [b4, b4, b3, b3] [(2, pt b3), (3, pt b4), (4, pt b5), (15, intV s (encZ n)), (17, intV t (encZ d))] k_ k_ ?_
  refine RD.call (i := 1) (r02_Neg_c s n y_r03_over) [0] k_ k_ k_ k_ k_ rfl (fun y8 _ => ?_)
  refine RD.call (i := 3) (r02_Neg_c t d y_r03_over) [2] k_ k_ k_ k_ k_ rfl (fun y9 _ => ?_)
  refine RD.last (i := 4) (some 2) [2, 3, 4, 18] [b3, b3] k_ k_ k_ (l' := [(2, pt b3), (3, pt b4), (4, pt b5), (18, intV y9 (encZ (-d)))]) (M' := [(b5, .cells (ratC (⟨saNil, saNil⟩ : RA) (⟨false, ([] : List Nat), ([] : List Nat)⟩ : Raw)) 27 (0, 0)), (b4, .cells #[.bool (decide (d < 0)), sl t (toL (d.natAbs)).length] 25 (0, 0)), (b3, .cells #[.bool (decide ((-n) < 0)), sl y8 (toL ((-n).natAbs)).length] 25 (0, 0))]) k_ ?_
  refine RD.last (i := 5) (some 1) [2, 3, 4] [b4, b4] k_ k_ k_ (l' := [(2, pt b3), (3, pt b4), (4, pt b5)]) (M' := [(b5, .cells (ratC (⟨saNil, saNil⟩ : RA) (⟨false, ([] : List Nat), ([] : List Nat)⟩ : Raw)) 27 (0, 0)), (b4, .cells #[.bool (decide ((-d) < 0)), sl y9 (toL ((-d).natAbs)).length] 25 (0, 0)), (b3, .cells #[.bool (decide ((-n) < 0)), sl y8 (toL ((-n).natAbs)).length] 25 (0, 0))]) k_ ?_
  refine RD.done k_ ?_
  refine KN.next ?_
  refine J.sreg ?_
  refine RN.bq [some 2, some 1] [2, 3, 4, 19, 20] [b4, b4, b3, b3] 2 [(2, pt b3), (3, pt b4), (4, pt b5), (19, intV y8 (encZ (-n))), (20, intV y9 (encZ (-d)))] k_ ?_
  refine RN.call (r02_Gcd_c y8 (-n) y9 (-d) y_r03_over y_r03_over) [1, 0] k_ k_ k_ rfl (fun y10 _ => ?_)
  refine RN.bq (no 1) [2, 3, 4, 22] [] 4 [(2, pt b3), (3, pt b4), (4, pt b5), (22, intV y10 (encZ ((Nat.gcd ((-n).natAbs) ((-d).natAbs) : Nat) : Int)))] k_ ?_
  refine RN.new (fun b => pt b) (.cells #[.bool false, sl saNil ([] : List Nat).length] 25 (0, 0)) k_ k_ (fun w => by kernel_rfl) (fun b11 => ?_)
  refine RN.bs [some 0] [2, 3, 4, 5] [b11, b11] 6 [(2, pt b3), (3, pt b4), (4, pt b5), (5, pt b11)] ([(b11, .cells #[.bool false, sl y10 (toL (Nat.gcd ((-n).natAbs) ((-d).natAbs))).length] 25 (0, 0)), (b5, .cells (ratC (⟨saNil, saNil⟩ : RA) (⟨false, ([] : List Nat), ([] : List Nat)⟩ : Raw)) 27 (0, 0)), (b4, .cells #[.bool (decide ((-d) < 0)), sl y9 (toL ((-d).natAbs)).length] 25 (0, 0)), (b3, .cells #[.bool (decide ((-n) < 0)), sl y8 (toL ((-n).natAbs)).length] 25 (0, 0))]) k_ ?_
  refine RN.fs k_ ?_
  refine RN.bq [some 3, some 0] [3, 4, 5, 24, 25] [b11, b11, b3, b3] 2 [(3, pt b4), (4, pt b5), (5, pt b11), (24, intV y8 (encZ (-n))), (25, intV y10 (encZ ((Nat.gcd ((-n).natAbs) ((-d).natAbs) : Nat) : Int)))] k_ ?_
  refine RN.call (r02_Div_c y8 (-n) y10 ((Nat.gcd ((-n).natAbs) ((-d).natAbs) : Nat) : Int) y_r03_over y_r03_over) [2, 0] k_ k_ k_ rfl (fun y12 _ => ?_)
  refine RN.bq (no 4) [3, 4, 5, 27, 28, 29] [] 7 [(3, pt b4), (4, pt b5), (5, pt b11), (27, intV y12.1 (encZ ((-n) / ((Nat.gcd ((-n).natAbs) ((-d).natAbs) : Nat) : Int)))), (28, intV y12.2 (encZ (if ((Nat.gcd ((-n).natAbs) ((-d).natAbs) : Nat) : Int) = 0 then 0 else (-n) % ((Nat.gcd ((-n).natAbs) ((-d).natAbs) : Nat) : Int)))), (29, .bool (decide (((Nat.gcd ((-n).natAbs) ((-d).natAbs) : Nat) : Int) ≠ 0)))] k_ ?_
  refine RN.new (fun b => pt b) (.cells #[.bool false, sl saNil ([] : List Nat).length] 25 (0, 0)) k_ k_ (fun w => by kernel_rfl) (fun b13 => ?_)
  refine RN.new (fun b => pt b) (.cells #[.bool false, sl saNil ([] : List Nat).length] 25 (0, 0)) k_ k_ (fun w => by kernel_rfl) (fun b14 => ?_)
  refine RN.bs [some 1, some 0, none] [3, 4, 5, 6] [b14, b14, b13, b13] 12 [(3, pt b4), (4, pt b5), (5, pt b11), (6, pt b13)] ([(b14, .cells #[.bool (decide ((if ((Nat.gcd ((-n).natAbs) ((-d).natAbs) : Nat) : Int) = 0 then 0 else (-n) % ((Nat.gcd ((-n).natAbs) ((-d).natAbs) : Nat) : Int)) < 0)), sl y12.2 (toL ((if ((Nat.gcd ((-n).natAbs) ((-d).natAbs) : Nat) : Int) = 0 then 0 else (-n) % ((Nat.gcd ((-n).natAbs) ((-d).natAbs) : Nat) : Int)).natAbs)).length] 25 (0, 0)), (b13, .cells #[.bool (decide (((-n) / ((Nat.gcd ((-n).natAbs) ((-d).natAbs) : Nat) : Int)) < 0)), sl y12.1 (toL (((-n) / ((Nat.gcd ((-n).natAbs) ((-d).natAbs) : Nat) : Int)).natAbs)).length] 25 (0, 0)), (b11, .cells #[.bool false, sl y10 (toL (Nat.gcd ((-n).natAbs) ((-d).natAbs))).length] 25 (0, 0)), (b5, .cells (ratC (⟨saNil, saNil⟩ : RA) (⟨false, ([] : List Nat), ([] : List Nat)⟩ : Raw)) 27 (0, 0)), (b4, .cells #[.bool (decide ((-d) < 0)), sl y9 (toL ((-d).natAbs)).length] 25 (0, 0)), (b3, .cells #[.bool (decide ((-n) < 0)), sl y8 (toL ((-n).natAbs)).length] 25 (0, 0))]) k_ ?_
  refine RN.fs k_ ?_
  refine RN.bq [some 4, some 2] [4, 6, 31, 32] [b11, b11, b4, b4] 2 [(4, pt b5), (6, pt b13), (31, intV y9 (encZ (-d))), (32, intV y10 (encZ ((Nat.gcd ((-n).natAbs) ((-d).natAbs) : Nat) : Int)))] k_ ?_
  refine RN.call (r02_Div_c y9 (-d) y10 ((Nat.gcd ((-n).natAbs) ((-d).natAbs) : Nat) : Int) y_r03_over y_r03_over) [3, 2] k_ k_ k_ rfl (fun y15 _ => ?_)
  refine RN.bq (no 4) [4, 6, 34, 35, 36] [] 7 [(4, pt b5), (6, pt b13), (34, intV y15.1 (encZ ((-d) / ((Nat.gcd ((-n).natAbs) ((-d).natAbs) : Nat) : Int)))), (35, intV y15.2 (encZ (if ((Nat.gcd ((-n).natAbs) ((-d).natAbs) : Nat) : Int) = 0 then 0 else (-d) % ((Nat.gcd ((-n).natAbs) ((-d).natAbs) : Nat) : Int)))), (36, .bool (decide (((Nat.gcd ((-n).natAbs) ((-d).natAbs) : Nat) : Int) ≠ 0)))] k_ ?_
  refine RN.new (fun b => pt b) (.cells #[.bool false, sl saNil ([] : List Nat).length] 25 (0, 0)) k_ k_ (fun w => by kernel_rfl) (fun b16 => ?_)
  refine RN.new (fun b => pt b) (.cells #[.bool false, sl saNil ([] : List Nat).length] 25 (0, 0)) k_ k_ (fun w => by kernel_rfl) (fun b17 => ?_)
  refine RN.bs [some 1, some 0, none] [4, 6, 9] [b17, b17, b16, b16] 12 [(4, pt b5), (6, pt b13), (9, pt b16)] ([(b17, .cells #[.bool (decide ((if ((Nat.gcd ((-n).natAbs) ((-d).natAbs) : Nat) : Int) = 0 then 0 else (-d) % ((Nat.gcd ((-n).natAbs) ((-d).natAbs) : Nat) : Int)) < 0)), sl y15.2 (toL ((if ((Nat.gcd ((-n).natAbs) ((-d).natAbs) : Nat) : Int) = 0 then 0 else (-d) % ((Nat.gcd ((-n).natAbs) ((-d).natAbs) : Nat) : Int)).natAbs)).length] 25 (0, 0)), (b16, .cells #[.bool (decide (((-d) / ((Nat.gcd ((-n).natAbs) ((-d).natAbs) : Nat) : Int)) < 0)), sl y15.1 (toL (((-d) / ((Nat.gcd ((-n).natAbs) ((-d).natAbs) : Nat) : Int)).natAbs)).length] 25 (0, 0)), (b14, .cells #[.bool (decide ((if ((Nat.gcd ((-n).natAbs) ((-d).natAbs) : Nat) : Int) = 0 then 0 else (-n) % ((Nat.gcd ((-n).natAbs) ((-d).natAbs) : Nat) : Int)) < 0)), sl y12.2 (toL ((if ((Nat.gcd ((-n).natAbs) ((-d).natAbs) : Nat) : Int) = 0 then 0 else (-n) % ((Nat.gcd ((-n).natAbs) ((-d).natAbs) : Nat) : Int)).natAbs)).length] 25 (0, 0)), (b13, .cells #[.bool (decide (((-n) / ((Nat.gcd ((-n).natAbs) ((-d).natAbs) : Nat) : Int)) < 0)), sl y12.1 (toL (((-n) / ((Nat.gcd ((-n).natAbs) ((-d).natAbs) : Nat) : Int)).natAbs)).length] 25 (0, 0)), (b11, .cells #[.bool false, sl y10 (toL (Nat.gcd ((-n).natAbs) ((-d).natAbs))).length] 25 (0, 0)), (b5, .cells (ratC (⟨saNil, saNil⟩ : RA) (⟨false, ([] : List Nat), ([] : List Nat)⟩ : Raw)) 27 (0, 0)), (b4, .cells #[.bool (decide ((-d) < 0)), sl y9 (toL ((-d).natAbs)).length] 25 (0, 0)), (b3, .cells #[.bool (decide ((-n) < 0)), sl y8 (toL ((-n).natAbs)).length] 25 (0, 0))]) k_ ?_
  refine RN.fin k_ ?_
  refine J.seq ?_
  refine J.sreg ?_
  refine RN.bq [none, some 1] [4, 6, 9, 38] [b16] 2 [(4, pt b5), (6, pt b13), (9, pt b16), (38, sl y15.1 (toL (((-d) / ((Nat.gcd ((-n).natAbs) ((-d).natAbs) : Nat) : Int)).natAbs)).length)] k_ ?_
  refine RN.call (r03_one y15.1 (toL (((-d) / ((Nat.gcd ((-n).natAbs) ((-d).natAbs) : Nat) : Int)).natAbs))) [0] k_ k_ k_ rfl (fun y18 _ => ?_)
  refine RN.fin k_ ?_
  refine J.cond (decide ((toL (((-d) / ((Nat.gcd ((-n).natAbs) ((-d).natAbs) : Nat) : Int)).natAbs)) = [1])) k_ (fun c19 => ?_) (fun c19 => ?_)
  ·replace c19 := of_decide_eq_true c19
   have ho := toL_eq1.1 c19
   refine J.regN ?_
   refine RN.bs [none, some 1] [4, 6, 9] [b16] 2 [(4, pt b5), (6, pt b13), (9, pt b16)] ([(b17, .cells #[.bool (decide ((if ((Nat.gcd ((-n).natAbs) ((-d).natAbs) : Nat) : Int) = 0 then 0 else (-d) % ((Nat.gcd ((-n).natAbs) ((-d).natAbs) : Nat) : Int)) < 0)), sl y15.2 (toL ((if ((Nat.gcd ((-n).natAbs) ((-d).natAbs) : Nat) : Int) = 0 then 0 else (-d) % ((Nat.gcd ((-n).natAbs) ((-d).natAbs) : Nat) : Int)).natAbs)).length] 25 (0, 0)), (b16, .cells #[.bool (decide (((-d) / ((Nat.gcd ((-n).natAbs) ((-d).natAbs) : Nat) : Int)) < 0)), sl saNil ([] : List Nat).length] 25 (0, 0)), (b14, .cells #[.bool (decide ((if ((Nat.gcd ((-n).natAbs) ((-d).natAbs) : Nat) : Int) = 0 then 0 else (-n) % ((Nat.gcd ((-n).natAbs) ((-d).natAbs) : Nat) : Int)) < 0)), sl y12.2 (toL ((if ((Nat.gcd ((-n).natAbs) ((-d).natAbs) : Nat) : Int) = 0 then 0 else (-n) % ((Nat.gcd ((-n).natAbs) ((-d).natAbs) : Nat) : Int)).natAbs)).length] 25 (0, 0)), (b13, .cells #[.bool (decide (((-n) / ((Nat.gcd ((-n).natAbs) ((-d).natAbs) : Nat) : Int)) < 0)), sl y12.1 (toL (((-n) / ((Nat.gcd ((-n).natAbs) ((-d).natAbs) : Nat) : Int)).natAbs)).length] 25 (0, 0)), (b11, .cells #[.bool false, sl y10 (toL (Nat.gcd ((-n).natAbs) ((-d).natAbs))).length] 25 (0, 0)), (b5, .cells (ratC (⟨saNil, saNil⟩ : RA) (⟨false, ([] : List Nat), ([] : List Nat)⟩ : Raw)) 27 (0, 0)), (b4, .cells #[.bool (decide ((-d) < 0)), sl y9 (toL ((-d).natAbs)).length] 25 (0, 0)), (b3, .cells #[.bool (decide ((-n) < 0)), sl y8 (toL ((-n).natAbs)).length] 25 (0, 0))]) k_ ?_
   refine RN.fs k_ ?_
   refine RN.bs [some 3, none, some 1, none, some 5] [4] [b5, b5, b5, b16, b13, b13] 5 [(4, pt b5)] ([(b17, .cells #[.bool (decide ((if ((Nat.gcd ((-n).natAbs) ((-d).natAbs) : Nat) : Int) = 0 then 0 else (-d) % ((Nat.gcd ((-n).natAbs) ((-d).natAbs) : Nat) : Int)) < 0)), sl y15.2 (toL ((if ((Nat.gcd ((-n).natAbs) ((-d).natAbs) : Nat) : Int) = 0 then 0 else (-d) % ((Nat.gcd ((-n).natAbs) ((-d).natAbs) : Nat) : Int)).natAbs)).length] 25 (0, 0)), (b16, .cells #[.bool (decide (((-d) / ((Nat.gcd ((-n).natAbs) ((-d).natAbs) : Nat) : Int)) < 0)), sl saNil ([] : List Nat).length] 25 (0, 0)), (b14, .cells #[.bool (decide ((if ((Nat.gcd ((-n).natAbs) ((-d).natAbs) : Nat) : Int) = 0 then 0 else (-n) % ((Nat.gcd ((-n).natAbs) ((-d).natAbs) : Nat) : Int)) < 0)), sl y12.2 (toL ((if ((Nat.gcd ((-n).natAbs) ((-d).natAbs) : Nat) : Int) = 0 then 0 else (-n) % ((Nat.gcd ((-n).natAbs) ((-d).natAbs) : Nat) : Int)).natAbs)).length] 25 (0, 0)), (b13, .cells #[.bool (decide (((-n) / ((Nat.gcd ((-n).natAbs) ((-d).natAbs) : Nat) : Int)) < 0)), sl y12.1 (toL (((-n) / ((Nat.gcd ((-n).natAbs) ((-d).natAbs) : Nat) : Int)).natAbs)).length] 25 (0, 0)), (b11, .cells #[.bool false, sl y10 (toL (Nat.gcd ((-n).natAbs) ((-d).natAbs))).length] 25 (0, 0)), (b5, .cells (ratC (⟨y12.1, saNil⟩ : RA) (⟨decide (((-n) / ((Nat.gcd ((-n).natAbs) ((-d).natAbs) : Nat) : Int)) < 0), toL (((-n) / ((Nat.gcd ((-n).natAbs) ((-d).natAbs) : Nat) : Int)).natAbs), ([] : List Nat)⟩ : Raw)) 27 (0, 0)), (b4, .cells #[.bool (decide ((-d) < 0)), sl y9 (toL ((-d).natAbs)).length] 25 (0, 0)), (b3, .cells #[.bool (decide ((-n) < 0)), sl y8 (toL ((-n).natAbs)).length] 25 (0, 0))]) k_ ?_
   refine RN.fin k_ ?_
   have e_1 : (encQ (((n : Int) : Rat) / ((d : Int) : Rat))) = (⟨decide (((-n) / ((Nat.gcd ((-n).natAbs) ((-d).natAbs) : Nat) : Int)) < 0), toL (((-n) / ((Nat.gcd ((-n).natAbs) ((-d).natAbs) : Nat) : Int)).natAbs), ([] : List Nat)⟩ : Raw) := by rw [neg_div hs, over_pos (by omega), ho, toD_one]
   have e_2 : (toL (((((n : Int) : Rat) / ((d : Int) : Rat)).num).natAbs)) = (toL (((-n) / ((Nat.gcd ((-n).natAbs) ((-d).natAbs) : Nat) : Int)).natAbs)) := congrArg Raw.mag e_1
   have e_3 : (toD ((((n : Int) : Rat) / ((d : Int) : Rat)).den)) = ([] : List Nat) := congrArg Raw.den e_1
   refine J.also (fRat (⟨y12.1, saNil⟩ : RA) (⟨decide (((-n) / ((Nat.gcd ((-n).natAbs) ((-d).natAbs) : Nat) : Int)) < 0), toL (((-n) / ((Nat.gcd ((-n).natAbs) ((-d).natAbs) : Nat) : Int)).natAbs), ([] : List Nat)⟩ : Raw)) (fun w h => ⟨(h _ (.tail _ ((.tail _ ((.head _)))))), fU_nil w⟩) ?_
   refine J.ret (KR.ret (v := ratV (⟨y12.1, saNil⟩ : RA) (⟨decide (((-n) / ((Nat.gcd ((-n).natAbs) ((-d).natAbs) : Nat) : Int)) < 0), toL (((-n) / ((Nat.gcd ((-n).natAbs) ((-d).natAbs) : Nat) : Int)).natAbs), ([] : List Nat)⟩ : Raw)) (⟨y12.1, saNil⟩) [some 5] [0] [b5, b5, b5] k_ (by first | rfl | (rw [e_1]; done) | (simp only [e_1]; done) | (rw [e_2, e_3]; done) | (rw [e_1, e_2, e_3]; rfl) | (simp only [e_1, e_2, e_3]; done) | (simp only [e_1, e_2, e_3]; rfl)) (trivial) (by first | rfl | (rw [e_1]; done) | (simp only [e_1]; done) | (rw [e_2, e_3]; done) | (rw [e_1, e_2, e_3]; rfl) | (simp only [e_1, e_2, e_3]; done) | (simp only [e_1, e_2, e_3]; rfl)))
  ·replace c19 := of_decide_eq_false c19
   have ho := mt toL_eq1.2 c19
   refine J.skip ?_
   refine KN.next ?_
   refine J.sreg ?_
   refine RN.bs [some 3, none, some 1, none, some 5] [4] [b5, b5, b5, b16, b13, b13] 5 [(4, pt b5)] ([(b17, .cells #[.bool (decide ((if ((Nat.gcd ((-n).natAbs) ((-d).natAbs) : Nat) : Int) = 0 then 0 else (-d) % ((Nat.gcd ((-n).natAbs) ((-d).natAbs) : Nat) : Int)) < 0)), sl y15.2 (toL ((if ((Nat.gcd ((-n).natAbs) ((-d).natAbs) : Nat) : Int) = 0 then 0 else (-d) % ((Nat.gcd ((-n).natAbs) ((-d).natAbs) : Nat) : Int)).natAbs)).length] 25 (0, 0)), (b16, .cells #[.bool (decide (((-d) / ((Nat.gcd ((-n).natAbs) ((-d).natAbs) : Nat) : Int)) < 0)), sl y15.1 (toL (((-d) / ((Nat.gcd ((-n).natAbs) ((-d).natAbs) : Nat) : Int)).natAbs)).length] 25 (0, 0)), (b14, .cells #[.bool (decide ((if ((Nat.gcd ((-n).natAbs) ((-d).natAbs) : Nat) : Int) = 0 then 0 else (-n) % ((Nat.gcd ((-n).natAbs) ((-d).natAbs) : Nat) : Int)) < 0)), sl y12.2 (toL ((if ((Nat.gcd ((-n).natAbs) ((-d).natAbs) : Nat) : Int) = 0 then 0 else (-n) % ((Nat.gcd ((-n).natAbs) ((-d).natAbs) : Nat) : Int)).natAbs)).length] 25 (0, 0)), (b13, .cells #[.bool (decide (((-n) / ((Nat.gcd ((-n).natAbs) ((-d).natAbs) : Nat) : Int)) < 0)), sl y12.1 (toL (((-n) / ((Nat.gcd ((-n).natAbs) ((-d).natAbs) : Nat) : Int)).natAbs)).length] 25 (0, 0)), (b11, .cells #[.bool false, sl y10 (toL (Nat.gcd ((-n).natAbs) ((-d).natAbs))).length] 25 (0, 0)), (b5, .cells (ratC (⟨y12.1, y15.1⟩ : RA) (⟨decide (((-n) / ((Nat.gcd ((-n).natAbs) ((-d).natAbs) : Nat) : Int)) < 0), toL (((-n) / ((Nat.gcd ((-n).natAbs) ((-d).natAbs) : Nat) : Int)).natAbs), toL (((-d) / ((Nat.gcd ((-n).natAbs) ((-d).natAbs) : Nat) : Int)).natAbs)⟩ : Raw)) 27 (0, 0)), (b4, .cells #[.bool (decide ((-d) < 0)), sl y9 (toL ((-d).natAbs)).length] 25 (0, 0)), (b3, .cells #[.bool (decide ((-n) < 0)), sl y8 (toL ((-n).natAbs)).length] 25 (0, 0))]) k_ ?_
   refine RN.fin k_ ?_
   have e_1 : (encQ (((n : Int) : Rat) / ((d : Int) : Rat))) = (⟨decide (((-n) / ((Nat.gcd ((-n).natAbs) ((-d).natAbs) : Nat) : Int)) < 0), toL (((-n) / ((Nat.gcd ((-n).natAbs) ((-d).natAbs) : Nat) : Int)).natAbs), toL (((-d) / ((Nat.gcd ((-n).natAbs) ((-d).natAbs) : Nat) : Int)).natAbs)⟩ : Raw) := by rw [neg_div hs, over_pos (by omega), toD_ne ho]
   have e_2 : (toL (((((n : Int) : Rat) / ((d : Int) : Rat)).num).natAbs)) = (toL (((-n) / ((Nat.gcd ((-n).natAbs) ((-d).natAbs) : Nat) : Int)).natAbs)) := congrArg Raw.mag e_1
   have e_3 : (toD ((((n : Int) : Rat) / ((d : Int) : Rat)).den)) = (toL (((-d) / ((Nat.gcd ((-n).natAbs) ((-d).natAbs) : Nat) : Int)).natAbs)) := congrArg Raw.den e_1
   refine J.also (fRat (⟨y12.1, y15.1⟩ : RA) (⟨decide (((-n) / ((Nat.gcd ((-n).natAbs) ((-d).natAbs) : Nat) : Int)) < 0), toL (((-n) / ((Nat.gcd ((-n).natAbs) ((-d).natAbs) : Nat) : Int)).natAbs), toL (((-d) / ((Nat.gcd ((-n).natAbs) ((-d).natAbs) : Nat) : Int)).natAbs)⟩ : Raw)) (fun w h => ⟨(h _ (.tail _ ((.tail _ ((.head _)))))), (h _ (.head _))⟩) ?_
   refine J.ret (KR.ret (v := ratV (⟨y12.1, y15.1⟩ : RA) (⟨decide (((-n) / ((Nat.gcd ((-n).natAbs) ((-d).natAbs) : Nat) : Int)) < 0), toL (((-n) / ((Nat.gcd ((-n).natAbs) ((-d).natAbs) : Nat) : Int)).natAbs), toL (((-d) / ((Nat.gcd ((-n).natAbs) ((-d).natAbs) : Nat) : Int)).natAbs)⟩ : Raw)) (⟨y12.1, y15.1⟩) [some 5] [0] [b5, b5, b5] k_ (by first | rfl | (rw [e_1]; done) | (simp only [e_1]; done) | (rw [e_2, e_3]; done) | (rw [e_1, e_2, e_3]; rfl) | (simp only [e_1, e_2, e_3]; done) | (simp only [e_1, e_2, e_3]; rfl)) (trivial) (by first | rfl | (rw [e_1]; done) | (simp only [e_1]; done) | (rw [e_2, e_3]; done) | (rw [e_1, e_2, e_3]; rfl) | (simp only [e_1, e_2, e_3]; done) | (simp only [e_1, e_2, e_3]; rfl)))
 ·replace c7 := of_decide_eq_false c7
  have hs := sign_nlt0 c7 hd
  refine J.skip ?_
  refine KN.next ?_
  refine J.sreg ?_
  refine RN.bq [some 2, some 1] [2, 3, 4, 19, 20] [b4, b4, b3, b3] 2 [(2, pt b3), (3, pt b4), (4, pt b5), (19, intV s (encZ n)), (20, intV t (encZ d))] k_ ?_
  refine RN.call (r02_Gcd_c s n t d y_r03_over y_r03_over) [0, 1] k_ k_ k_ rfl (fun y20 _ => ?_)
  refine RN.bq (no 1) [2, 3, 4, 22] [] 4 [(2, pt b3), (3, pt b4), (4, pt b5), (22, intV y20 (encZ ((Nat.gcd (n.natAbs) (d.natAbs) : Nat) : Int)))] k_ ?_
  refine RN.new (fun b => pt b) (.cells #[.bool false, sl saNil ([] : List Nat).length] 25 (0, 0)) k_ k_ (fun w => by kernel_rfl) (fun b21 => ?_)
  refine RN.bs [some 0] [2, 3, 4, 5] [b21, b21] 6 [(2, pt b3), (3, pt b4), (4, pt b5), (5, pt b21)] ([(b21, .cells #[.bool false, sl y20 (toL (Nat.gcd (n.natAbs) (d.natAbs))).length] 25 (0, 0)), (b5, .cells (ratC (⟨saNil, saNil⟩ : RA) (⟨false, ([] : List Nat), ([] : List Nat)⟩ : Raw)) 27 (0, 0)), (b4, .cells #[.bool (decide (d < 0)), sl t (toL (d.natAbs)).length] 25 (0, 0)), (b3, .cells #[.bool (decide (n < 0)), sl s (toL (n.natAbs)).length] 25 (0, 0))]) k_ ?_
  refine RN.fs k_ ?_
  refine RN.bq [some 3, some 0] [3, 4, 5, 24, 25] [b21, b21, b3, b3] 2 [(3, pt b4), (4, pt b5), (5, pt b21), (24, intV s (encZ n)), (25, intV y20 (encZ ((Nat.gcd (n.natAbs) (d.natAbs) : Nat) : Int)))] k_ ?_
  refine RN.call (r02_Div_c s n y20 ((Nat.gcd (n.natAbs) (d.natAbs) : Nat) : Int) y_r03_over y_r03_over) [1, 0] k_ k_ k_ rfl (fun y22 _ => ?_)
  refine RN.bq (no 4) [3, 4, 5, 27, 28, 29] [] 7 [(3, pt b4), (4, pt b5), (5, pt b21), (27, intV y22.1 (encZ (n / ((Nat.gcd (n.natAbs) (d.natAbs) : Nat) : Int)))), (28, intV y22.2 (encZ (if ((Nat.gcd (n.natAbs) (d.natAbs) : Nat) : Int) = 0 then 0 else n % ((Nat.gcd (n.natAbs) (d.natAbs) : Nat) : Int)))), (29, .bool (decide (((Nat.gcd (n.natAbs) (d.natAbs) : Nat) : Int) ≠ 0)))] k_ ?_
  refine RN.new (fun b => pt b) (.cells #[.bool false, sl saNil ([] : List Nat).length] 25 (0, 0)) k_ k_ (fun w => by kernel_rfl) (fun b23 => ?_)
  refine RN.new (fun b => pt b) (.cells #[.bool false, sl saNil ([] : List Nat).length] 25 (0, 0)) k_ k_ (fun w => by kernel_rfl) (fun b24 => ?_)
  refine RN.bs [some 1, some 0, none] [3, 4, 5, 6] [b24, b24, b23, b23] 12 [(3, pt b4), (4, pt b5), (5, pt b21), (6, pt b23)] ([(b24, .cells #[.bool (decide ((if ((Nat.gcd (n.natAbs) (d.natAbs) : Nat) : Int) = 0 then 0 else n % ((Nat.gcd (n.natAbs) (d.natAbs) : Nat) : Int)) < 0)), sl y22.2 (toL ((if ((Nat.gcd (n.natAbs) (d.natAbs) : Nat) : Int) = 0 then 0 else n % ((Nat.gcd (n.natAbs) (d.natAbs) : Nat) : Int)).natAbs)).length] 25 (0, 0)), (b23, .cells #[.bool (decide ((n / ((Nat.gcd (n.natAbs) (d.natAbs) : Nat) : Int)) < 0)), sl y22.1 (toL ((n / ((Nat.gcd (n.natAbs) (d.natAbs) : Nat) : Int)).natAbs)).length] 25 (0, 0)), (b21, .cells #[.bool false, sl y20 (toL (Nat.gcd (n.natAbs) (d.natAbs))).length] 25 (0, 0)), (b5, .cells (ratC (⟨saNil, saNil⟩ : RA) (⟨false, ([] : List Nat), ([] : List Nat)⟩ : Raw)) 27 (0, 0)), (b4, .cells #[.bool (decide (d < 0)), sl t (toL (d.natAbs)).length] 25 (0, 0)), (b3, .cells #[.bool (decide (n < 0)), sl s (toL (n.natAbs)).length] 25 (0, 0))]) k_ ?_
  refine RN.fs k_ ?_
  refine RN.bq [some 4, some 2] [4, 6, 31, 32] [b21, b21, b4, b4] 2 [(4, pt b5), (6, pt b23), (31, intV t (encZ d)), (32, intV y20 (encZ ((Nat.gcd (n.natAbs) (d.natAbs) : Nat) : Int)))] k_ ?_
  refine RN.call (r02_Div_c t d y20 ((Nat.gcd (n.natAbs) (d.natAbs) : Nat) : Int) y_r03_over y_r03_over) [4, 2] k_ k_ k_ rfl (fun y25 _ => ?_)
  refine RN.bq (no 4) [4, 6, 34, 35, 36] [] 7 [(4, pt b5), (6, pt b23), (34, intV y25.1 (encZ (d / ((Nat.gcd (n.natAbs) (d.natAbs) : Nat) : Int)))), (35, intV y25.2 (encZ (if ((Nat.gcd (n.natAbs) (d.natAbs) : Nat) : Int) = 0 then 0 else d % ((Nat.gcd (n.natAbs) (d.natAbs) : Nat) : Int)))), (36, .bool (decide (((Nat.gcd (n.natAbs) (d.natAbs) : Nat) : Int) ≠ 0)))] k_ ?_
  refine RN.new (fun b => pt b) (.cells #[.bool false, sl saNil ([] : List Nat).length] 25 (0, 0)) k_ k_ (fun w => by kernel_rfl) (fun b26 => ?_)
  refine RN.new (fun b => pt b) (.cells #[.bool false, sl saNil ([] : List Nat).length] 25 (0, 0)) k_ k_ (fun w => by kernel_rfl) (fun b27 => ?_)
  refine RN.bs [some 1, some 0, none] [4, 6, 9] [b27, b27, b26, b26] 12 [(4, pt b5), (6, pt b23), (9, pt b26)] ([(b27, .cells #[.bool (decide ((if ((Nat.gcd (n.natAbs) (d.natAbs) : Nat) : Int) = 0 then 0 else d % ((Nat.gcd (n.natAbs) (d.natAbs) : Nat) : Int)) < 0)), sl y25.2 (toL ((if ((Nat.gcd (n.natAbs) (d.natAbs) : Nat) : Int) = 0 then 0 else d % ((Nat.gcd (n.natAbs) (d.natAbs) : Nat) : Int)).natAbs)).length] 25 (0, 0)), (b26, .cells #[.bool (decide ((d / ((Nat.gcd (n.natAbs) (d.natAbs) : Nat) : Int)) < 0)), sl y25.1 (toL ((d / ((Nat.gcd (n.natAbs) (d.natAbs) : Nat) : Int)).natAbs)).length] 25 (0, 0)), (b24, .cells #[.bool (decide ((if ((Nat.gcd (n.natAbs) (d.natAbs) : Nat) : Int) = 0 then 0 else n % ((Nat.gcd (n.natAbs) (d.natAbs) : Nat) : Int)) < 0)), sl y22.2 (toL ((if ((Nat.gcd (n.natAbs) (d.natAbs) : Nat) : Int) = 0 then 0 else n % ((Nat.gcd (n.natAbs) (d.natAbs) : Nat) : Int)).natAbs)).length] 25 (0, 0)), (b23, .cells #[.bool (decide ((n / ((Nat.gcd (n.natAbs) (d.natAbs) : Nat) : Int)) < 0)), sl y22.1 (toL ((n / ((Nat.gcd (n.natAbs) (d.natAbs) : Nat) : Int)).natAbs)).length] 25 (0, 0)), (b21, .cells #[.bool false, sl y20 (toL (Nat.gcd (n.natAbs) (d.natAbs))).length] 25 (0, 0)), (b5, .cells (ratC (⟨saNil, saNil⟩ : RA) (⟨false, ([] : List Nat), ([] : List Nat)⟩ : Raw)) 27 (0, 0)), (b4, .cells #[.bool (decide (d < 0)), sl t (toL (d.natAbs)).length] 25 (0, 0)), (b3, .cells #[.bool (decide (n < 0)), sl s (toL (n.natAbs)).length] 25 (0, 0))]) k_ ?_
  refine RN.fin k_ ?_
  refine J.seq ?_
  refine J.sreg ?_
  refine RN.bq [none, some 1] [4, 6, 9, 38] [b26] 2 [(4, pt b5), (6, pt b23), (9, pt b26), (38, sl y25.1 (toL ((d / ((Nat.gcd (n.natAbs) (d.natAbs) : Nat) : Int)).natAbs)).length)] k_ ?_
  refine RN.call (r03_one y25.1 (toL ((d / ((Nat.gcd (n.natAbs) (d.natAbs) : Nat) : Int)).natAbs))) [0] k_ k_ k_ rfl (fun y28 _ => ?_)
  refine RN.fin k_ ?_
  refine J.cond (decide ((toL ((d / ((Nat.gcd (n.natAbs) (d.natAbs) : Nat) : Int)).natAbs)) = [1])) k_ (fun c29 => ?_) (fun c29 => ?_)
  ·replace c29 := of_decide_eq_true c29
   have ho := toL_eq1.1 c29
   refine J.regN ?_
   refine RN.bs [none, some 1] [4, 6, 9] [b26] 2 [(4, pt b5), (6, pt b23), (9, pt b26)] ([(b27, .cells #[.bool (decide ((if ((Nat.gcd (n.natAbs) (d.natAbs) : Nat) : Int) = 0 then 0 else d % ((Nat.gcd (n.natAbs) (d.natAbs) : Nat) : Int)) < 0)), sl y25.2 (toL ((if ((Nat.gcd (n.natAbs) (d.natAbs) : Nat) : Int) = 0 then 0 else d % ((Nat.gcd (n.natAbs) (d.natAbs) : Nat) : Int)).natAbs)).length] 25 (0, 0)), (b26, .cells #[.bool (decide ((d / ((Nat.gcd (n.natAbs) (d.natAbs) : Nat) : Int)) < 0)), sl saNil ([] : List Nat).length] 25 (0, 0)), (b24, .cells #[.bool (decide ((if ((Nat.gcd (n.natAbs) (d.natAbs) : Nat) : Int) = 0 then 0 else n % ((Nat.gcd (n.natAbs) (d.natAbs) : Nat) : Int)) < 0)), sl y22.2 (toL ((if ((Nat.gcd (n.natAbs) (d.natAbs) : Nat) : Int) = 0 then 0 else n % ((Nat.gcd (n.natAbs) (d.natAbs) : Nat) : Int)).natAbs)).length] 25 (0, 0)), (b23, .cells #[.bool (decide ((n / ((Nat.gcd (n.natAbs) (d.natAbs) : Nat) : Int)) < 0)), sl y22.1 (toL ((n / ((Nat.gcd (n.natAbs) (d.natAbs) : Nat) : Int)).natAbs)).length] 25 (0, 0)), (b21, .cells #[.bool false, sl y20 (toL (Nat.gcd (n.natAbs) (d.natAbs))).length] 25 (0, 0)), (b5, .cells (ratC (⟨saNil, saNil⟩ : RA) (⟨false, ([] : List Nat), ([] : List Nat)⟩ : Raw)) 27 (0, 0)), (b4, .cells #[.bool (decide (d < 0)), sl t (toL (d.natAbs)).length] 25 (0, 0)), (b3, .cells #[.bool (decide (n < 0)), sl s (toL (n.natAbs)).length] 25 (0, 0))]) k_ ?_
   refine RN.fs k_ ?_
   refine RN.bs [some 3, none, some 1, none, some 5] [4] [b5, b5, b5, b26, b23, b23] 5 [(4, pt b5)] ([(b27, .cells #[.bool (decide ((if ((Nat.gcd (n.natAbs) (d.natAbs) : Nat) : Int) = 0 then 0 else d % ((Nat.gcd (n.natAbs) (d.natAbs) : Nat) : Int)) < 0)), sl y25.2 (toL ((if ((Nat.gcd (n.natAbs) (d.natAbs) : Nat) : Int) = 0 then 0 else d % ((Nat.gcd (n.natAbs) (d.natAbs) : Nat) : Int)).natAbs)).length] 25 (0, 0)), (b26, .cells #[.bool (decide ((d / ((Nat.gcd (n.natAbs) (d.natAbs) : Nat) : Int)) < 0)), sl saNil ([] : List Nat).length] 25 (0, 0)), (b24, .cells #[.bool (decide ((if ((Nat.gcd (n.natAbs) (d.natAbs) : Nat) : Int) = 0 then 0 else n % ((Nat.gcd (n.natAbs) (d.natAbs) : Nat) : Int)) < 0)), sl y22.2 (toL ((if ((Nat.gcd (n.natAbs) (d.natAbs) : Nat) : Int) = 0 then 0 else n % ((Nat.gcd (n.natAbs) (d.natAbs) : Nat) : Int)).natAbs)).length] 25 (0, 0)), (b23, .cells #[.bool (decide ((n / ((Nat.gcd (n.natAbs) (d.natAbs) : Nat) : Int)) < 0)), sl y22.1 (toL ((n / ((Nat.gcd (n.natAbs) (d.natAbs) : Nat) : Int)).natAbs)).length] 25 (0, 0)), (b21, .cells #[.bool false, sl y20 (toL (Nat.gcd (n.natAbs) (d.natAbs))).length] 25 (0, 0)), (b5, .cells (ratC (⟨y22.1, saNil⟩ : RA) (⟨decide ((n / ((Nat.gcd (n.natAbs) (d.natAbs) : Nat) : Int)) < 0), toL ((n / ((Nat.gcd (n.natAbs) (d.natAbs) : Nat) : Int)).natAbs), ([] : List Nat)⟩ : Raw)) 27 (0, 0)), (b4, .cells #[.bool (decide (d < 0)), sl t (toL (d.natAbs)).length] 25 (0, 0)), (b3, .cells #[.bool (decide (n < 0)), sl s (toL (n.natAbs)).length] 25 (0, 0))]) k_ ?_
   refine RN.fin k_ ?_
   have e_1 : (encQ (((n : Int) : Rat) / ((d : Int) : Rat))) = (⟨decide ((n / ((Nat.gcd (n.natAbs) (d.natAbs) : Nat) : Int)) < 0), toL ((n / ((Nat.gcd (n.natAbs) (d.natAbs) : Nat) : Int)).natAbs), ([] : List Nat)⟩ : Raw) := by rw [over_pos hs, ho, toD_one]
   have e_2 : (toL (((((n : Int) : Rat) / ((d : Int) : Rat)).num).natAbs)) = (toL ((n / ((Nat.gcd (n.natAbs) (d.natAbs) : Nat) : Int)).natAbs)) := congrArg Raw.mag e_1
   have e_3 : (toD ((((n : Int) : Rat) / ((d : Int) : Rat)).den)) = ([] : List Nat) := congrArg Raw.den e_1
   refine J.also (fRat (⟨y22.1, saNil⟩ : RA) (⟨decide ((n / ((Nat.gcd (n.natAbs) (d.natAbs) : Nat) : Int)) < 0), toL ((n / ((Nat.gcd (n.natAbs) (d.natAbs) : Nat) : Int)).natAbs), ([] : List Nat)⟩ : Raw)) (fun w h => ⟨(h _ (.tail _ ((.tail _ ((.head _)))))), fU_nil w⟩) ?_
   refine J.ret (KR.ret (v := ratV (⟨y22.1, saNil⟩ : RA) (⟨decide ((n / ((Nat.gcd (n.natAbs) (d.natAbs) : Nat) : Int)) < 0), toL ((n / ((Nat.gcd (n.natAbs) (d.natAbs) : Nat) : Int)).natAbs), ([] : List Nat)⟩ : Raw)) (⟨y22.1, saNil⟩) [some 5] [0] [b5, b5, b5] k_ (by first | rfl | (rw [e_1]; done) | (simp only [e_1]; done) | (rw [e_2, e_3]; done) | (rw [e_1, e_2, e_3]; rfl) | (simp only [e_1, e_2, e_3]; done) | (simp only [e_1, e_2, e_3]; rfl)) (trivial) (by first | rfl | (rw [e_1]; done) | (simp only [e_1]; done) | (rw [e_2, e_3]; done) | (rw [e_1, e_2, e_3]; rfl) | (simp only [e_1, e_2, e_3]; done) | (simp only [e_1, e_2, e_3]; rfl)))
  ·replace c29 := of_decide_eq_false c29
   have ho := mt toL_eq1.2 c29
   refine J.skip ?_
   refine KN.next ?_
   refine J.sreg ?_
   refine RN.bs [some 3, none, some 1, none, some 5] [4] [b5, b5, b5, b26, b23, b23] 5 [(4, pt b5)] ([(b27, .cells #[.bool (decide ((if ((Nat.gcd (n.natAbs) (d.natAbs) : Nat) : Int) = 0 then 0 else d % ((Nat.gcd (n.natAbs) (d.natAbs) : Nat) : Int)) < 0)), sl y25.2 (toL ((if ((Nat.gcd (n.natAbs) (d.natAbs) : Nat) : Int) = 0 then 0 else d % ((Nat.gcd (n.natAbs) (d.natAbs) : Nat) : Int)).natAbs)).length] 25 (0, 0)), (b26, .cells #[.bool (decide ((d / ((Nat.gcd (n.natAbs) (d.natAbs) : Nat) : Int)) < 0)), sl y25.1 (toL ((d / ((Nat.gcd (n.natAbs) (d.natAbs) : Nat) : Int)).natAbs)).length] 25 (0, 0)), (b24, .cells #[.bool (decide ((if ((Nat.gcd (n.natAbs) (d.natAbs) : Nat) : Int) = 0 then 0 else n % ((Nat.gcd (n.natAbs) (d.natAbs) : Nat) : Int)) < 0)), sl y22.2 (toL ((if ((Nat.gcd (n.natAbs) (d.natAbs) : Nat) : Int) = 0 then 0 else n % ((Nat.gcd (n.natAbs) (d.natAbs) : Nat) : Int)).natAbs)).length] 25 (0, 0)), (b23, .cells #[.bool (decide ((n / ((Nat.gcd (n.natAbs) (d.natAbs) : Nat) : Int)) < 0)), sl y22.1 (toL ((n / ((Nat.gcd (n.natAbs) (d.natAbs) : Nat) : Int)).natAbs)).length] 25 (0, 0)), (b21, .cells #[.bool false, sl y20 (toL (Nat.gcd (n.natAbs) (d.natAbs))).length] 25 (0, 0)), (b5, .cells (ratC (⟨y22.1, y25.1⟩ : RA) (⟨decide ((n / ((Nat.gcd (n.natAbs) (d.natAbs) : Nat) : Int)) < 0), toL ((n / ((Nat.gcd (n.natAbs) (d.natAbs) : Nat) : Int)).natAbs), toL ((d / ((Nat.gcd (n.natAbs) (d.natAbs) : Nat) : Int)).natAbs)⟩ : Raw)) 27 (0, 0)), (b4, .cells #[.bool (decide (d < 0)), sl t (toL (d.natAbs)).length] 25 (0, 0)), (b3, .cells #[.bool (decide (n < 0)), sl s (toL (n.natAbs)).length] 25 (0, 0))]) k_ ?_
   refine RN.fin k_ ?_
   have e_1 : (encQ (((n : Int) : Rat) / ((d : Int) : Rat))) = (⟨decide ((n / ((Nat.gcd (n.natAbs) (d.natAbs) : Nat) : Int)) < 0), toL ((n / ((Nat.gcd (n.natAbs) (d.natAbs) : Nat) : Int)).natAbs), toL ((d / ((Nat.gcd (n.natAbs) (d.natAbs) : Nat) : Int)).natAbs)⟩ : Raw) := by rw [over_pos hs, toD_ne ho]
   have e_2 : (toL (((((n : Int) : Rat) / ((d : Int) : Rat)).num).natAbs)) = (toL ((n / ((Nat.gcd (n.natAbs) (d.natAbs) : Nat) : Int)).natAbs)) := congrArg Raw.mag e_1
   have e_3 : (toD ((((n : Int) : Rat) / ((d : Int) : Rat)).den)) = (toL ((d / ((Nat.gcd (n.natAbs) (d.natAbs) : Nat) : Int)).natAbs)) := congrArg Raw.den e_1
   refine J.also (fRat (⟨y22.1, y25.1⟩ : RA) (⟨decide ((n / ((Nat.gcd (n.natAbs) (d.natAbs) : Nat) : Int)) < 0), toL ((n / ((Nat.gcd (n.natAbs) (d.natAbs) : Nat) : Int)).natAbs), toL ((d / ((Nat.gcd (n.natAbs) (d.natAbs) : Nat) : Int)).natAbs)⟩ : Raw)) (fun w h => ⟨(h _ (.tail _ ((.tail _ ((.head _)))))), (h _ (.head _))⟩) ?_
   refine J.ret (KR.ret (v := ratV (⟨y22.1, y25.1⟩ : RA) (⟨decide ((n / ((Nat.gcd (n.natAbs) (d.natAbs) : Nat) : Int)) < 0), toL ((n / ((Nat.gcd (n.natAbs) (d.natAbs) : Nat) : Int)).natAbs), toL ((d / ((Nat.gcd (n.natAbs) (d.natAbs) : Nat) : Int)).natAbs)⟩ : Raw)) (⟨y22.1, y25.1⟩) [some 5] [0] [b5, b5, b5] k_ (by first | rfl | (rw [e_1]; done) | (simp only [e_1]; done) | (rw [e_2, e_3]; done) | (rw [e_1, e_2, e_3]; rfl) | (simp only [e_1, e_2, e_3]; done) | (simp only [e_1, e_2, e_3]; rfl)) (trivial) (by first | rfl | (rw [e_1]; done) | (simp only [e_1]; done) | (rw [e_2, e_3]; done) | (rw [e_1, e_2, e_3]; rfl) | (simp only [e_1, e_2, e_3]; done) | (simp only [e_1, e_2, e_3]; rfl)))
end Go.Proofs.YtegnonhgildhoaaGreat.E
namespace Go.Proofs.YtegnonhgildhoaaGreat.E
open Go Go.RowKit
set_option linter.unusedVariables false
set_option linter.unusedSimpArgs false
theorem fRat_zero : ∀ w, fRat ⟨saNil, saNil⟩ (encQ 0) w := by rw [encQ_zero]; exact fun w => ⟨fU_nil w, fU_nil w⟩
theorem num0 : toL (Rat.num 0).natAbs = [] := toL_zero
theorem zneg0 : decide (Rat.num 0 < 0) = false := by decide
theorem zden0 : toD (Rat.den 0) = [] := rfl
theorem add_parts (x y : Rat) : (((x.num * ((y.den : Nat) : Int) + y.num * ((x.den : Nat) : Int) : Int)) : Rat) / ((((x.den : Nat) : Int) * ((y.den : Nat) : Int) : Int) : Rat) = x + y := by
  rw [Rat.add_def', Rat.mkRat_eq_div]; rfl
theorem mul_parts (x y : Rat) : ((x.num * y.num : Int) : Rat) / ((((x.den : Nat) : Int) * ((y.den : Nat) : Int) : Int) : Rat) = x * y := by
  rw [Rat.mul_def', Rat.mkRat_eq_div]; rfl
theorem den_mul_ne' (x y : Rat) : ((x.den : Nat) : Int) * ((y.den : Nat) : Int) ≠ 0 := by
  have h1 := x.den_nz; have h2 := y.den_nz
  exact Int.mul_ne_zero (by omega) (by omega)
theorem num_lt0 {q : Rat} : q.num < 0 ↔ q < 0 := by
  have := Rat.num_nonneg (q := q)
  rw [← Rat.not_le, ← this]; omega
theorem sign_lt {q : Rat} : Int.sign q.num < 0 ↔ q < 0 := by
  rw [← num_lt0]; exact ⟨sign_lt0, fun h => by rw [Int.sign_eq_neg_one_of_neg h]; decide⟩
theorem sub_lt0 {x y : Rat} : x - y < 0 ↔ x < y := by
  rw [← Rat.not_le, ← Rat.le_iff_sub_nonneg, Rat.not_le]
theorem sub_sign_lt {x y : Rat} : Int.sign (x - y).num < 0 ↔ x < y := by rw [sign_lt, sub_lt0]
def absQ (q : Rat) : Rat := if q < 0 then -q else q
def minQ (x y : Rat) : Rat := if y < x then y else x
def maxQ (x y : Rat) : Rat := if x < y then y else x
theorem r03_FromInt (v : Int) (h1 : -9223372036854775808 ≤ v) (h2 : v < 9223372036854775808) : Spec Tryz.prog 20 #[.int .i64 v] [] (ι := RA) (fun y => ratV y (encQ ((v : Int) : Rat))) (fun y => True) (fun y => [fRat y (encQ ((v : Int) : Rat))]) := by
 refine Spec.of_body _ (fn := Tryz.f20) k_ rfl k_ (fun X w0 => ?_)
 refine J.sreg ?_
 refine RN.new (fun b => pt b) (.cells (ratC (⟨saNil, saNil⟩ : RA) (⟨false, ([] : List Nat), ([] : List Nat)⟩ : Raw)) 27 (0, 0)) k_ k_ (fun w => by kernel_rfl) (fun b1 => ?_)
 refine RN.fs k_ ?_
 refine RN.bq (no 1) [2, 3] [] 1 [(2, pt b1), (3, .int .i64 v)] k_ ?_
 refine RN.call (r02_FromInt v y_ y_) [] k_ k_ k_ rfl (fun y2 _ => ?_)
 refine RN.bs [none, some 0] [2] [b1, b1, b1] 4 [(2, pt b1)] ([(b1, .cells (ratC (⟨y2, saNil⟩ : RA) (⟨decide (v < 0), toL (v.natAbs), ([] : List Nat)⟩ : Raw)) 27 (0, 0))]) k_ ?_
 refine RN.fin k_ ?_
 have e_1 : (encQ ((v : Int) : Rat)) = (⟨decide (v < 0), toL (v.natAbs), ([] : List Nat)⟩ : Raw) := by rfl
 have e_2 : (toL ((((v : Int) : Rat).num).natAbs)) = (toL (v.natAbs)) := congrArg Raw.mag e_1
 have e_3 : (toD (((v : Int) : Rat).den)) = ([] : List Nat) := congrArg Raw.den e_1
 refine J.also (fRat (⟨y2, saNil⟩ : RA) (⟨decide (v < 0), toL (v.natAbs), ([] : List Nat)⟩ : Raw)) (fun w h => ⟨(h _ (.head _)), fU_nil w⟩) ?_
 refine J.ret (KR.ret (v := ratV (⟨y2, saNil⟩ : RA) (⟨decide (v < 0), toL (v.natAbs), ([] : List Nat)⟩ : Raw)) (⟨y2, saNil⟩) [some 0] [0] [b1, b1, b1] k_ (by first | rfl | (rw [e_1]; done) | (simp only [e_1]; done) | (rw [e_2, e_3]; done) | (rw [e_1, e_2, e_3]; rfl) | (simp only [e_1, e_2, e_3]; done) | (simp only [e_1, e_2, e_3]; rfl)) (trivial) (by first | rfl | (rw [e_1]; done) | (simp only [e_1]; done) | (rw [e_2, e_3]; done) | (rw [e_1, e_2, e_3]; rfl) | (simp only [e_1, e_2, e_3]; done) | (simp only [e_1, e_2, e_3]; rfl)))
theorem r03_Sign (p : RA) (r : Raw) (hr : RQ 268435456 r) : Spec Tryz.prog 31 #[ratV p r] [fRat p r] (ι := Unit) (fun y => .int .i64 (Int.sign ((qv r).num))) (fun y => True) (fun y => []) := by
 refine Spec.of_body _ (fn := Tryz.f31) k_ rfl k_ (fun X w0 => ?_)
 refine J.fact (φ := r.mag.length ≤ 140737488355328 ∧ r.den.length ≤ 140737488355328) (fun w h => by have h1 := (h _ (.head _)).1.1; have h2 := (h _ (.head _)).2.1; omega) (fun hl1 => ?_)
 have hq1 := hr.2.2.2.2.1
 refine J.sreg ?_
 refine RN.new (fun b => pt b) (.cells (ratC p r) 27 (0, 0)) k_ k_ (fun w => by kernel_rfl) (fun b2 => ?_)
 refine RN.bq (no 1) [1] [] 2 [(1, pt b2)] k_ ?_
 refine RN.fs k_ ?_
 refine RN.bq [some 0] [3] [b2, b2, b2] 1 [(3, ratV p r)] k_ ?_
 refine RN.call (r03_Take p r y_) [0] k_ k_ k_ rfl (fun y3 _ => ?_)
 refine RN.bq (no 1) [5] [] 3 [(5, intV y3.mag (encZ ((qv r).num)))] k_ ?_
 refine RN.also (fU y3.mag (toL (((qv r).num).natAbs))) (fun w h => (h _ (.head _)).1) ?_
 refine RN.call (r02_Sign_c y3.mag ((qv r).num) y_) [0] k_ k_ k_ rfl (fun y4 _ => ?_)
 refine RN.bq (no 1) [2] [] 5 [(2, .int .i64 (Int.sign ((qv r).num)))] k_ ?_
 refine RN.fin k_ ?_
 refine J.ret (KR.ret (v := .int .i64 (Int.sign ((qv r).num))) (()) [none] [] [] k_ rfl (trivial) rfl)
theorem r03_Sign_c (p : RA) (r' : Rat) (hr : Q 268435456 r') : Spec Tryz.prog 31 #[ratV p (encQ r')] [fRat p (encQ r')] (ι := Unit) (fun y => .int .i64 (Int.sign (r'.num))) (fun y => True) (fun y => []) := by
  have H := r03_Sign p (encQ r') (RQ_enc hr)
  first | exact H | (simp only [qv_encQ, validQ_encQ] at H; exact H)
theorem r03_Neg (p : RA) (r : Raw) (hr : RQ 268435456 r) : Spec Tryz.prog 72 #[ratV p r] [fRat p r] (ι := RA) (fun y => ratV y (encQ (-(qv r)))) (fun y => True) (fun y => [fRat y (encQ (-(qv r)))]) := by
 refine Spec.of_body _ (fn := Tryz.f72) k_ rfl k_ (fun X w0 => ?_)
 refine J.fact (φ := r.mag.length ≤ 140737488355328 ∧ r.den.length ≤ 140737488355328) (fun w h => by have h1 := (h _ (.head _)).1.1; have h2 := (h _ (.head _)).2.1; omega) (fun hl1 => ?_)
 have hq1 := hr.2.2.2.2.1
 refine J.sreg ?_
 refine RN.new (fun b => pt b) (.cells (ratC p r) 27 (0, 0)) k_ k_ (fun w => by kernel_rfl) (fun b2 => ?_)
 refine RN.new (fun b => pt b) (.cells (ratC (⟨saNil, saNil⟩ : RA) (⟨false, ([] : List Nat), ([] : List Nat)⟩ : Raw)) 27 (0, 0)) k_ k_ (fun w => by kernel_rfl) (fun b3 => ?_)
 refine RN.fs k_ ?_
 refine RN.bq [some 1] [1, 2, 3] [b2, b2, b2] 1 [(1, pt b2), (2, pt b3), (3, ratV p r)] k_ ?_
 refine RN.call (r03_Take p r y_) [0] k_ k_ k_ rfl (fun y4 _ => ?_)
 refine RN.bs [some 1] [1, 2] [b2, b2, b2] 3 [(1, pt b2), (2, pt b3)] ([(b3, .cells (ratC (⟨saNil, saNil⟩ : RA) (⟨false, ([] : List Nat), ([] : List Nat)⟩ : Raw)) 27 (0, 0)), (b2, .cells (ratC y4 (encQ (qv r))) 27 (0, 0))]) k_ ?_
 refine RN.fin k_ ?_
 refine J.seq ?_
 refine J.regD k_ [6] ?_
 refine RD.bq [(0, none), (1, some 1), (3, none), (4, some 1)] [2, 6, 9] [b2, b2, b2] [(2, pt b3), (6, intV y4.mag (encZ ((qv r).num))), (9, sl (y4.den) (toD ((qv r).den)).length)] k_ k_ ?_
 refine RD.also (fU y4.mag (toL (((qv r).num).natAbs))) (fun w h => (h _ (.head _)).1) k_ ?_
 refine RD.call (i := 2) (r02_Neg_c y4.mag ((qv r).num) y_) [0] k_ k_ k_ k_ k_ rfl (fun y5 _ => ?_)
 refine RD.bq (nl [5]) [2, 10] [] [(2, pt b3), (10, ratV (⟨y5, y4.den⟩ : RA) (⟨decide ((-((qv r).num)) < 0), toL ((-((qv r).num)).natAbs), toD ((qv r).den)⟩ : Raw))] k_ k_ ?_
 refine RD.last (i := 6) (some 0) [2] [b3, b3, b3] k_ k_ k_ (l' := [(2, pt b3)]) (M' := [(b3, .cells (ratC (⟨y5, y4.den⟩ : RA) (⟨decide ((-((qv r).num)) < 0), toL ((-((qv r).num)).natAbs), toD ((qv r).den)⟩ : Raw)) 27 (0, 0)), (b2, .cells (ratC y4 (encQ (qv r))) 27 (0, 0))]) k_ ?_
 refine RD.done k_ ?_
 refine KN.next ?_
 have e_1 : (encQ (-(qv r))) = (⟨decide ((-((qv r).num)) < 0), toL ((-((qv r).num)).natAbs), toD ((qv r).den)⟩ : Raw) := by rw [encQ_neg]
 have e_2 : (toL (((-(qv r)).num).natAbs)) = (toL ((-((qv r).num)).natAbs)) := congrArg Raw.mag e_1
 have e_3 : (toD ((-(qv r)).den)) = (toD ((qv r).den)) := congrArg Raw.den e_1
 refine J.also (fRat (⟨y5, y4.den⟩ : RA) (⟨decide ((-((qv r).num)) < 0), toL ((-((qv r).num)).natAbs), toD ((qv r).den)⟩ : Raw)) (fun w h => ⟨(h _ (.head _)), (h _ (.tail _ ((.tail _ ((.head _)))))).2⟩) ?_
 refine J.ret (KR.ret (v := ratV (⟨y5, y4.den⟩ : RA) (⟨decide ((-((qv r).num)) < 0), toL ((-((qv r).num)).natAbs), toD ((qv r).den)⟩ : Raw)) (⟨y5, y4.den⟩) [some 0] [0] [b3, b3, b3] k_ (by first | rfl | (rw [e_1]; done) | (simp only [e_1]; done) | (rw [e_2, e_3]; done) | (rw [e_1, e_2, e_3]; rfl) | (simp only [e_1, e_2, e_3]; done) | (simp only [e_1, e_2, e_3]; rfl)) (trivial) (by first | rfl | (rw [e_1]; done) | (simp only [e_1]; done) | (rw [e_2, e_3]; done) | (rw [e_1, e_2, e_3]; rfl) | (simp only [e_1, e_2, e_3]; done) | (simp only [e_1, e_2, e_3]; rfl)))
theorem y_r03_Add {p : Prop} (h : p := by first | assumption | exact Lb_toL _ | omega | (simp; done) | first | exact den_mul_ne' _ _ | exact Q.le ‹_› (by decide) | (simp; done) | (simp; omega) | (rw [Int.natAbs_natCast]; omega)) : p := h
theorem r03_Add (p : RA) (r : Raw) (u : RA) (t : Raw) (hr : RQ 268435456 r) (ht : RQ 268435456 t) : Spec Tryz.prog 25 #[ratV p r, ratV u t] [fRat p r, fRat u t] (ι := RA) (fun y => ratV y (encQ ((qv r) + (qv t)))) (fun y => True) (fun y => [fRat y (encQ ((qv r) + (qv t)))]) := by
 refine Spec.of_body _ (fn := Tryz.f25) k_ rfl k_ (fun X w0 => ?_)
 refine J.fact (φ := r.mag.length ≤ 140737488355328 ∧ r.den.length ≤ 140737488355328) (fun w h => by have h1 := (h _ (.head _)).1.1; have h2 := (h _ (.head _)).2.1; omega) (fun hl1 => ?_)
 refine J.fact (φ := t.mag.length ≤ 140737488355328 ∧ t.den.length ≤ 140737488355328) (fun w h => by have h1 := (h _ (.tail _ ((.head _)))).1.1; have h2 := (h _ (.tail _ ((.head _)))).2.1; omega) (fun hl2 => ?_)
 have hq := hr.2.2.2.2
 have hu := ht.2.2.2.2
 have hq1 := hq.1
 have hq2 := hq.2
 have hu1 := hu.1
 have hu2 := hu.2
 have hqb := hq.le (by decide : 268435456 ≤ 1099511627776)
 have hub := hu.le (by decide : 268435456 ≤ 1099511627776)
 have z1 := zlen_mulN (qv r).num (qv t).den
 have z2 := zlen_mulN (qv t).num (qv r).den
 have z3 := zlen_mulN ((qv r).den : Int) (qv t).den
 have z4 := zlen_add (k := 1073741824) (by omega : (toL ((qv r).num * ((qv t).den : Int)).natAbs).length ≤ 1073741824) (by omega : (toL ((qv t).num * ((qv r).den : Int)).natAbs).length ≤ 1073741824)
 have z5 := zlen_mul (qv r).num (qv t).num
 have z6 := zlen_mul ((qv r).den : Int) (qv t).num
 rw [Int.natAbs_natCast] at z3 z6
 refine J.sreg ?_
 refine RN.new (fun b => pt b) (.cells (ratC p r) 27 (0, 0)) k_ k_ (fun w => by kernel_rfl) (fun b3 => ?_)
 refine RN.new (fun b => pt b) (.cells (ratC u t) 27 (0, 0)) k_ k_ (fun w => by kernel_rfl) (fun b4 => ?_)
 refine RN.new (fun b => pt b) (.cells (ratC (⟨saNil, saNil⟩ : RA) (⟨false, ([] : List Nat), ([] : List Nat)⟩ : Raw)) 27 (0, 0)) k_ k_ (fun w => by kernel_rfl) (fun b5 => ?_)
 refine RN.fin k_ ?_
 refine J.seq ?_
 refine J.regD k_ [4, 5] ?_
 refine RD.bq [(0, some 2), (2, some 1)] [2, 3, 4, 5, 7] [b4, b4, b4, b3, b3, b3] [(2, pt b3), (3, pt b4), (4, pt b5), (5, ratV p r), (7, ratV u t)] k_ k_ ?_
 refine RD.call (i := 1) (r03_Take p r y_r03_Add) [0] k_ k_ k_ k_ k_ rfl (fun y6 _ => ?_)
 refine RD.call (i := 3) (r03_Take u t y_r03_Add) [2] k_ k_ k_ k_ k_ rfl (fun y7 _ => ?_)
 refine RD.last (i := 4) (some 2) [2, 3, 4, 8] [b3, b3, b3] k_ k_ k_ (l' := [(2, pt b3), (3, pt b4), (4, pt b5), (8, ratV y7 (encQ (qv t)))]) (M' := [(b5, .cells (ratC (⟨saNil, saNil⟩ : RA) (⟨false, ([] : List Nat), ([] : List Nat)⟩ : Raw)) 27 (0, 0)), (b4, .cells (ratC u t) 27 (0, 0)), (b3, .cells (ratC y6 (encQ (qv r))) 27 (0, 0))]) k_ ?_
 refine RD.last (i := 5) (some 1) [2, 3, 4] [b4, b4, b4] k_ k_ k_ (l' := [(2, pt b3), (3, pt b4), (4, pt b5)]) (M' := [(b5, .cells (ratC (⟨saNil, saNil⟩ : RA) (⟨false, ([] : List Nat), ([] : List Nat)⟩ : Raw)) 27 (0, 0)), (b4, .cells (ratC y7 (encQ (qv t))) 27 (0, 0)), (b3, .cells (ratC y6 (encQ (qv r))) 27 (0, 0))]) k_ ?_
 refine RD.done k_ ?_
 refine KN.next ?_
 refine J.seq ?_
 refine J.regD k_ [17] ?_
 refine RD.bq [(0, none), (1, some 2), (2, some 1), (5, none), (6, some 1), (7, some 2), (11, some 2), (13, some 1)] [4, 10, 11, 15, 16, 20, 22] [b4, b4, b4, b3, b3, b3, b3, b3, b3, b4, b4, b4, b4, b4, b3, b3] [(4, pt b5), (10, intV y6.mag (encZ ((qv r).num))), (11, ratV y7 (encQ (qv t))), (15, intV y7.mag (encZ ((qv t).num))), (16, ratV y6 (encQ (qv r))), (20, ratV y6 (encQ (qv r))), (22, ratV y7 (encQ (qv t)))] k_ k_ ?_
 refine RD.call (i := 3) (r03_Den y7 (qv t) y_r03_Add) [0] k_ k_ k_ k_ k_ rfl (fun y8 _ => ?_)
 refine RD.also (fU y6.mag (toL (((qv r).num).natAbs))) (fun w h => (h _ (.tail _ ((.tail _ ((.head _)))))).1) k_ ?_
 refine RD.call (i := 4) (r02_Mul_c y6.mag ((qv r).num) y8 (((qv t).den : Nat) : Int) y_r03_Add y_r03_Add) [0, 1] k_ k_ k_ k_ k_ rfl (fun y9 _ => ?_)
 refine RD.call (i := 8) (r03_Den y6 (qv r) y_r03_Add) [4] k_ k_ k_ k_ k_ rfl (fun y10 _ => ?_)
 refine RD.also (fU y7.mag (toL (((qv t).num).natAbs))) (fun w h => (h _ (.tail _ ((.tail _ ((.tail _ ((.tail _ ((.head _)))))))))).1) k_ ?_
 refine RD.call (i := 9) (r02_Mul_c y7.mag ((qv t).num) y10 (((qv r).den : Nat) : Int) y_r03_Add y_r03_Add) [0, 1] k_ k_ k_ k_ k_ rfl (fun y11 _ => ?_)
 refine RD.call (i := 10) (r02_Add_c y9 (((qv r).num) * (((qv t).den : Nat) : Int)) y11 (((qv t).num) * (((qv r).den : Nat) : Int)) y_r03_Add y_r03_Add) [3, 0] k_ k_ k_ k_ k_ rfl (fun y12 _ => ?_)
 refine RD.call (i := 12) (r03_Den y6 (qv r) y_r03_Add) [8] k_ k_ k_ k_ k_ rfl (fun y13 _ => ?_)
 refine RD.call (i := 14) (r03_Den y7 (qv t) y_r03_Add) [8] k_ k_ k_ k_ k_ rfl (fun y14 _ => ?_)
 refine RD.call (i := 15) (r02_Mul_c y13 (((qv r).den : Nat) : Int) y14 (((qv t).den : Nat) : Int) y_r03_Add y_r03_Add) [1, 0] k_ k_ k_ k_ k_ rfl (fun y15 _ => ?_)
 refine RD.call (i := 16) (r03_over y12 ((((qv r).num) * (((qv t).den : Nat) : Int)) + (((qv t).num) * (((qv r).den : Nat) : Int))) y15 ((((qv r).den : Nat) : Int) * (((qv t).den : Nat) : Int)) y_r03_Add y_r03_Add y_r03_Add) [3, 0] k_ k_ k_ k_ k_ rfl (fun y16 _ => ?_)
 refine RD.last (i := 17) (some 0) [4] [b5, b5, b5] k_ k_ k_ (l' := [(4, pt b5)]) (M' := [(b5, .cells (ratC y16 (encQ (((((((qv r).num) * (((qv t).den : Nat) : Int)) + (((qv t).num) * (((qv r).den : Nat) : Int))) : Int) : Rat) / ((((((qv r).den : Nat) : Int) * (((qv t).den : Nat) : Int)) : Int) : Rat)))) 27 (0, 0)), (b4, .cells (ratC y7 (encQ (qv t))) 27 (0, 0)), (b3, .cells (ratC y6 (encQ (qv r))) 27 (0, 0))]) k_ ?_
 refine RD.done k_ ?_
 refine KN.next ?_
 have e_1 : (encQ ((qv r) + (qv t))) = (encQ (((((((qv r).num) * (((qv t).den : Nat) : Int)) + (((qv t).num) * (((qv r).den : Nat) : Int))) : Int) : Rat) / ((((((qv r).den : Nat) : Int) * (((qv t).den : Nat) : Int)) : Int) : Rat))) := by rw [add_parts]
 refine J.ret (KR.ret (v := ratV y16 (encQ (((((((qv r).num) * (((qv t).den : Nat) : Int)) + (((qv t).num) * (((qv r).den : Nat) : Int))) : Int) : Rat) / ((((((qv r).den : Nat) : Int) * (((qv t).den : Nat) : Int)) : Int) : Rat)))) (y16) [some 0] [0] [b5, b5, b5] k_ v1_ (trivial) v1_)
theorem r03_Add_c (p : RA) (r' : Rat) (u : RA) (t' : Rat) (hr : Q 268435456 r') (ht : Q 268435456 t') : Spec Tryz.prog 25 #[ratV p (encQ r'), ratV u (encQ t')] [fRat p (encQ r'), fRat u (encQ t')] (ι := RA) (fun y => ratV y (encQ (r' + t'))) (fun y => True) (fun y => [fRat y (encQ (r' + t'))]) := by
  have H := r03_Add p (encQ r') u (encQ t') (RQ_enc hr) (RQ_enc ht)
  first | exact H | (simp only [qv_encQ, validQ_encQ] at H; exact H)
theorem r03_Add_c2 (p : RA) (r : Raw) (u : RA) (t' : Rat) (hr : RQ 268435456 r) (ht : Q 268435456 t') : Spec Tryz.prog 25 #[ratV p r, ratV u (encQ t')] [fRat p r, fRat u (encQ t')] (ι := RA) (fun y => ratV y (encQ ((qv r) + t'))) (fun y => True) (fun y => [fRat y (encQ ((qv r) + t'))]) := by
  have H := r03_Add p r u (encQ t') (by first | exact hr | simpa only [qv_encQ] using hr) (RQ_enc ht)
  first | exact H | (simp only [qv_encQ, validQ_encQ] at H; exact H)
theorem y_r03_Mul {p : Prop} (h : p := by first | assumption | exact Lb_toL _ | omega | (simp; done) | first | exact den_mul_ne' _ _ | exact Q.le ‹_› (by decide) | (simp; done) | (simp; omega) | (rw [Int.natAbs_natCast]; omega)) : p := h
theorem r03_Mul (p : RA) (r : Raw) (u : RA) (t : Raw) (hr : RQ 268435456 r) (ht : RQ 268435456 t) : Spec Tryz.prog 33 #[ratV p r, ratV u t] [fRat p r, fRat u t] (ι := RA) (fun y => ratV y (encQ ((qv r) * (qv t)))) (fun y => True) (fun y => [fRat y (encQ ((qv r) * (qv t)))]) := by
 refine Spec.of_body _ (fn := Tryz.f33) k_ rfl k_ (fun X w0 => ?_)
 refine J.fact (φ := r.mag.length ≤ 140737488355328 ∧ r.den.length ≤ 140737488355328) (fun w h => by have h1 := (h _ (.head _)).1.1; have h2 := (h _ (.head _)).2.1; omega) (fun hl1 => ?_)
 refine J.fact (φ := t.mag.length ≤ 140737488355328 ∧ t.den.length ≤ 140737488355328) (fun w h => by have h1 := (h _ (.tail _ ((.head _)))).1.1; have h2 := (h _ (.tail _ ((.head _)))).2.1; omega) (fun hl2 => ?_)
 have hq := hr.2.2.2.2
 have hu := ht.2.2.2.2
 have hq1 := hq.1
 have hq2 := hq.2
 have hu1 := hu.1
 have hu2 := hu.2
 have hqb := hq.le (by decide : 268435456 ≤ 1099511627776)
 have hub := hu.le (by decide : 268435456 ≤ 1099511627776)
 have z1 := zlen_mulN (qv r).num (qv t).den
 have z2 := zlen_mulN (qv t).num (qv r).den
 have z3 := zlen_mulN ((qv r).den : Int) (qv t).den
 have z4 := zlen_add (k := 1073741824) (by omega : (toL ((qv r).num * ((qv t).den : Int)).natAbs).length ≤ 1073741824) (by omega : (toL ((qv t).num * ((qv r).den : Int)).natAbs).length ≤ 1073741824)
 have z5 := zlen_mul (qv r).num (qv t).num
 have z6 := zlen_mul ((qv r).den : Int) (qv t).num
 rw [Int.natAbs_natCast] at z3 z6
 refine J.sreg ?_
 refine RN.new (fun b => pt b) (.cells (ratC p r) 27 (0, 0)) k_ k_ (fun w => by kernel_rfl) (fun b3 => ?_)
 refine RN.new (fun b => pt b) (.cells (ratC u t) 27 (0, 0)) k_ k_ (fun w => by kernel_rfl) (fun b4 => ?_)
 refine RN.new (fun b => pt b) (.cells (ratC (⟨saNil, saNil⟩ : RA) (⟨false, ([] : List Nat), ([] : List Nat)⟩ : Raw)) 27 (0, 0)) k_ k_ (fun w => by kernel_rfl) (fun b5 => ?_)
 refine RN.fin k_ ?_
 refine J.seq ?_
 refine J.regD k_ [4, 5] ?_
 refine RD.bq [(0, some 2), (2, some 1)] [2, 3, 4, 5, 7] [b4, b4, b4, b3, b3, b3] [(2, pt b3), (3, pt b4), (4, pt b5), (5, ratV p r), (7, ratV u t)] k_ k_ ?_
 refine RD.call (i := 1) (r03_Take p r y_r03_Mul) [0] k_ k_ k_ k_ k_ rfl (fun y6 _ => ?_)
 refine RD.call (i := 3) (r03_Take u t y_r03_Mul) [2] k_ k_ k_ k_ k_ rfl (fun y7 _ => ?_)
 refine RD.last (i := 4) (some 2) [2, 3, 4, 8] [b3, b3, b3] k_ k_ k_ (l' := [(2, pt b3), (3, pt b4), (4, pt b5), (8, ratV y7 (encQ (qv t)))]) (M' := [(b5, .cells (ratC (⟨saNil, saNil⟩ : RA) (⟨false, ([] : List Nat), ([] : List Nat)⟩ : Raw)) 27 (0, 0)), (b4, .cells (ratC u t) 27 (0, 0)), (b3, .cells (ratC y6 (encQ (qv r))) 27 (0, 0))]) k_ ?_
 refine RD.last (i := 5) (some 1) [2, 3, 4] [b4, b4, b4] k_ k_ k_ (l' := [(2, pt b3), (3, pt b4), (4, pt b5)]) (M' := [(b5, .cells (ratC (⟨saNil, saNil⟩ : RA) (⟨false, ([] : List Nat), ([] : List Nat)⟩ : Raw)) 27 (0, 0)), (b4, .cells (ratC y7 (encQ (qv t))) 27 (0, 0)), (b3, .cells (ratC y6 (encQ (qv r))) 27 (0, 0))]) k_ ?_
 refine RD.done k_ ?_
 refine KN.next ?_
 refine J.seq ?_
 refine J.regD k_ [11] ?_
 refine RD.bq [(0, none), (1, some 2), (2, none), (3, some 1), (5, some 2), (7, some 1)] [4, 10, 12, 14, 16] [b4, b4, b4, b3, b3, b3, b4, b4, b3, b3] [(4, pt b5), (10, intV y6.mag (encZ ((qv r).num))), (12, intV y7.mag (encZ ((qv t).num))), (14, ratV y6 (encQ (qv r))), (16, ratV y7 (encQ (qv t)))] k_ k_ ?_
 refine RD.also (fU y6.mag (toL (((qv r).num).natAbs))) (fun w h => (h _ (.tail _ ((.head _)))).1) k_ ?_
 refine RD.also (fU y7.mag (toL (((qv t).num).natAbs))) (fun w h => (h _ (.tail _ ((.head _)))).1) k_ ?_
 refine RD.call (i := 4) (r02_Mul_c y6.mag ((qv r).num) y7.mag ((qv t).num) y_r03_Mul y_r03_Mul) [1, 0] k_ k_ k_ k_ k_ rfl (fun y8 _ => ?_)
 refine RD.call (i := 6) (r03_Den y6 (qv r) y_r03_Mul) [4] k_ k_ k_ k_ k_ rfl (fun y9 _ => ?_)
 refine RD.call (i := 8) (r03_Den y7 (qv t) y_r03_Mul) [4] k_ k_ k_ k_ k_ rfl (fun y10 _ => ?_)
 refine RD.call (i := 9) (r02_Mul_c y9 (((qv r).den : Nat) : Int) y10 (((qv t).den : Nat) : Int) y_r03_Mul y_r03_Mul) [1, 0] k_ k_ k_ k_ k_ rfl (fun y11 _ => ?_)
 refine RD.call (i := 10) (r03_over y8 (((qv r).num) * ((qv t).num)) y11 ((((qv r).den : Nat) : Int) * (((qv t).den : Nat) : Int)) y_r03_Mul y_r03_Mul y_r03_Mul) [3, 0] k_ k_ k_ k_ k_ rfl (fun y12 _ => ?_)
 refine RD.last (i := 11) (some 0) [4] [b5, b5, b5] k_ k_ k_ (l' := [(4, pt b5)]) (M' := [(b5, .cells (ratC y12 (encQ ((((((qv r).num) * ((qv t).num)) : Int) : Rat) / ((((((qv r).den : Nat) : Int) * (((qv t).den : Nat) : Int)) : Int) : Rat)))) 27 (0, 0)), (b4, .cells (ratC y7 (encQ (qv t))) 27 (0, 0)), (b3, .cells (ratC y6 (encQ (qv r))) 27 (0, 0))]) k_ ?_
 refine RD.done k_ ?_
 refine KN.next ?_
 have e_1 : (encQ ((qv r) * (qv t))) = (encQ ((((((qv r).num) * ((qv t).num)) : Int) : Rat) / ((((((qv r).den : Nat) : Int) * (((qv t).den : Nat) : Int)) : Int) : Rat))) := by rw [mul_parts]
 refine J.ret (KR.ret (v := ratV y12 (encQ ((((((qv r).num) * ((qv t).num)) : Int) : Rat) / ((((((qv r).den : Nat) : Int) * (((qv t).den : Nat) : Int)) : Int) : Rat)))) (y12) [some 0] [0] [b5, b5, b5] k_ v1_ (trivial) v1_)
theorem r03_Mul_c (p : RA) (r' : Rat) (u : RA) (t' : Rat) (hr : Q 268435456 r') (ht : Q 268435456 t') : Spec Tryz.prog 33 #[ratV p (encQ r'), ratV u (encQ t')] [fRat p (encQ r'), fRat u (encQ t')] (ι := RA) (fun y => ratV y (encQ (r' * t'))) (fun y => True) (fun y => [fRat y (encQ (r' * t'))]) := by
  have H := r03_Mul p (encQ r') u (encQ t') (RQ_enc hr) (RQ_enc ht)
  first | exact H | (simp only [qv_encQ, validQ_encQ] at H; exact H)
theorem y_r03_Sub {p : Prop} (h : p := by first | assumption | exact Lb_toL _ | omega | (simp; done) | exact hu.neg) : p := h
theorem r03_Sub (p : RA) (r : Raw) (u : RA) (t : Raw) (hr : RQ 268435456 r) (ht : RQ 268435456 t) : Spec Tryz.prog 53 #[ratV p r, ratV u t] [fRat p r, fRat u t] (ι := RA) (fun y => ratV y (encQ ((qv r) - (qv t)))) (fun y => True) (fun y => [fRat y (encQ ((qv r) - (qv t)))]) := by
 refine Spec.of_body _ (fn := Tryz.f53) k_ rfl k_ (fun X w0 => ?_)
 refine J.fact (φ := r.mag.length ≤ 140737488355328 ∧ r.den.length ≤ 140737488355328) (fun w h => by have h1 := (h _ (.head _)).1.1; have h2 := (h _ (.head _)).2.1; omega) (fun hl1 => ?_)
 refine J.fact (φ := t.mag.length ≤ 140737488355328 ∧ t.den.length ≤ 140737488355328) (fun w h => by have h1 := (h _ (.tail _ ((.head _)))).1.1; have h2 := (h _ (.tail _ ((.head _)))).2.1; omega) (fun hl2 => ?_)
 have hq := hr.2.2.2.2
 have hu := ht.2.2.2.2
 have hq1 := hq.1
 have hq2 := hq.2
 have hu1 := hu.1
 have hu2 := hu.2
 have hqb := hq.le (by decide : 268435456 ≤ 1099511627776)
 have hub := hu.le (by decide : 268435456 ≤ 1099511627776)
 refine J.sreg ?_
 refine RN.new (fun b => pt b) (.cells (ratC p r) 27 (0, 0)) k_ k_ (fun w => by kernel_rfl) (fun b3 => ?_)
 refine RN.new (fun b => pt b) (.cells (ratC u t) 27 (0, 0)) k_ k_ (fun w => by kernel_rfl) (fun b4 => ?_)
 refine RN.new (fun b => pt b) (.cells (ratC (⟨saNil, saNil⟩ : RA) (⟨false, ([] : List Nat), ([] : List Nat)⟩ : Raw)) 27 (0, 0)) k_ k_ (fun w => by kernel_rfl) (fun b5 => ?_)
 refine RN.fin k_ ?_
 refine J.seq ?_
 refine J.regD k_ [4] ?_
 refine RD.bq [(0, some 2), (1, some 1)] [4, 5, 6] [b4, b4, b4, b3, b3, b3] [(4, pt b5), (5, ratV p r), (6, ratV u t)] k_ k_ ?_
 refine RD.call (i := 2) (r03_Neg u t y_r03_Sub) [1] k_ k_ k_ k_ k_ rfl (fun y6 _ => ?_)
 refine RD.call (i := 3) (r03_Add_c2 p r y6 (-(qv t)) y_r03_Sub y_r03_Sub) [1, 0] k_ k_ k_ k_ k_ rfl (fun y7 _ => ?_)
 refine RD.last (i := 4) (some 0) [4] [b5, b5, b5] k_ k_ k_ (l' := [(4, pt b5)]) (M' := [(b5, .cells (ratC y7 (encQ ((qv r) + (-(qv t))))) 27 (0, 0)), (b4, .cells (ratC u t) 27 (0, 0)), (b3, .cells (ratC p r) 27 (0, 0))]) k_ ?_
 refine RD.done k_ ?_
 refine KN.next ?_
 have e_1 : (encQ ((qv r) - (qv t))) = (encQ ((qv r) + (-(qv t)))) := by rw [Rat.sub_eq_add_neg]
 refine J.ret (KR.ret (v := ratV y7 (encQ ((qv r) + (-(qv t))))) (y7) [some 0] [0] [b5, b5, b5] k_ v1_ (trivial) v1_)
theorem r03_Same (p : RA) (r : Raw) (u : RA) (t : Raw) : Spec Tryz.prog 15 #[ratV p r, ratV u t] [fRat p r, fRat u t] (ι := Unit) (fun y => .bool (decide (r = t))) (fun y => True) (fun y => []) := by
 refine Spec.of_body _ (fn := Tryz.f15) k_ rfl k_ (fun X w0 => ?_)
 refine J.fact (φ := r.mag.length ≤ 140737488355328 ∧ r.den.length ≤ 140737488355328) (fun w h => by have h1 := (h _ (.head _)).1.1; have h2 := (h _ (.head _)).2.1; omega) (fun hl1 => ?_)
 refine J.fact (φ := t.mag.length ≤ 140737488355328 ∧ t.den.length ≤ 140737488355328) (fun w h => by have h1 := (h _ (.tail _ ((.head _)))).1.1; have h2 := (h _ (.tail _ ((.head _)))).2.1; omega) (fun hl2 => ?_)
 refine J.sreg ?_
 refine RN.new (fun b => pt b) (.cells (ratC p r) 27 (0, 0)) k_ k_ (fun w => by kernel_rfl) (fun b3 => ?_)
 refine RN.new (fun b => pt b) (.cells (ratC u t) 27 (0, 0)) k_ k_ (fun w => by kernel_rfl) (fun b4 => ?_)
 refine RN.bq (no 1) [2, 3] [] 3 [(2, pt b3), (3, pt b4)] k_ ?_
 refine RN.fs k_ ?_
 refine RN.bq [none, some 1, none, some 0] [2, 3, 6, 8] [b4, b4, b3, b3] 4 [(2, pt b3), (3, pt b4), (6, intV p.mag (⟨r.neg, r.mag⟩ : RawI)), (8, intV u.mag (⟨t.neg, t.mag⟩ : RawI))] k_ ?_
 refine RN.also (fU p.mag r.mag) (fun w h => (h _ (.head _)).1) ?_
 refine RN.also (fU u.mag t.mag) (fun w h => (h _ (.tail _ ((.tail _ ((.head _)))))).1) ?_
 refine RN.call (r02_Same p.mag ⟨r.neg, r.mag⟩ u.mag ⟨t.neg, t.mag⟩) [1, 0] k_ k_ k_ rfl (fun y5 _ => ?_)
 refine RN.bq (no 1) [2, 3, 10] [] 6 [(2, pt b3), (3, pt b4), (10, .bool (decide ((⟨r.neg, r.mag⟩ : RawI) = (⟨t.neg, t.mag⟩ : RawI))))] k_ ?_
 refine RN.split 10 (decide ((⟨r.neg, r.mag⟩ : RawI) = (⟨t.neg, t.mag⟩ : RawI))) k_ (fun c6 => ?_) (fun c6 => ?_)
 ·replace c6 := of_decide_eq_true c6
  refine RN.bq [none, some 1, none, some 0] [10, 12, 14] [b4, b3] 10 [(10, .bool true), (12, sl (p.den) (r.den).length), (14, sl (u.den) (t.den).length)] k_ ?_
  refine RN.also (fU (p.den) (r.den)) (fun w h => (h _ (.tail _ ((.tail _ ((.head _)))))).2) ?_
  refine RN.also (fU (u.den) (t.den)) (fun w h => (h _ (.tail _ ((.tail _ ((.tail _ ((.tail _ ((.head _)))))))))).2) ?_
  refine RN.call (r01_Same (p.den) (r.den) (u.den) (t.den)) [1, 0] k_ k_ k_ rfl (fun y7 _ => ?_)
  refine RN.bq (no 2) [4] [] 13 [(4, .bool (decide ((r.den) = (t.den))))] k_ ?_
  refine RN.fin k_ ?_
  have e_1 : (decide (r = t)) = (decide ((r.den) = (t.den))) := by rcases r with ⟨a, b, c⟩; rcases t with ⟨d, e, f⟩; simp_all
  refine J.ret (KR.ret (v := .bool (decide ((r.den) = (t.den)))) (()) [none] [] [] k_ v1_ (trivial) v1_)
 ·replace c6 := of_decide_eq_false c6
  refine RN.bq (no 7) [4] [] 13 [(4, .bool false)] k_ ?_
  refine RN.fin k_ ?_
  have e_1 : (decide (r = t)) = false := by rcases r with ⟨a, b, c⟩; rcases t with ⟨d, e, f⟩; simp_all
  refine J.ret (KR.ret (v := .bool false) (()) [none] [] [] k_ v1_ (trivial) v1_)
theorem r03_Abs (p : RA) (r : Raw) (hr : RQ 268435456 r) : Spec Tryz.prog 26 #[ratV p r] [fRat p r] (ι := RA) (fun y => ratV y (encQ (absQ (qv r)))) (fun y => True) (fun y => [fRat y (encQ (absQ (qv r)))]) := by
 refine Spec.of_body _ (fn := Tryz.f26) k_ rfl k_ (fun X w0 => ?_)
 refine J.fact (φ := r.mag.length ≤ 140737488355328 ∧ r.den.length ≤ 140737488355328) (fun w h => by have h1 := (h _ (.head _)).1.1; have h2 := (h _ (.head _)).2.1; omega) (fun hl1 => ?_)
 refine J.sreg ?_
 refine RN.new (fun b => pt b) (.cells (ratC p r) 27 (0, 0)) k_ k_ (fun w => by kernel_rfl) (fun b2 => ?_)
 refine RN.new (fun b => pt b) (.cells (ratC (⟨saNil, saNil⟩ : RA) (⟨false, ([] : List Nat), ([] : List Nat)⟩ : Raw)) 27 (0, 0)) k_ k_ (fun w => by kernel_rfl) (fun b3 => ?_)
 refine RN.fin k_ ?_
 refine J.seq ?_
 refine J.sreg ?_
 refine RN.bq [some 1] [1, 2, 3] [b2, b2, b2] 1 [(1, pt b2), (2, pt b3), (3, ratV p r)] k_ ?_
 refine RN.call (r03_Sign p r y_) [0] k_ k_ k_ rfl (fun y4 _ => ?_)
 refine RN.bq (no 1) [1, 2, 5] [] 3 [(1, pt b2), (2, pt b3), (5, .bool (decide ((Int.sign ((qv r).num)) < 0)))] k_ ?_
 refine RN.fin k_ ?_
 refine J.cond (decide ((Int.sign ((qv r).num)) < 0)) k_ (fun c5 => ?_) (fun c5 => ?_)
 ·replace c5 := of_decide_eq_true c5
  refine J.sreg ?_
  refine RN.bq [some 1] [2, 6] [b2, b2, b2] 1 [(2, pt b3), (6, ratV p r)] k_ ?_
  refine RN.call (r03_Neg p r y_) [0] k_ k_ k_ rfl (fun y6 _ => ?_)
  refine RN.bs [some 0] [2] [b3, b3, b3] 3 [(2, pt b3)] ([(b3, .cells (ratC y6 (encQ (-(qv r)))) 27 (0, 0)), (b2, .cells (ratC p r) 27 (0, 0))]) k_ ?_
  refine RN.fin k_ ?_
  have e_1 : (encQ (absQ (qv r))) = (encQ (-(qv r))) := by rw [absQ, if_pos (sign_lt.1 ‹_›)]
  refine J.ret (KR.next (KR.ret (v := ratV y6 (encQ (-(qv r)))) (y6) [some 0] [0] [b3, b3, b3] k_ v1_ (trivial) v1_))
 ·replace c5 := of_decide_eq_false c5
  refine J.skip ?_
  refine KN.next ?_
  refine J.sreg ?_
  refine RN.bq [some 1] [2, 8] [b2, b2, b2] 1 [(2, pt b3), (8, ratV p r)] k_ ?_
  refine RN.call (r03_Take p r y_) [0] k_ k_ k_ rfl (fun y7 _ => ?_)
  refine RN.bs [some 0] [2] [b3, b3, b3] 3 [(2, pt b3)] ([(b3, .cells (ratC y7 (encQ (qv r))) 27 (0, 0)), (b2, .cells (ratC p r) 27 (0, 0))]) k_ ?_
  refine RN.fin k_ ?_
  have e_1 : (encQ (absQ (qv r))) = (encQ (qv r)) := by rw [absQ, if_neg (mt sign_lt.2 ‹_›)]
  refine J.ret (KR.ret (v := ratV y7 (encQ (qv r))) (y7) [some 0] [0] [b3, b3, b3] k_ v1_ (trivial) v1_)
theorem r03_Abs_c (p : RA) (r' : Rat) (hr : Q 268435456 r') : Spec Tryz.prog 26 #[ratV p (encQ r')] [fRat p (encQ r')] (ι := RA) (fun y => ratV y (encQ (absQ r'))) (fun y => True) (fun y => [fRat y (encQ (absQ r'))]) := by
  have H := r03_Abs p (encQ r') (RQ_enc hr)
  first | exact H | (simp only [qv_encQ, validQ_encQ] at H; exact H)
theorem r03_Compare (p : RA) (r : Raw) (u : RA) (t : Raw) (hr : RQ 268435456 r) (ht : RQ 268435456 t) (hs : Q 268435456 ((qv r) - (qv t))) : Spec Tryz.prog 73 #[ratV p r, ratV u t] [fRat p r, fRat u t] (ι := Unit) (fun y => .int .i64 (Int.sign (((qv r) - (qv t)).num))) (fun y => True) (fun y => []) := by
 refine Spec.of_body _ (fn := Tryz.f73) k_ rfl k_ (fun X w0 => ?_)
 refine J.fact (φ := r.mag.length ≤ 140737488355328 ∧ r.den.length ≤ 140737488355328) (fun w h => by have h1 := (h _ (.head _)).1.1; have h2 := (h _ (.head _)).2.1; omega) (fun hl1 => ?_)
 refine J.fact (φ := t.mag.length ≤ 140737488355328 ∧ t.den.length ≤ 140737488355328) (fun w h => by have h1 := (h _ (.tail _ ((.head _)))).1.1; have h2 := (h _ (.tail _ ((.head _)))).2.1; omega) (fun hl2 => ?_)
 refine J.sreg ?_
 refine RN.new (fun b => pt b) (.cells (ratC p r) 27 (0, 0)) k_ k_ (fun w => by kernel_rfl) (fun b3 => ?_)
 refine RN.new (fun b => pt b) (.cells (ratC u t) 27 (0, 0)) k_ k_ (fun w => by kernel_rfl) (fun b4 => ?_)
 refine RN.bq (no 1) [2, 3] [] 3 [(2, pt b3), (3, pt b4)] k_ ?_
 refine RN.fs k_ ?_
 refine RN.bq [some 1, some 0] [5, 6] [b4, b4, b4, b3, b3, b3] 2 [(5, ratV p r), (6, ratV u t)] k_ ?_
 refine RN.call (r03_Sub p r u t y_ y_) [0, 1] k_ k_ k_ rfl (fun y5 _ => ?_)
 refine RN.call (r03_Sign_c y5 ((qv r) - (qv t)) y_) [0] k_ k_ k_ rfl (fun y6 _ => ?_)
 refine RN.bq (no 1) [4] [] 5 [(4, .int .i64 (Int.sign (((qv r) - (qv t)).num)))] k_ ?_
 refine RN.fin k_ ?_
 refine J.ret (KR.ret (v := .int .i64 (Int.sign (((qv r) - (qv t)).num))) (()) [none] [] [] k_ rfl (trivial) rfl)
theorem r03_Less (p : RA) (r : Raw) (u : RA) (t : Raw) (hr : RQ 268435456 r) (ht : RQ 268435456 t) (hs : Q 268435456 ((qv r) - (qv t))) : Spec Tryz.prog 29 #[ratV p r, ratV u t] [fRat p r, fRat u t] (ι := Unit) (fun y => .bool (decide ((qv r) < (qv t)))) (fun y => True) (fun y => []) := by
 refine Spec.of_body _ (fn := Tryz.f29) k_ rfl k_ (fun X w0 => ?_)
 refine J.fact (φ := r.mag.length ≤ 140737488355328 ∧ r.den.length ≤ 140737488355328) (fun w h => by have h1 := (h _ (.head _)).1.1; have h2 := (h _ (.head _)).2.1; omega) (fun hl1 => ?_)
 refine J.fact (φ := t.mag.length ≤ 140737488355328 ∧ t.den.length ≤ 140737488355328) (fun w h => by have h1 := (h _ (.tail _ ((.head _)))).1.1; have h2 := (h _ (.tail _ ((.head _)))).2.1; omega) (fun hl2 => ?_)
 refine J.sreg ?_
 refine RN.new (fun b => pt b) (.cells (ratC p r) 27 (0, 0)) k_ k_ (fun w => by kernel_rfl) (fun b3 => ?_)
 refine RN.new (fun b => pt b) (.cells (ratC u t) 27 (0, 0)) k_ k_ (fun w => by kernel_rfl) (fun b4 => ?_)
 refine RN.bq (no 1) [2, 3] [] 3 [(2, pt b3), (3, pt b4)] k_ ?_
 refine RN.fs k_ ?_
 refine RN.bq [some 1, some 0] [5, 6] [b4, b4, b4, b3, b3, b3] 2 [(5, ratV p r), (6, ratV u t)] k_ ?_
 refine RN.call (r03_Compare p r u t y_ y_ y_) [0, 1] k_ k_ k_ rfl (fun y5 _ => ?_)
 refine RN.bq (no 2) [4] [] 5 [(4, .bool (decide ((Int.sign (((qv r) - (qv t)).num)) < 0)))] k_ ?_
 refine RN.fin k_ ?_
 have e_1 : (decide ((qv r) < (qv t))) = (decide ((Int.sign (((qv r) - (qv t)).num)) < 0)) := by rw [decide_eq_decide, sub_sign_lt]
 refine J.ret (KR.ret (v := .bool (decide ((Int.sign (((qv r) - (qv t)).num)) < 0))) (()) [none] [] [] k_ v1_ (trivial) v1_)
theorem r03_Less_c (p : RA) (r' : Rat) (u : RA) (t' : Rat) (hr : Q 268435456 r') (ht : Q 268435456 t') (hs : Q 268435456 (r' - t')) : Spec Tryz.prog 29 #[ratV p (encQ r'), ratV u (encQ t')] [fRat p (encQ r'), fRat u (encQ t')] (ι := Unit) (fun y => .bool (decide (r' < t'))) (fun y => True) (fun y => []) := by
  have H := r03_Less p (encQ r') u (encQ t') (RQ_enc hr) (RQ_enc ht) (by first | exact hs | simpa only [qv_encQ, qv_encQ] using hs)
  first | exact H | (simp only [qv_encQ, validQ_encQ] at H; exact H)
theorem r03_Min (p : RA) (r : Raw) (u : RA) (t : Raw) (hr : RQ 268435456 r) (ht : RQ 268435456 t) (hs : Q 268435456 ((qv t) - (qv r))) : Spec Tryz.prog 77 #[ratV p r, ratV u t] [fRat p r, fRat u t] (ι := RA) (fun y => ratV y (encQ (minQ (qv r) (qv t)))) (fun y => True) (fun y => [fRat y (encQ (minQ (qv r) (qv t)))]) := by
 refine Spec.of_body _ (fn := Tryz.f77) k_ rfl k_ (fun X w0 => ?_)
 refine J.fact (φ := r.mag.length ≤ 140737488355328 ∧ r.den.length ≤ 140737488355328) (fun w h => by have h1 := (h _ (.head _)).1.1; have h2 := (h _ (.head _)).2.1; omega) (fun hl1 => ?_)
 refine J.fact (φ := t.mag.length ≤ 140737488355328 ∧ t.den.length ≤ 140737488355328) (fun w h => by have h1 := (h _ (.tail _ ((.head _)))).1.1; have h2 := (h _ (.tail _ ((.head _)))).2.1; omega) (fun hl2 => ?_)
 refine J.sreg ?_
 refine RN.new (fun b => pt b) (.cells (ratC p r) 27 (0, 0)) k_ k_ (fun w => by kernel_rfl) (fun b3 => ?_)
 refine RN.new (fun b => pt b) (.cells (ratC u t) 27 (0, 0)) k_ k_ (fun w => by kernel_rfl) (fun b4 => ?_)
 refine RN.new (fun b => pt b) (.cells (ratC (⟨saNil, saNil⟩ : RA) (⟨false, ([] : List Nat), ([] : List Nat)⟩ : Raw)) 27 (0, 0)) k_ k_ (fun w => by kernel_rfl) (fun b5 => ?_)
 refine RN.fin k_ ?_
 refine J.seq ?_
 refine J.sreg ?_
 refine RN.bq [some 1, some 2] [2, 3, 4, 5, 6] [b3, b3, b3, b4, b4, b4] 2 [(2, pt b3), (3, pt b4), (4, pt b5), (5, ratV u t), (6, ratV p r)] k_ ?_
 refine RN.call (r03_Less u t p r y_ y_ y_) [1, 0] k_ k_ k_ rfl (fun y6 _ => ?_)
 refine RN.fin k_ ?_
 refine J.cond (decide ((qv t) < (qv r))) k_ (fun c7 => ?_) (fun c7 => ?_)
 ·replace c7 := of_decide_eq_true c7
  refine J.sreg ?_
  refine RN.bq [some 1] [4, 8] [b4, b4, b4] 1 [(4, pt b5), (8, ratV u t)] k_ ?_
  refine RN.call (r03_Take u t y_) [1] k_ k_ k_ rfl (fun y8 _ => ?_)
  refine RN.bs [some 0] [4] [b5, b5, b5] 3 [(4, pt b5)] ([(b5, .cells (ratC y8 (encQ (qv t))) 27 (0, 0)), (b4, .cells (ratC u t) 27 (0, 0)), (b3, .cells (ratC p r) 27 (0, 0))]) k_ ?_
  refine RN.fin k_ ?_
  have e_1 : (encQ (minQ (qv r) (qv t))) = (encQ (qv t)) := by rw [minQ, if_pos ‹_›]
  refine J.ret (KR.next (KR.ret (v := ratV y8 (encQ (qv t))) (y8) [some 0] [0] [b5, b5, b5] k_ v1_ (trivial) v1_))
 ·replace c7 := of_decide_eq_false c7
  refine J.skip ?_
  refine KN.next ?_
  refine J.sreg ?_
  refine RN.bq [some 2] [4, 10] [b3, b3, b3] 1 [(4, pt b5), (10, ratV p r)] k_ ?_
  refine RN.call (r03_Take p r y_) [0] k_ k_ k_ rfl (fun y9 _ => ?_)
  refine RN.bs [some 0] [4] [b5, b5, b5] 3 [(4, pt b5)] ([(b5, .cells (ratC y9 (encQ (qv r))) 27 (0, 0)), (b4, .cells (ratC u t) 27 (0, 0)), (b3, .cells (ratC p r) 27 (0, 0))]) k_ ?_
  refine RN.fin k_ ?_
  have e_1 : (encQ (minQ (qv r) (qv t))) = (encQ (qv r)) := by rw [minQ, if_neg ‹_›]
  refine J.ret (KR.ret (v := ratV y9 (encQ (qv r))) (y9) [some 0] [0] [b5, b5, b5] k_ v1_ (trivial) v1_)
theorem r03_Min_c (p : RA) (r' : Rat) (u : RA) (t' : Rat) (hr : Q 268435456 r') (ht : Q 268435456 t') (hs : Q 268435456 (t' - r')) : Spec Tryz.prog 77 #[ratV p (encQ r'), ratV u (encQ t')] [fRat p (encQ r'), fRat u (encQ t')] (ι := RA) (fun y => ratV y (encQ (minQ r' t'))) (fun y => True) (fun y => [fRat y (encQ (minQ r' t'))]) := by
  have H := r03_Min p (encQ r') u (encQ t') (RQ_enc hr) (RQ_enc ht) (by first | exact hs | simpa only [qv_encQ, qv_encQ] using hs)
  first | exact H | (simp only [qv_encQ, validQ_encQ] at H; exact H)
theorem r03_Max (p : RA) (r : Raw) (u : RA) (t : Raw) (hr : RQ 268435456 r) (ht : RQ 268435456 t) (hs : Q 268435456 ((qv r) - (qv t))) : Spec Tryz.prog 76 #[ratV p r, ratV u t] [fRat p r, fRat u t] (ι := RA) (fun y => ratV y (encQ (maxQ (qv r) (qv t)))) (fun y => True) (fun y => [fRat y (encQ (maxQ (qv r) (qv t)))]) := by
 refine Spec.of_body _ (fn := Tryz.f76) k_ rfl k_ (fun X w0 => ?_)
 refine J.fact (φ := r.mag.length ≤ 140737488355328 ∧ r.den.length ≤ 140737488355328) (fun w h => by have h1 := (h _ (.head _)).1.1; have h2 := (h _ (.head _)).2.1; omega) (fun hl1 => ?_)
 refine J.fact (φ := t.mag.length ≤ 140737488355328 ∧ t.den.length ≤ 140737488355328) (fun w h => by have h1 := (h _ (.tail _ ((.head _)))).1.1; have h2 := (h _ (.tail _ ((.head _)))).2.1; omega) (fun hl2 => ?_)
 refine J.sreg ?_
 refine RN.new (fun b => pt b) (.cells (ratC p r) 27 (0, 0)) k_ k_ (fun w => by kernel_rfl) (fun b3 => ?_)
 refine RN.new (fun b => pt b) (.cells (ratC u t) 27 (0, 0)) k_ k_ (fun w => by kernel_rfl) (fun b4 => ?_)
 refine RN.new (fun b => pt b) (.cells (ratC (⟨saNil, saNil⟩ : RA) (⟨false, ([] : List Nat), ([] : List Nat)⟩ : Raw)) 27 (0, 0)) k_ k_ (fun w => by kernel_rfl) (fun b5 => ?_)
 refine RN.fin k_ ?_
 refine J.seq ?_
 refine J.sreg ?_
 refine RN.bq [some 2, some 1] [2, 3, 4, 5, 6] [b4, b4, b4, b3, b3, b3] 2 [(2, pt b3), (3, pt b4), (4, pt b5), (5, ratV p r), (6, ratV u t)] k_ ?_
 refine RN.call (r03_Less p r u t y_ y_ y_) [0, 1] k_ k_ k_ rfl (fun y6 _ => ?_)
 refine RN.fin k_ ?_
 refine J.cond (decide ((qv r) < (qv t))) k_ (fun c7 => ?_) (fun c7 => ?_)
 ·replace c7 := of_decide_eq_true c7
  refine J.sreg ?_
  refine RN.bq [some 1] [4, 8] [b4, b4, b4] 1 [(4, pt b5), (8, ratV u t)] k_ ?_
  refine RN.call (r03_Take u t y_) [1] k_ k_ k_ rfl (fun y8 _ => ?_)
  refine RN.bs [some 0] [4] [b5, b5, b5] 3 [(4, pt b5)] ([(b5, .cells (ratC y8 (encQ (qv t))) 27 (0, 0)), (b4, .cells (ratC u t) 27 (0, 0)), (b3, .cells (ratC p r) 27 (0, 0))]) k_ ?_
  refine RN.fin k_ ?_
  have e_1 : (encQ (maxQ (qv r) (qv t))) = (encQ (qv t)) := by rw [maxQ, if_pos ‹_›]
  refine J.ret (KR.next (KR.ret (v := ratV y8 (encQ (qv t))) (y8) [some 0] [0] [b5, b5, b5] k_ v1_ (trivial) v1_))
 ·replace c7 := of_decide_eq_false c7
  refine J.skip ?_
  refine KN.next ?_
  refine J.sreg ?_
  refine RN.bq [some 2] [4, 10] [b3, b3, b3] 1 [(4, pt b5), (10, ratV p r)] k_ ?_
  refine RN.call (r03_Take p r y_) [0] k_ k_ k_ rfl (fun y9 _ => ?_)
  refine RN.bs [some 0] [4] [b5, b5, b5] 3 [(4, pt b5)] ([(b5, .cells (ratC y9 (encQ (qv r))) 27 (0, 0)), (b4, .cells (ratC u t) 27 (0, 0)), (b3, .cells (ratC p r) 27 (0, 0))]) k_ ?_
  refine RN.fin k_ ?_
  have e_1 : (encQ (maxQ (qv r) (qv t))) = (encQ (qv r)) := by rw [maxQ, if_neg ‹_›]
  refine J.ret (KR.ret (v := ratV y9 (encQ (qv r))) (y9) [some 0] [0] [b5, b5, b5] k_ v1_ (trivial) v1_)
theorem r03_Max_c (p : RA) (r' : Rat) (u : RA) (t' : Rat) (hr : Q 268435456 r') (ht : Q 268435456 t') (hs : Q 268435456 (r' - t')) : Spec Tryz.prog 76 #[ratV p (encQ r'), ratV u (encQ t')] [fRat p (encQ r'), fRat u (encQ t')] (ι := RA) (fun y => ratV y (encQ (maxQ r' t'))) (fun y => True) (fun y => [fRat y (encQ (maxQ r' t'))]) := by
  have H := r03_Max p (encQ r') u (encQ t') (RQ_enc hr) (RQ_enc ht) (by first | exact hs | simpa only [qv_encQ, qv_encQ] using hs)
  first | exact H | (simp only [qv_encQ, validQ_encQ] at H; exact H)
theorem r03_Fraction (a : Int) (b : Int) (ha1 : -9223372036854775808 ≤ a) (ha2 : a < 9223372036854775808) (hb1 : -9223372036854775808 ≤ b) (hb2 : b < 9223372036854775808) (hb0 : b ≠ 0) : Spec Tryz.prog 37 #[.int .i64 a, .int .i64 b] [] (ι := RA) (fun y => ratV y (encQ (((a : Int) : Rat) / ((b : Int) : Rat)))) (fun y => True) (fun y => [fRat y (encQ (((a : Int) : Rat) / ((b : Int) : Rat)))]) := by
 refine Spec.of_body _ (fn := Tryz.f37) k_ rfl k_ (fun X w0 => ?_)
 have hla : (toL a.natAbs).length ≤ 2 := u64_len.2 (by omega)
 have hlb : (toL b.natAbs).length ≤ 2 := u64_len.2 (by omega)
 refine J.sreg ?_
 refine RN.new (fun b => pt b) (.cells (ratC (⟨saNil, saNil⟩ : RA) (⟨false, ([] : List Nat), ([] : List Nat)⟩ : Raw)) 27 (0, 0)) k_ k_ (fun w => by kernel_rfl) (fun b1 => ?_)
 refine RN.fs k_ ?_
 refine RN.bq (no 1) [1, 4, 5] [] 1 [(1, .int .i64 b), (4, pt b1), (5, .int .i64 a)] k_ ?_
 refine RN.call (r02_FromInt a y_ y_) [] k_ k_ k_ rfl (fun y2 _ => ?_)
 refine RN.bq (no 1) [4, 6, 7] [] 3 [(4, pt b1), (6, intV y2 (encZ a)), (7, .int .i64 b)] k_ ?_
 refine RN.call (r02_FromInt b y_ y_) [] k_ k_ k_ rfl (fun y3 _ => ?_)
 refine RN.call (r03_over y2 a y3 b y_ y_ y_) [1, 0] k_ k_ k_ rfl (fun y4 _ => ?_)
 refine RN.bs [some 0] [4] [b1, b1, b1] 6 [(4, pt b1)] ([(b1, .cells (ratC y4 (encQ (((a : Int) : Rat) / ((b : Int) : Rat)))) 27 (0, 0))]) k_ ?_
 refine RN.fin k_ ?_
 refine J.ret (KR.ret (v := ratV y4 (encQ (((a : Int) : Rat) / ((b : Int) : Rat)))) (y4) [some 0] [0] [b1, b1, b1] k_ rfl (trivial) rfl)
end Go.Proofs.YtegnonhgildhoaaGreat.E
namespace Go.Proofs.YtegnonhgildhoaaGreat.E
open Go Go.RowKit
set_option linter.unusedVariables false
set_option linter.unusedSimpArgs false
def loQ (a b : Rat) : Rat := if b < a then 0 else a
def hiQ (a b : Rat) : Rat := if b < a then 0 else b
theorem loQ_t {a b : Rat} (h : b < a) : loQ a b = 0 := if_pos h
theorem loQ_f {a b : Rat} (h : ¬ b < a) : loQ a b = a := if_neg h
theorem hiQ_t {a b : Rat} (h : b < a) : hiQ a b = 0 := if_pos h
theorem hiQ_f {a b : Rat} (h : ¬ b < a) : hiQ a b = b := if_neg h
theorem r04_Same (p : RA) (r : Raw) (u : RA) (t : Raw) (v : RA) (k : Raw) (w : RA) (m : Raw) : Spec Tryz.prog 21 #[.agg (ivC p r u t), .agg (ivC v k w m)] [fRat p r, fRat u t, fRat v k, fRat w m] (ι := Unit) (fun y => .bool (decide (r = k) && decide (t = m))) (fun y => True) (fun y => []) := by
 refine Spec.of_body _ (fn := Tryz.f21) k_ rfl k_ (fun X w0 => ?_)
 refine J.fact (φ := r.mag.length ≤ 140737488355328 ∧ r.den.length ≤ 140737488355328) (fun w h => by have h1 := (h _ (.head _)).1.1; have h2 := (h _ (.head _)).2.1; omega) (fun hl1 => ?_)
 refine J.fact (φ := t.mag.length ≤ 140737488355328 ∧ t.den.length ≤ 140737488355328) (fun w h => by have h1 := (h _ (.tail _ ((.head _)))).1.1; have h2 := (h _ (.tail _ ((.head _)))).2.1; omega) (fun hl2 => ?_)
 refine J.fact (φ := k.mag.length ≤ 140737488355328 ∧ k.den.length ≤ 140737488355328) (fun w h => by have h1 := (h _ (.tail _ ((.tail _ ((.head _)))))).1.1; have h2 := (h _ (.tail _ ((.tail _ ((.head _)))))).2.1; omega) (fun hl3 => ?_)
 refine J.fact (φ := m.mag.length ≤ 140737488355328 ∧ m.den.length ≤ 140737488355328) (fun w h => by have h1 := (h _ (.tail _ ((.tail _ ((.tail _ ((.head _)))))))).1.1; have h2 := (h _ (.tail _ ((.tail _ ((.tail _ ((.head _)))))))).2.1; omega) (fun hl4 => ?_)
 refine J.sreg ?_
 refine RN.new (fun b => pt b) (.cells (ivC p r u t) 38 (0, 0)) k_ k_ (fun w => by kernel_rfl) (fun b5 => ?_)
 refine RN.new (fun b => pt b) (.cells (ivC v k w m) 38 (0, 0)) k_ k_ (fun w => by kernel_rfl) (fun b6 => ?_)
 refine RN.bq (no 1) [2, 3] [] 3 [(2, pt b5), (3, pt b6)] k_ ?_
 refine RN.fs k_ ?_
 refine RN.bq [none, some 1, none, some 0] [2, 3, 6, 8] [b6, b6, b6, b5, b5, b5] 4 [(2, pt b5), (3, pt b6), (6, ratV p r), (8, ratV v k)] k_ ?_
 refine RN.call (r03_Same p r v k) [0, 2] k_ k_ k_ rfl (fun y7 _ => ?_)
 refine RN.bq (no 1) [2, 3, 10] [] 6 [(2, pt b5), (3, pt b6), (10, .bool (decide (r = k)))] k_ ?_
 refine RN.split 10 (decide (r = k)) k_ (fun c8 => ?_) (fun c8 => ?_)
 ·replace c8 := of_decide_eq_true c8
  refine RN.bq [none, some 1, none, some 0] [10, 12, 14] [b6, b6, b6, b5, b5, b5] 10 [(10, .bool true), (12, ratV u t), (14, ratV w m)] k_ ?_
  refine RN.call (r03_Same u t w m) [1, 3] k_ k_ k_ rfl (fun y9 _ => ?_)
  refine RN.bq (no 2) [4] [] 13 [(4, .bool (decide (t = m)))] k_ ?_
  refine RN.fin k_ ?_
  have e_1 : (decide (r = k) && decide (t = m)) = (decide (t = m)) := by simp_all
  refine J.ret (KR.ret (v := .bool (decide (t = m))) (()) [none] [] [] k_ v1_ (trivial) v1_)
 ·replace c8 := of_decide_eq_false c8
  refine RN.bq (no 7) [4] [] 13 [(4, .bool false)] k_ ?_
  refine RN.fin k_ ?_
  have e_1 : (decide (r = k) && decide (t = m)) = false := by simp_all
  refine J.ret (KR.ret (v := .bool false) (()) [none] [] [] k_ v1_ (trivial) v1_)
theorem y_r04_Take {p : Prop} (h : p := by first | assumption | exact Lb_toL _ | omega | (simp; done) | exact hs) : p := h
theorem r04_Take (p : RA) (r : Raw) (u : RA) (t : Raw) (hr : RQ 268435456 r) (ht : RQ 268435456 t) (hs : Q 268435456 ((qv t) - (qv r))) : Spec Tryz.prog 75 #[.agg (ivC p r u t)] [fRat p r, fRat u t] (ι := RA × RA) (fun y => .agg (ivC y.1 (encQ (loQ (qv r) (qv t))) y.2 (encQ (hiQ (qv r) (qv t))))) (fun y => True) (fun y => [fRat y.1 (encQ (loQ (qv r) (qv t))), fRat y.2 (encQ (hiQ (qv r) (qv t)))]) := by
 refine Spec.of_body _ (fn := Tryz.f75) k_ rfl k_ (fun X w0 => ?_)
 refine J.fact (φ := r.mag.length ≤ 140737488355328 ∧ r.den.length ≤ 140737488355328) (fun w h => by have h1 := (h _ (.head _)).1.1; have h2 := (h _ (.head _)).2.1; omega) (fun hl1 => ?_)
 refine J.fact (φ := t.mag.length ≤ 140737488355328 ∧ t.den.length ≤ 140737488355328) (fun w h => by have h1 := (h _ (.tail _ ((.head _)))).1.1; have h2 := (h _ (.tail _ ((.head _)))).2.1; omega) (fun hl2 => ?_)
 refine J.sreg ?_
 refine RN.new (fun b => pt b) (.cells (ivC p r u t) 38 (0, 0)) k_ k_ (fun w => by kernel_rfl) (fun b3 => ?_)
 refine RN.new (fun b => pt b) (.cells (ivC (⟨saNil, saNil⟩ : RA) (⟨false, ([] : List Nat), ([] : List Nat)⟩ : Raw) (⟨saNil, saNil⟩ : RA) (⟨false, ([] : List Nat), ([] : List Nat)⟩ : Raw)) 38 (0, 0)) k_ k_ (fun w => by kernel_rfl) (fun b4 => ?_)
 refine RN.fin k_ ?_
 refine J.seq ?_
 refine J.sreg ?_
 refine RN.bq [none, some 1, none, some 1] [1, 2, 4, 6] [b3, b3, b3, b3, b3, b3] 4 [(1, pt b3), (2, pt b4), (4, ratV u t), (6, ratV p r)] k_ ?_
 refine RN.call (r03_Less u t p r y_r04_Take y_r04_Take y_r04_Take) [1, 0] k_ k_ k_ rfl (fun y5 _ => ?_)
 refine RN.fin k_ ?_
 refine J.cond (decide ((qv t) < (qv r))) k_ (fun c6 => ?_) (fun c6 => ?_)
 ·replace c6 := of_decide_eq_true c6
  refine J.sreg ?_
  refine RN.bs [none, some 0] [2] [b4, b4, b4, b4, b4, b4] 2 [(2, pt b4)] ([(b4, .cells (ivC (⟨saNil, saNil⟩ : RA) (⟨false, ([] : List Nat), ([] : List Nat)⟩ : Raw) (⟨saNil, saNil⟩ : RA) (⟨false, ([] : List Nat), ([] : List Nat)⟩ : Raw)) 38 (0, 0)), (b3, .cells (ivC p r u t) 38 (0, 0))]) k_ ?_
  refine RN.fin k_ ?_
  have e_1 : (loQ (qv r) (qv t)) = (0 : Rat) := by first | exact loQ_t ‹_› | exact hiQ_t ‹_›
  have e_2 : (hiQ (qv r) (qv t)) = (0 : Rat) := by first | exact loQ_t ‹_› | exact hiQ_t ‹_›
  refine J.also (fRat (⟨saNil, saNil⟩ : RA) (⟨false, ([] : List Nat), ([] : List Nat)⟩ : Raw)) (fun w h => ⟨fU_nil w, fU_nil w⟩) ?_
  refine J.ret (KR.next (KR.ret (v := .agg (ivC (⟨saNil, saNil⟩ : RA) (⟨false, ([] : List Nat), ([] : List Nat)⟩ : Raw) (⟨saNil, saNil⟩ : RA) (⟨false, ([] : List Nat), ([] : List Nat)⟩ : Raw))) (⟨⟨saNil, saNil⟩, ⟨saNil, saNil⟩⟩) [some 0] [0, 0] [b4, b4, b4, b4, b4, b4] k_ v2_ (trivial) v2_))
 ·replace c6 := of_decide_eq_false c6
  refine J.skip ?_
  refine KN.next ?_
  refine J.seq ?_
  refine J.regD k_ [7] ?_
  refine RD.bq [(0, none), (1, some 1), (3, none), (4, some 1)] [2, 10, 13] [b3, b3, b3, b3, b3, b3] [(2, pt b4), (10, ratV p r), (13, ratV u t)] k_ k_ ?_
  refine RD.call (i := 2) (r03_Take p r y_r04_Take) [0] k_ k_ k_ k_ k_ rfl (fun y7 _ => ?_)
  refine RD.call (i := 5) (r03_Take u t y_r04_Take) [2] k_ k_ k_ k_ k_ rfl (fun y8 _ => ?_)
  refine RD.bq (nl [6]) [2, 15] [] [(2, pt b4), (15, .agg (ivC y7 (encQ (qv r)) y8 (encQ (qv t))))] k_ k_ ?_
  refine RD.last (i := 7) (some 0) [2] [b4, b4, b4, b4, b4, b4] k_ k_ k_ (l' := [(2, pt b4)]) (M' := [(b4, .cells (ivC y7 (encQ (qv r)) y8 (encQ (qv t))) 38 (0, 0)), (b3, .cells (ivC p r u t) 38 (0, 0))]) k_ ?_
  refine RD.done k_ ?_
  refine KN.next ?_
  have e_1 : (loQ (qv r) (qv t) : Rat) = (qv r : Rat) := by first | exact loQ_f ‹_› | exact hiQ_f ‹_›
  have e_2 : (hiQ (qv r) (qv t) : Rat) = (qv t : Rat) := by first | exact loQ_f ‹_› | exact hiQ_f ‹_›
  refine J.ret (KR.ret (v := .agg (ivC y7 (encQ (qv r)) y8 (encQ (qv t)))) (⟨y7, y8⟩) [some 0] [1, 0] [b4, b4, b4, b4, b4, b4] k_ v2_ (trivial) v2_)
theorem r04_Take_c (p : RA) (r' : Rat) (u : RA) (t' : Rat) (hr : Q 268435456 r') (ht : Q 268435456 t') (hs : Q 268435456 (t' - r')) : Spec Tryz.prog 75 #[.agg (ivC p (encQ r') u (encQ t'))] [fRat p (encQ r'), fRat u (encQ t')] (ι := RA × RA) (fun y => .agg (ivC y.1 (encQ (loQ r' t')) y.2 (encQ (hiQ r' t')))) (fun y => True) (fun y => [fRat y.1 (encQ (loQ r' t')), fRat y.2 (encQ (hiQ r' t'))]) := by
  have H := r04_Take p (encQ r') u (encQ t') (RQ_enc hr) (RQ_enc ht) (by first | exact hs | simpa only [qv_encQ, qv_encQ] using hs)
  first | exact H | (simp only [qv_encQ, validQ_encQ] at H; exact H)
theorem Q_0 {k : Nat} (h : 1 ≤ k) : Q k (0 : Rat) := Q.le ⟨by decide +kernel, by decide +kernel⟩ h
end Go.Proofs.YtegnonhgildhoaaGreat.E
/- Appending ints and numbers to a slice of the call's own. -/
namespace Go.Proofs.YtegnonhgildhoaaGreat.E
open Go Go.RowKit
set_option linter.unusedVariables false
section
variable {P : Program} {ops : Array Oper} {n : Nat} {X : Nat → Prop} {w0 : World} {D : Nat → Prop} {l l' l1 : Slots} {M M' : List Blk} {F F' : List Fact} {Q : Exit → Act → World → Prop}
/-! elements of a slice of ints that the call has grown -/
theorem q_opre {i t e sz hi n c b nn : Nat} {x : Operand} {high : Option Operand} (hop : (opOf ops i).op = .slice t x none high none) (hx : rho l x = .slice (some ⟨b, 0, none⟩) n c) (hhi : bndIs l high n hi)
    (ht : P.underlying t = some (.slice e)) (hs : (P.info? e).map (·.size) = some sz) (h2 : hi ≤ c) (hn : nn = hi) :
    ∀ w, Now M F w → (execOp (rho l) (opOf ops i)).run P w = .ok (.value (.slice (some ⟨b, 0, none⟩) nn c)) w := by
  intro w hw
  have := q_slice (M := M) (F := F) (lo := 0) hop hx (.inl ⟨rfl, rfl⟩) hhi ht hs (Nat.zero_le _) (fun w hw => h2) w hw
  rw [this, hn]
  congr 3
  split
  · rfl
  · rw [Nat.zero_mul]; rfl
theorem fRats_take {s : SA} {ps : List PR} {w : World} (h : fRats s ps w) (k : Nat) (hk : k ≤ ps.length) : fRats s (ps.take k) w := by
  refine ⟨⟨by simp; have := h.1.1; omega, by simp; have := h.1.2; omega⟩, fun i hi => ?_⟩
  have hi' : i < k := by simp at hi; omega
  have e : (ps.take k).getD i pr0 = ps.getD i pr0 := by simp [List.getD_eq_getElem?_getD, hi']
  rw [e]; exact h.2 i (by omega)
theorem sl_take {b c c' k n : Nat} {ps : List PR} (h : k ≤ ps.length) (hn : n = k) (hc : c' = c) : Value.slice (some ⟨b, 0, none⟩) n c' = sl ⟨some ⟨b, 0, none⟩, c⟩ (ps.take k).length := by
  subst hn hc; rw [List.length_take, Nat.min_eq_left h]; rfl
theorem ot_rapp {o : Oper} {T e by_ mi b k : Nat} {x y : Operand} {go : Option GB} {xs ys : List PR} {c e' : Nat} {fz : Nat × Nat} {z : Value} (M1 M2 : List Blk) (hB : M[mi]? = some (b, .cells (encR ys) e' fz))
    (hM : M = M1 ++ (glM go (encR xs) e ++ M2)) (hkd : (knownOp l o.op && dstOk n o.dst) = true) (hop : o.op = .call { callee := .builtin .append, args := #[x, y], argTypes := #[T, T] })
    (hx : rho l x = sl (glS go) xs.length) (hy : rho l y = .slice (some ⟨b, 0, none⟩) k c) (hT : P.underlying T = some (.slice e)) (hi : (P.info? e).map (fun i => (i.size, i.bytes, i.zero)) = some (3, by_, some z)) (hz : z.cells.size = 3)
    (hk : ys.length = k) (hk0 : 0 < k) (hok : gOk 3 go xs.length) (hb : (xs.length + k) * by_ ≤ 140737488355328) (h63 : xs.length + k ≤ 140737488355328) :
    OT P n X w0 D o Q l M F (ι := GB) (fun g => gOk 3 (some g) (xs ++ ys).length) (fun g => putL o.dst (sl (glS (some g)) (xs ++ ys).length) l) (fun g => M1 ++ (glM (some g) (encR (xs ++ ys)) e ++ M2)) (fun _ => F) := by
  have h := OT.app (P := P) (n := n) (X := X) (w0 := w0) (D := D) (F := F) (Q := Q) (type := 0) (new := (encR ys).toList) M1 M2 hM hkd hop hx hy hT hi hz (by rw [encR_size]) (by rw [Array.length_toList, encR_size, hk])
    (fun w hw j v hj => by rw [add0, cell_of (a := ⟨b, j, none⟩) (hw.blk _ (List.mem_of_getElem? hB)) rfl]; simpa using hj) (fun u hu => by
      simp [encR, ratC] at hu
      obtain ⟨p1, p2, _, hu⟩ := hu
      rcases hu with rfl | rfl | rfl <;> rfl) hok hk0 hb h63
  simp only [Array.toArray_toList, encR_app] at h
  have e : xs.length + k = (xs ++ ys).length := by rw [List.length_append, hk]
  rw [e] at h
  exact h
theorem allRat_app {ps qs : List PR} {w : World} (h : allRat ps w) (hq : allRat qs w) : allRat (ps ++ qs) w := fun x hx => by
  rcases List.mem_append.1 hx with hx | hx
  · exact h x hx
  · exact hq x hx
theorem KN.shareG {go : Option GB} {cs : Array Value} {e : Nat} (M1 M2 : List Blk) (hM : M = M1 ++ (glM go cs e ++ M2)) (q : Fact) (hq : ∀ w, (∀ m ∈ glM go cs e, fBlk m.1 m.2 w) → (∀ p ∈ F, p w) → q w) (r : KN n X w0 D Q l (M1 ++ M2) (q :: F)) : KN n X w0 D Q l M F :=
  fun a w hs => r a w ⟨hs.defers, hs.size, hs.tmps, by
    have h := hs.mem.shareG hM
    refine ⟨h.frm, h.blk, h.own, h.nodup, h.xs, fun p hp => ?_⟩
    rcases List.mem_cons.1 hp with rfl | hp
    · exact fun w' ho => hq w' (h.facts _ List.mem_cons_self w' ho) (fun p hp => h.facts p (List.mem_cons_of_mem _ hp) w' ho)
    · exact h.facts p (List.mem_cons_of_mem _ hp)⟩
end
end Go.Proofs.YtegnonhgildhoaaGreat.E
namespace Go.Proofs.YtegnonhgildhoaaGreat.E
open Go Go.RowKit
set_option linter.unusedVariables false
set_option linter.unusedSimpArgs false
theorem tmod_b' {k : Int} : -61 < Int.tmod k 61 ∧ Int.tmod k 61 < 61 := by
  rw [Int.tmod_eq_emod]
  split <;> omega
theorem tmod_b {k n : Int} (hn : 0 < n) : -n < Int.tmod k n ∧ Int.tmod k n < n := by
  have h1 := Int.emod_nonneg k (by omega : n ≠ 0)
  have h2 := Int.emod_lt_of_pos k hn
  rw [Int.tmod_eq_emod]
  split <;> omega
theorem td61 {v : Int} (h1 : -9223372036854775808 ≤ v) (h2 : v < 9223372036854775808) : -9223372036854775808 ≤ Int.tdiv v 61 ∧ Int.tdiv v 61 < 9223372036854775808 := by
  have h := Int.tdiv_mul_add_tmod v 61
  have hb := tmod_b' (k := v)
  omega
theorem tmod_neg {k n : Int} (hn : 0 < n) (h : Int.tmod k n < 0) : Int.tmod k n + n = k % n := by
  rw [Int.tmod_eq_emod] at *
  have h1 := Int.emod_nonneg k (by omega : n ≠ 0)
  split at h
  · omega
  · rename_i h2
    rw [if_neg h2]
    omega
theorem tmod_nn {k n : Int} (hn : 0 < n) (h : ¬ Int.tmod k n < 0) : Int.tmod k n = k % n := by
  rw [Int.tmod_eq_emod] at *
  have h1 := Int.emod_lt_of_pos k hn
  split at h
  · rename_i h2; rw [if_pos h2]; omega
  · omega
theorem emod_b {k n : Int} (hn : 0 < n) : 0 ≤ k % n ∧ k % n < n := ⟨Int.emod_nonneg k (by omega), Int.emod_lt_of_pos k hn⟩
def numQ (v : Int) : Rat := ((v % 61 - 30 : Int) : Rat) / ((1 + (Int.tdiv v 61) % 4 : Int) : Rat)
def levQ (v : Int) : Rat := ((1 + v % 11 : Int) : Rat) / ((12 : Int) : Rat)
theorem made_Mod (k : Int) (n : Int) (hn : 0 < n) (hn2 : n ≤ 4611686018427387904) : Spec Tryz.prog 35 #[.int .i64 k, .int .i64 n] [] (ι := Unit) (fun y => .int .i64 (k % n)) (fun y => True) (fun y => []) := by
 refine Spec.of_body _ (fn := Tryz.f35) k_ rfl k_ (fun X w0 => ?_)
 have hb := tmod_b (k := k) hn
 refine J.sreg ?_
 refine RN.bq (no 1) [0, 1] [] 1 [(0, .int .i64 k), (1, .int .i64 n)] k_ ?_
 refine RN.fs k_ ?_
 refine RN.bq (no 2) [1, 6, 7] [] 2 [(1, .int .i64 n), (6, .int .i64 k), (7, .int .i64 n)] k_ ?_
 refine RN.val _ k_ k_ (q_rem (T := 3) (T' := 3) (x := (.tmp 6)) (y := (.tmp 7)) (k := .i64) (a := k) (b := n) k_ k_ k_ (by omega)) ?_
 refine RN.bq (no 1) [1, 5] [] 4 [(1, .int .i64 n), (5, .int .i64 (Int.tmod k n))] k_ ?_
 refine RN.fin k_ ?_
 refine J.seq ?_
 refine J.sreg ?_
 refine RN.bq (no 2) [1, 5, 10] [] 2 [(1, .int .i64 n), (5, .int .i64 (Int.tmod k n)), (10, .bool (decide ((Int.tmod k n) < 0)))] k_ ?_
 refine RN.fin k_ ?_
 refine J.cond (decide ((Int.tmod k n) < 0)) k_ (fun c1 => ?_) (fun c1 => ?_)
 ·replace c1 := of_decide_eq_true c1
  refine J.regN ?_
  refine RN.bq (no 3) [13] [] 3 [(13, .int .i64 (IntKind.i64.wrap ((Int.tmod k n) + n)))] k_ ?_
  rw [show IntKind.i64.wrap ((Int.tmod k n) + n) = ((Int.tmod k n) + n) from by rw [IntKind.wrap_i64]; omega]
  refine RN.bq (no 1) [5] [] 4 [(5, .int .i64 ((Int.tmod k n) + n))] k_ ?_
  refine RN.fs k_ ?_
  refine RN.bq (no 2) [4] [] 2 [(4, .int .i64 ((Int.tmod k n) + n))] k_ ?_
  refine RN.fin k_ ?_
  have e_1 : (k % n : Int) = ((Int.tmod k n) + n : Int) := by first | exact (tmod_neg hn ‹_›).symm | exact (tmod_nn hn ‹_›).symm | exact tmod_neg hn ‹_› | exact tmod_nn hn ‹_›
  refine J.ret (KR.ret (v := .int .i64 ((Int.tmod k n) + n)) (()) [none] [] [] k_ v1_ (trivial) v1_)
 ·replace c1 := of_decide_eq_false c1
  refine J.skip ?_
  refine KN.next ?_
  refine J.sreg ?_
  refine RN.bq (no 2) [4] [] 2 [(4, .int .i64 (Int.tmod k n))] k_ ?_
  refine RN.fin k_ ?_
  have e_1 : (k % n : Int) = (Int.tmod k n : Int) := by first | exact (tmod_neg hn ‹_›).symm | exact (tmod_nn hn ‹_›).symm | exact tmod_neg hn ‹_› | exact tmod_nn hn ‹_›
  refine J.ret (KR.ret (v := .int .i64 (Int.tmod k n)) (()) [none] [] [] k_ v1_ (trivial) v1_)
theorem made_Number (v : Int) (h1 : -9223372036854775808 ≤ v) (h2 : v < 9223372036854775808) : Spec Tryz.prog 27 #[.int .i64 v] [] (ι := RA) (fun y => ratV y (encQ (numQ v))) (fun y => True) (fun y => [fRat y (encQ (numQ v))]) := by
 refine Spec.of_body _ (fn := Tryz.f27) k_ rfl k_ (fun X w0 => ?_)
 have h61 := emod_b (k := v) (n := 61) (by decide)
 have h4 := emod_b (k := Int.tdiv v 61) (n := 4) (by decide)
 refine J.sreg ?_
 refine RN.new (fun b => pt b) (.cells (ratC (⟨saNil, saNil⟩ : RA) (⟨false, ([] : List Nat), ([] : List Nat)⟩ : Raw)) 27 (0, 0)) k_ k_ (fun w => by kernel_rfl) (fun b1 => ?_)
 refine RN.fs k_ ?_
 refine RN.bq (no 1) [0, 2, 3] [] 1 [(0, .int .i64 v), (2, pt b1), (3, .int .i64 v)] k_ ?_
 refine RN.call (made_Mod v 61 y_ y_) [] k_ k_ k_ rfl (fun y2 _ => ?_)
 refine RN.bq (no 1) [0, 2, 5] [] 3 [(0, .int .i64 v), (2, pt b1), (5, .int .i64 (IntKind.i64.wrap ((v % 61) - 30)))] k_ ?_
 rw [show IntKind.i64.wrap ((v % 61) - 30) = ((v % 61) - 30) from by rw [IntKind.wrap_i64]; omega]
 refine RN.bq (no 2) [2, 5, 7] [] 5 [(2, pt b1), (5, .int .i64 ((v % 61) - 30)), (7, .int .i64 (IntKind.i64.wrap (Int.tdiv v 61)))] k_ ?_
 rw [show (IntKind.i64.wrap (Int.tdiv v 61)) = Int.tdiv v 61 from by have hb := td61 h1 h2; rw [IntKind.wrap_i64] <;> omega]
 refine RN.call (made_Mod (Int.tdiv v 61) 4 y_ y_) [] k_ k_ k_ rfl (fun y3 _ => ?_)
 refine RN.bq (no 1) [2, 5, 9] [] 7 [(2, pt b1), (5, .int .i64 ((v % 61) - 30)), (9, .int .i64 (IntKind.i64.wrap (1 + ((Int.tdiv v 61) % 4))))] k_ ?_
 rw [show IntKind.i64.wrap (1 + ((Int.tdiv v 61) % 4)) = (1 + ((Int.tdiv v 61) % 4)) from by rw [IntKind.wrap_i64]; omega]
 refine RN.call (r03_Fraction ((v % 61) - 30) (1 + ((Int.tdiv v 61) % 4)) y_ y_ y_ y_ y_) [] k_ k_ k_ rfl (fun y4 _ => ?_)
 refine RN.bs [some 0] [2] [b1, b1, b1] 9 [(2, pt b1)] ([(b1, .cells (ratC y4 (encQ (((((v % 61) - 30) : Int) : Rat) / (((1 + ((Int.tdiv v 61) % 4)) : Int) : Rat)))) 27 (0, 0))]) k_ ?_
 refine RN.fin k_ ?_
 have e_1 : (encQ (numQ v)) = (encQ (((((v % 61) - 30) : Int) : Rat) / (((1 + ((Int.tdiv v 61) % 4)) : Int) : Rat))) := by rfl
 refine J.ret (KR.ret (v := ratV y4 (encQ (((((v % 61) - 30) : Int) : Rat) / (((1 + ((Int.tdiv v 61) % 4)) : Int) : Rat)))) (y4) [some 0] [0] [b1, b1, b1] k_ v1_ (trivial) v1_)
theorem made_Level (v : Int) : Spec Tryz.prog 66 #[.int .i64 v] [] (ι := RA) (fun y => ratV y (encQ (levQ v))) (fun y => True) (fun y => [fRat y (encQ (levQ v))]) := by
 refine Spec.of_body _ (fn := Tryz.f66) k_ rfl k_ (fun X w0 => ?_)
 have h11 := emod_b (k := v) (n := 11) (by decide)
 refine J.sreg ?_
 refine RN.new (fun b => pt b) (.cells (ratC (⟨saNil, saNil⟩ : RA) (⟨false, ([] : List Nat), ([] : List Nat)⟩ : Raw)) 27 (0, 0)) k_ k_ (fun w => by kernel_rfl) (fun b1 => ?_)
 refine RN.fs k_ ?_
 refine RN.bq (no 1) [2, 3] [] 1 [(2, pt b1), (3, .int .i64 v)] k_ ?_
 refine RN.call (made_Mod v 11 y_ y_) [] k_ k_ k_ rfl (fun y2 _ => ?_)
 refine RN.bq (no 1) [2, 5] [] 3 [(2, pt b1), (5, .int .i64 (IntKind.i64.wrap (1 + (v % 11))))] k_ ?_
 rw [show IntKind.i64.wrap (1 + (v % 11)) = (1 + (v % 11)) from by rw [IntKind.wrap_i64]; omega]
 refine RN.call (r03_Fraction (1 + (v % 11)) 12 y_ y_ y_ y_ y_) [] k_ k_ k_ rfl (fun y3 _ => ?_)
 refine RN.bs [some 0] [2] [b1, b1, b1] 5 [(2, pt b1)] ([(b1, .cells (ratC y3 (encQ ((((1 + (v % 11)) : Int) : Rat) / ((12 : Int) : Rat)))) 27 (0, 0))]) k_ ?_
 refine RN.fin k_ ?_
 have e_1 : (encQ (levQ v)) = (encQ ((((1 + (v % 11)) : Int) : Rat) / ((12 : Int) : Rat))) := by rfl
 refine J.ret (KR.ret (v := ratV y3 (encQ ((((1 + (v % 11)) : Int) : Rat) / ((12 : Int) : Rat)))) (y3) [some 0] [0] [b1, b1, b1] k_ v1_ (trivial) v1_)
theorem snoc_get {ps : List PR} {p : PR} {f : Nat → Raw} (h : ∀ j, j < ps.length → (ps.getD j pr0).2 = f j) (hp : p.2 = f ps.length) : ∀ j, j < (ps ++ [p]).length → ((ps ++ [p]).getD j pr0).2 = f j := fun j hj => by
  simp only [List.length_append, List.length_singleton] at hj
  rcases Nat.lt_or_ge j ps.length with h1 | h1
  · have e : (ps ++ [p]).getD j pr0 = ps.getD j pr0 := by simp [List.getD_eq_getElem?_getD, List.getElem?_append_left h1]
    rw [e]; exact h j h1
  · obtain rfl : j = ps.length := by omega
    have e : (ps ++ [p]).getD ps.length pr0 = p := by simp [List.getD_eq_getElem?_getD]
    rw [e]; exact hp
theorem nil_get {f : Nat → Raw} : ∀ j, j < ([] : List PR).length → (([] : List PR).getD j pr0).2 = f j := fun j h => absurd h (Nat.not_lt_zero _)
theorem y_r06_Times {p : Prop} (h : p := by first | assumption | exact Lb_toL _ | omega | (simp; done) | exact hps _ (by omega)) : p := h
theorem r06_Times (s : SA) (ps : List PR) (p : RA) (c : Raw) (hps : ∀ i, i < ps.length → RQ 268435456 (ps.getD i pr0).2) (hc : RQ 268435456 c) (hl : ps.length ≤ 1000000) : Spec Tryz.prog 38 #[sl s ps.length, ratV p c] [fRats s ps, fRat p c] (ι := SA × List PR) (fun y => sl y.1 y.2.length) (fun y => y.2.length = ps.length ∧ ∀ j, j < y.2.length → (y.2.getD j pr0).2 = encQ (qv (ps.getD j pr0).2 * qv c)) (fun y => [fRats y.1 y.2]) := by
 refine Spec.of_body _ (fn := Tryz.f38) k_ rfl k_ (fun X w0 => ?_)
 refine J.fact (φ := ps.length ≤ 140737488355328) (fun w h => by have := (h _ (.head _)).1; omega) (fun hl1 => ?_)
 refine J.fact (φ := c.mag.length ≤ 140737488355328 ∧ c.den.length ≤ 140737488355328) (fun w h => by have h1 := (h _ (.tail _ ((.head _)))).1.1; have h2 := (h _ (.tail _ ((.head _)))).2.1; omega) (fun hl2 => ?_)
 refine J.sreg ?_
 refine RN.new (fun b => pt b) (.cells (ratC p c) 27 (0, 0)) k_ k_ (fun w => by kernel_rfl) (fun b3 => ?_)
 refine RN.bq (no 1) [0, 3] [] 2 [(0, sl s ps.length), (3, pt b3)] k_ ?_
 refine RN.fs k_ ?_
 refine RN.bq (no 1) [0, 3, 5] [] 1 [(0, sl s ps.length), (3, pt b3), (5, .slice none 0 0)] k_ ?_
 refine RN.fin k_ ?_
 refine J.seq ?_
 refine J.sreg ?_
 refine RN.bq (no 1) [0, 3, 5, 6] [] 1 [(0, sl s ps.length), (3, pt b3), (5, .slice none 0 0), (6, .int .i64 0)] k_ ?_
 refine RN.fin k_ ?_
 refine J.block ?_
 refine J.also (allRat ([] : List PR)) (fun w h => allRat_nil w) ?_
 refine J.loop (ι := (Option GB) × (List PR) × (Nat)) (fun x => x.2.2 ≤ ps.length ∧ gOk 3 x.1 x.2.1.length ∧ x.2.1.length = x.2.2 ∧ ∀ j, j < x.2.1.length → (x.2.1.getD j pr0).2 = encQ (qv (ps.getD j pr0).2 * qv c)) (fun x => ps.length - x.2.2) (fun x => [(0, sl s ps.length), (3, pt b3), (5, sl (glS x.1) x.2.1.length), (6, .int .i64 ((x.2.2 : Nat) : Int))]) (fun x => [(b3, .cells (ratC p c) 27 (0, 0))] ++ (glM x.1 (encR x.2.1) 27 ++ ([]))) (fun x => [allRat x.2.1, fRats s ps, fRat p c]) (none, ([] : List PR), 0) [0, 3, 5, 6] [0, 1, 2] (⟨Nat.zero_le _, rfl, rfl, nil_get⟩) k_ (by first | rfl | (simp only [encQ_zero]; done) | (simp only [encQ_zero]; rfl)) (by rfl) (fun x4 hI => ?_)
 obtain ⟨go, out, i⟩ := x4
 replace hI : i ≤ ps.length ∧ gOk 3 go out.length ∧ out.length = i ∧ ∀ j, j < out.length → (out.getD j pr0).2 = encQ (qv (ps.getD j pr0).2 * qv c) := hI
 obtain ⟨hI1, hI2, hI3, hI4⟩ := hI
 refine J.seq ?_
 refine J.sreg ?_
 refine RN.bq (no 4) [0, 3, 5, 6, 10] [] 4 [(0, sl s ps.length), (3, pt b3), (5, sl (glS go) out.length), (6, .int .i64 ((i : Nat) : Int)), (10, .bool (decide (((i : Nat) : Int) < ((ps.length : Nat) : Int))))] k_ ?_
 refine RN.fin k_ ?_
 refine J.cond (decide (((i : Nat) : Int) < ((ps.length : Nat) : Int))) k_ (fun c5 => ?_) (fun c5 => ?_)
 ·replace c5 := of_decide_eq_true c5
  refine J.skip ?_
  refine KN.next ?_
  refine J.seq ?_
  refine J.block ?_
  refine J.regD k_ [8] ?_
  refine RD.bq [(0, none), (1, none), (2, none), (5, some 0)] [0, 3, 6, 13, 14, 15, 18] [b3, b3, b3] [(0, sl s ps.length), (3, pt b3), (6, .int .i64 ((i : Nat) : Int)), (13, sl (glS go) out.length), (14, sl s ps.length), (15, .int .i64 ((i : Nat) : Int)), (18, ratV p c)] k_ k_ ?_
  refine RD.val (i := 3) _ k_ k_ k_ (q_ridx (t := 22) (x := (.tmp 14)) (ix := (.tmp 15)) (K := .i64) (i0 := ((i : Nat) : Int)) (m := i) (e := 27) 1 rfl k_ k_ k_ k_ k_ (by omega) x_) ?_
  refine RD.val (i := 4) _ k_ k_ k_ (q_rload (T := 27) (x := (.tmp 16)) (m := i) (s := s) (ps := ps) 1 rfl k_ k_ k_ k_ x_) ?_
  refine RD.also (fRat ((ps.getD i pr0).1) ((ps.getD i pr0).2)) (fun w h => rat_of (h _ (.tail _ ((.head _)))) x_) k_ ?_
  refine RD.call (i := 6) (r03_Mul ((ps.getD i pr0).1) ((ps.getD i pr0).2) p c y_r06_Times y_r06_Times) [0, 3] k_ k_ k_ k_ k_ rfl (fun y6 _ => ?_)
  refine RD.new (i := 7) (fun b => .slice (some ⟨b, 0, none⟩) 1 1) (.cells (encR ([(y6, (encQ ((qv ((ps.getD i pr0).2)) * (qv c))))] : List PR)) 27 (0, 0)) k_ k_ k_ k_ (fun w => by kernel_rfl) (fun b7 => ?_)
  refine RD.also (allRat ([(y6, (encQ ((qv ((ps.getD i pr0).2)) * (qv c))))] : List PR)) (fun w h => allRat_cons (h _ (.head _)) (allRat_nil _)) k_ ?_
  refine RD.ot (i := 8) k_ k_ k_ k_ (ot_rapp (z := .agg #[.bool false, .slice none 0 0, .slice none 0 0]) (T := 22) (e := 27) (by_ := 56) (mi := 0) (b := b7) (k := 1) (c := 1) (x := (.tmp 13)) (y := (.tmp 20)) (go := go) (xs := out) (ys := ([(y6, (encQ ((qv ((ps.getD i pr0).2)) * (qv c))))] : List PR)) [(b7, .cells (encR ([(y6, (encQ ((qv ((ps.getD i pr0).2)) * (qv c))))] : List PR)) 27 (0, 0)), (b3, .cells (ratC p c) 27 (0, 0))] ([]) rfl rfl k_ k_ k_ k_ k_ k_ rfl rfl (by first | decide | exact Nat.zero_lt_one | simp) (by assumption) x_ x_) (fun g8 hg9 => ?_)
  refine RD.also (allRat (out ++ ([(y6, (encQ ((qv ((ps.getD i pr0).2)) * (qv c))))] : List PR))) (fun w h => allRat_app (h _ (.tail _ ((.tail _ ((.tail _ ((.head _)))))))) (h _ (.head _))) k_ ?_
  refine RD.bq (nl [9]) [0, 3, 5, 6] [] [(0, sl s ps.length), (3, pt b3), (5, sl (glS (some g8)) (out ++ ([(y6, (encQ ((qv ((ps.getD i pr0).2)) * (qv c))))] : List PR)).length), (6, .int .i64 ((i : Nat) : Int))] k_ k_ ?_
  refine RD.done k_ ?_
  refine KN.blk ?_
  refine KN.next ?_
  refine J.regN ?_
  refine RN.bq (no 2) [0, 3, 5, 12] [] 2 [(0, sl s ps.length), (3, pt b3), (5, sl (glS (some g8)) (out ++ ([(y6, (encQ ((qv ((ps.getD i pr0).2)) * (qv c))))] : List PR)).length), (12, .int .i64 (IntKind.i64.wrap (((i : Nat) : Int) + 1)))] k_ ?_
  rw [show IntKind.i64.wrap (((i : Nat) : Int) + 1) = ((i + 1 : Nat) : Int) from by rw [IntKind.wrap_i64]; omega]
  refine RN.bq (no 1) [0, 3, 5, 6] [] 3 [(0, sl s ps.length), (3, pt b3), (5, sl (glS (some g8)) (out ++ ([(y6, (encQ ((qv ((ps.getD i pr0).2)) * (qv c))))] : List PR)).length), (6, .int .i64 ((i + 1 : Nat) : Int))] k_ ?_
  refine RN.done k_ ?_
  refine KN.dropF 1 ?_
  refine KN.roundE (some g8, out ++ ([(y6, (encQ ((qv ((ps.getD i pr0).2)) * (qv c))))] : List PR), i + 1) [0, 3, 5, 6] [0, 5, 6] (l2 := [(0, sl s ps.length), (3, pt b3), (5, sl (glS (some g8)) (out ++ ([(y6, (encQ ((qv ((ps.getD i pr0).2)) * (qv c))))] : List PR)).length), (6, .int .i64 ((i + 1 : Nat) : Int))]) (by (try dsimp only); omega) (by (try dsimp only); exact ⟨by omega, by assumption, by simp; omega, snoc_get hI4 (by rw [hI3])⟩) k_ (by rfl) (by rfl) (by rfl)
 ·replace c5 := of_decide_eq_false c5
  refine J.exit (KX.next (KX.next (KX.hit ?_)))
  refine KN.next ?_
  refine J.sreg ?_
  refine RN.bq (no 2) [4] [] 2 [(4, sl (glS go) out.length)] k_ ?_
  refine RN.fin k_ ?_
  refine J.shareG [(b3, .cells (ratC p c) 27 (0, 0))] ([]) rfl (fRats (glS go) out) (fun w hb h => fRats_gl hb (h _ (.head _)) (by assumption) x_) ?_
  refine J.ret (KR.ret (v := sl (glS go) out.length) (⟨glS go, out⟩) [none] [0] [] k_ rfl (⟨by show out.length = _; omega, hI4⟩) rfl)
theorem r06_Times_c (s : SA) (ps : List PR) (p : RA) (c' : Rat) (hps : ∀ i, i < ps.length → RQ 268435456 (ps.getD i pr0).2) (hc : Q 268435456 c') (hl : ps.length ≤ 1000000) : Spec Tryz.prog 38 #[sl s ps.length, ratV p (encQ c')] [fRats s ps, fRat p (encQ c')] (ι := SA × List PR) (fun y => sl y.1 y.2.length) (fun y => y.2.length = ps.length ∧ ∀ j, j < y.2.length → (y.2.getD j pr0).2 = encQ (qv (ps.getD j pr0).2 * c')) (fun y => [fRats y.1 y.2]) := by
  have H := r06_Times s ps p (encQ c') (by first | exact hps | simpa only [qv_encQ] using hps) (RQ_enc hc) (by first | exact hl | simpa only [qv_encQ] using hl)
  first | exact H | (simp only [qv_encQ, validQ_encQ] at H; exact H)
def meetB (a b c d : Rat) : Bool := !decide (minQ (hiQ a b) (hiQ c d) < maxQ (loQ a b) (loQ c d))
theorem Q_min {a b : Rat} {k : Nat} (ha : Q k a) (hb : Q k b) : Q k (minQ a b) := by unfold minQ; split <;> assumption
theorem Q_max {a b : Rat} {k : Nat} (ha : Q k a) (hb : Q k b) : Q k (maxQ a b) := by unfold maxQ; split <;> assumption
theorem Q_lo2 {a b : Rat} {k : Nat} (h : Q k a) (hk : 1 ≤ k) : Q k (loQ a b) := by unfold loQ; split; exact Q_0 hk; exact h
theorem Q_hi2 {a b : Rat} {k : Nat} (h : Q k b) (hk : 1 ≤ k) : Q k (hiQ a b) := by unfold hiQ; split; exact Q_0 hk; exact h
def mLo (a b c d : Rat) : Rat := if minQ (hiQ a b) (hiQ c d) < maxQ (loQ a b) (loQ c d) then 0 else maxQ (loQ a b) (loQ c d)
def mHi (a b c d : Rat) : Rat := if minQ (hiQ a b) (hiQ c d) < maxQ (loQ a b) (loQ c d) then 0 else minQ (hiQ a b) (hiQ c d)
theorem meetB_t {a b c d : Rat} (h : minQ (hiQ a b) (hiQ c d) < maxQ (loQ a b) (loQ c d)) : meetB a b c d = false := by unfold meetB; simp [h]
theorem meetB_f {a b c d : Rat} (h : ¬ minQ (hiQ a b) (hiQ c d) < maxQ (loQ a b) (loQ c d)) : meetB a b c d = true := by unfold meetB; simp [h]
theorem y_r04_Meet {p : Prop} (h : p := by first | assumption | exact Lb_toL _ | omega | (simp; done) | first | exact Q.le q1 (by decide) | exact Q.le q2 (by decide) | exact Q.le l1 (by decide) | exact Q.le l2 (by decide) | exact Q.le r1 (by decide) | exact Q.le r2 (by decide) | exact Q.le m1 (by decide) | exact Q.le m2 (by decide) | exact Q.le n1 (by decide) | exact Q.le n2 (by decide) | exact Q.le n3 (by decide) | exact Q.le ha (by decide) | exact Q.le hb (by decide) | exact Q.le hc (by decide) | exact Q.le hd (by decide)) : p := h
theorem r04_Meet (p : RA) (a : Rat) (u : RA) (b : Rat) (v : RA) (c : Rat) (w : RA) (d : Rat) (ha : Q 50000000 a) (hb : Q 50000000 b) (hc : Q 50000000 c) (hd : Q 50000000 d) : Spec Tryz.prog 34 #[.agg (ivC p (encQ a) u (encQ b)), .agg (ivC v (encQ c) w (encQ d))] [fRat p (encQ a), fRat u (encQ b), fRat v (encQ c), fRat w (encQ d)] (ι := RA × RA) (fun y => .tuple #[.agg (ivC y.1 (encQ (mLo a b c d)) y.2 (encQ (mHi a b c d))), .bool (meetB a b c d)]) (fun y => True) (fun y => [fRat y.1 (encQ (mLo a b c d)), fRat y.2 (encQ (mHi a b c d))]) := by
 refine Spec.of_body _ (fn := Tryz.f34) k_ rfl k_ (fun X w0 => ?_)
 refine J.fact (φ := (encQ a).mag.length ≤ 140737488355328 ∧ (encQ a).den.length ≤ 140737488355328) (fun w h => by have h1 := (h _ (.head _)).1.1; have h2 := (h _ (.head _)).2.1; omega) (fun hl1 => ?_)
 refine J.fact (φ := (encQ b).mag.length ≤ 140737488355328 ∧ (encQ b).den.length ≤ 140737488355328) (fun w h => by have h1 := (h _ (.tail _ ((.head _)))).1.1; have h2 := (h _ (.tail _ ((.head _)))).2.1; omega) (fun hl2 => ?_)
 refine J.fact (φ := (encQ c).mag.length ≤ 140737488355328 ∧ (encQ c).den.length ≤ 140737488355328) (fun w h => by have h1 := (h _ (.tail _ ((.tail _ ((.head _)))))).1.1; have h2 := (h _ (.tail _ ((.tail _ ((.head _)))))).2.1; omega) (fun hl3 => ?_)
 refine J.fact (φ := (encQ d).mag.length ≤ 140737488355328 ∧ (encQ d).den.length ≤ 140737488355328) (fun w h => by have h1 := (h _ (.tail _ ((.tail _ ((.tail _ ((.head _)))))))).1.1; have h2 := (h _ (.tail _ ((.tail _ ((.tail _ ((.head _)))))))).2.1; omega) (fun hl4 => ?_)
 have q1 := hb.sub ha
 have q2 := hd.sub hc
 have l1 := Q_lo2 (b := b) ha (by decide)
 have l2 := Q_lo2 (b := d) hc (by decide)
 have r1 := Q_hi2 (a := a) hb (by decide)
 have r2 := Q_hi2 (a := c) hd (by decide)
 have m1 := l1.sub l2
 have m2 := r2.sub r1
 have n1 := Q_max l1 l2
 have n2 := Q_min r1 r2
 have n3 := n2.sub n1
 refine J.sreg ?_
 refine RN.new (fun b => pt b) (.cells (ivC p (encQ a) u (encQ b)) 38 (0, 0)) k_ k_ (fun w => by kernel_rfl) (fun b5 => ?_)
 refine RN.new (fun b => pt b) (.cells (ivC v (encQ c) w (encQ d)) 38 (0, 0)) k_ k_ (fun w => by kernel_rfl) (fun b6 => ?_)
 refine RN.new (fun b => pt b) (.cells (ivC (⟨saNil, saNil⟩ : RA) (⟨false, ([] : List Nat), ([] : List Nat)⟩ : Raw) (⟨saNil, saNil⟩ : RA) (⟨false, ([] : List Nat), ([] : List Nat)⟩ : Raw)) 38 (0, 0)) k_ k_ (fun w => by kernel_rfl) (fun b7 => ?_)
 refine RN.bq (no 1) [2, 3, 4] [] 4 [(2, pt b5), (3, pt b6), (4, pt b7)] k_ ?_
 refine RN.fin k_ ?_
 refine J.seq ?_
 refine J.regD k_ [4, 5] ?_
 refine RD.bq [(0, some 2), (2, some 1)] [2, 3, 4, 8, 10] [b6, b6, b6, b6, b6, b6, b5, b5, b5, b5, b5, b5] [(2, pt b5), (3, pt b6), (4, pt b7), (8, .agg (ivC p (encQ a) u (encQ b))), (10, .agg (ivC v (encQ c) w (encQ d)))] k_ k_ ?_
 refine RD.call (i := 1) (r04_Take_c p a u b y_r04_Meet y_r04_Meet y_r04_Meet) [0, 1] k_ k_ k_ k_ k_ rfl (fun y8 _ => ?_)
 refine RD.call (i := 3) (r04_Take_c v c w d y_r04_Meet y_r04_Meet y_r04_Meet) [4, 5] k_ k_ k_ k_ k_ rfl (fun y9 _ => ?_)
 refine RD.last (i := 4) (some 2) [2, 3, 4, 11] [b5, b5, b5, b5, b5, b5] k_ k_ k_ (l' := [(2, pt b5), (3, pt b6), (4, pt b7), (11, .agg (ivC y9.1 (encQ (loQ c d)) y9.2 (encQ (hiQ c d))))]) (M' := [(b7, .cells (ivC (⟨saNil, saNil⟩ : RA) (⟨false, ([] : List Nat), ([] : List Nat)⟩ : Raw) (⟨saNil, saNil⟩ : RA) (⟨false, ([] : List Nat), ([] : List Nat)⟩ : Raw)) 38 (0, 0)), (b6, .cells (ivC v (encQ c) w (encQ d)) 38 (0, 0)), (b5, .cells (ivC y8.1 (encQ (loQ a b)) y8.2 (encQ (hiQ a b))) 38 (0, 0))]) k_ ?_
 refine RD.last (i := 5) (some 1) [2, 3, 4] [b6, b6, b6, b6, b6, b6] k_ k_ k_ (l' := [(2, pt b5), (3, pt b6), (4, pt b7)]) (M' := [(b7, .cells (ivC (⟨saNil, saNil⟩ : RA) (⟨false, ([] : List Nat), ([] : List Nat)⟩ : Raw) (⟨saNil, saNil⟩ : RA) (⟨false, ([] : List Nat), ([] : List Nat)⟩ : Raw)) 38 (0, 0)), (b6, .cells (ivC y9.1 (encQ (loQ c d)) y9.2 (encQ (hiQ c d))) 38 (0, 0)), (b5, .cells (ivC y8.1 (encQ (loQ a b)) y8.2 (encQ (hiQ a b))) 38 (0, 0))]) k_ ?_
 refine RD.done k_ ?_
 refine KN.next ?_
 refine J.seqC (ι := (RA) × (RA) × (Nat) × (Nat)) (fun x => True) (fun x => [(4, pt b7), (6, .pointer (some ⟨x.2.2.1, 0, none⟩)), (7, .pointer (some ⟨x.2.2.2, 0, none⟩))]) (fun x => [(x.2.2.2, .cells (ratC x.2.1 (encQ (minQ (hiQ a b) (hiQ c d)))) 27 (0, 0)), (x.2.2.1, .cells (ratC x.1 (encQ (maxQ (loQ a b) (loQ c d)))) 27 (0, 0)), (b7, .cells (ivC (⟨saNil, saNil⟩ : RA) (⟨false, ([] : List Nat), ([] : List Nat)⟩ : Raw) (⟨saNil, saNil⟩ : RA) (⟨false, ([] : List Nat), ([] : List Nat)⟩ : Raw)) 38 (0, 0)), (b6, .cells (ivC y9.1 (encQ (loQ c d)) y9.2 (encQ (hiQ c d))) 38 (0, 0)), (b5, .cells (ivC y8.1 (encQ (loQ a b)) y8.2 (encQ (hiQ a b))) 38 (0, 0))]) (fun x => [fRat x.2.1 (encQ (minQ (hiQ a b) (hiQ c d))), fRat x.1 (encQ (maxQ (loQ a b) (loQ c d))), fRat y9.1 (encQ (loQ c d)), fRat y9.2 (encQ (hiQ c d)), fRat y8.1 (encQ (loQ a b)), fRat y8.2 (encQ (hiQ a b)), fRat p (encQ a), fRat u (encQ b), fRat v (encQ c), fRat w (encQ d)]) ?_ ?_
 ·refine J.regD k_ [12, 13] ?_
  refine RD.bq [(0, none), (1, some 2), (2, none), (3, some 1), (5, none), (6, some 2), (7, none), (8, some 1)] [4, 13, 15, 18, 20] [b6, b6, b6, b5, b5, b5, b6, b6, b6, b5, b5, b5] [(4, pt b7), (13, ratV y8.1 (encQ (loQ a b))), (15, ratV y9.1 (encQ (loQ c d))), (18, ratV y8.2 (encQ (hiQ a b))), (20, ratV y9.2 (encQ (hiQ c d)))] k_ k_ ?_
  refine RD.forkL (is := [4, 10, 11]) k_ rfl k_ ⟨?_, ?_, ?_, trivial⟩
  ·refine RDi.call (i := 4) (r03_Max_c y8.1 (loQ a b) y9.1 (loQ c d) y_r04_Meet y_r04_Meet y_r04_Meet) [2, 0] k_ k_ k_ k_ rfl (fun y10 _ => ?_)
   refine RD.forkL (is := [9, 10, 11]) k_ rfl k_ ⟨?_, ?_, ?_, trivial⟩
   ·refine RDi.call (i := 9) (r03_Min_c y8.2 (hiQ a b) y9.2 (hiQ c d) y_r04_Meet y_r04_Meet y_r04_Meet) [4, 2] k_ k_ k_ k_ rfl (fun y11 _ => ?_)
    refine RD.forkL (is := [10, 11]) k_ rfl k_ ⟨?_, ?_, trivial⟩
    ·refine RDi.new (i := 10) (fun b => pt b) (.cells (ratC (⟨saNil, saNil⟩ : RA) (⟨false, ([] : List Nat), ([] : List Nat)⟩ : Raw)) 27 (0, 0)) k_ k_ k_ (fun w => by kernel_rfl) (fun b12 => ?_)
     refine RD.new (i := 11) (fun b => pt b) (.cells (ratC (⟨saNil, saNil⟩ : RA) (⟨false, ([] : List Nat), ([] : List Nat)⟩ : Raw)) 27 (0, 0)) k_ k_ k_ k_ (fun w => by kernel_rfl) (fun b13 => ?_)
     refine RD.last (i := 12) (some 1) [4, 6, 7, 21] [b12, b12, b12] k_ k_ k_ (l' := [(4, pt b7), (6, pt b12), (7, pt b13), (21, ratV y11 (encQ (minQ (hiQ a b) (hiQ c d))))]) (M' := [(b13, .cells (ratC (⟨saNil, saNil⟩ : RA) (⟨false, ([] : List Nat), ([] : List Nat)⟩ : Raw)) 27 (0, 0)), (b12, .cells (ratC y10 (encQ (maxQ (loQ a b) (loQ c d)))) 27 (0, 0)), (b7, .cells (ivC (⟨saNil, saNil⟩ : RA) (⟨false, ([] : List Nat), ([] : List Nat)⟩ : Raw) (⟨saNil, saNil⟩ : RA) (⟨false, ([] : List Nat), ([] : List Nat)⟩ : Raw)) 38 (0, 0)), (b6, .cells (ivC y9.1 (encQ (loQ c d)) y9.2 (encQ (hiQ c d))) 38 (0, 0)), (b5, .cells (ivC y8.1 (encQ (loQ a b)) y8.2 (encQ (hiQ a b))) 38 (0, 0))]) k_ ?_
     refine RD.last (i := 13) (some 0) [4, 6, 7] [b13, b13, b13] k_ k_ k_ (l' := [(4, pt b7), (6, pt b12), (7, pt b13)]) (M' := [(b13, .cells (ratC y11 (encQ (minQ (hiQ a b) (hiQ c d)))) 27 (0, 0)), (b12, .cells (ratC y10 (encQ (maxQ (loQ a b) (loQ c d)))) 27 (0, 0)), (b7, .cells (ivC (⟨saNil, saNil⟩ : RA) (⟨false, ([] : List Nat), ([] : List Nat)⟩ : Raw) (⟨saNil, saNil⟩ : RA) (⟨false, ([] : List Nat), ([] : List Nat)⟩ : Raw)) 38 (0, 0)), (b6, .cells (ivC y9.1 (encQ (loQ c d)) y9.2 (encQ (hiQ c d))) 38 (0, 0)), (b5, .cells (ivC y8.1 (encQ (loQ a b)) y8.2 (encQ (hiQ a b))) 38 (0, 0))]) k_ ?_
     refine RD.done k_ ?_
     refine KN.meet (y10, y11, b12, b13) [4, 6, 7] [0, 1, 2, 3, 4, 5, 6, 7, 8, 9] (l2 := [(4, pt b7), (6, pt b12), (7, pt b13)]) (by exact trivial) k_ (by rfl) (by rfl) (by rfl)
    ·refine RDi.new (i := 11) (fun b => pt b) (.cells (ratC (⟨saNil, saNil⟩ : RA) (⟨false, ([] : List Nat), ([] : List Nat)⟩ : Raw)) 27 (0, 0)) k_ k_ k_ (fun w => by kernel_rfl) (fun b14 => ?_)
     refine RD.new (i := 10) (fun b => pt b) (.cells (ratC (⟨saNil, saNil⟩ : RA) (⟨false, ([] : List Nat), ([] : List Nat)⟩ : Raw)) 27 (0, 0)) k_ k_ k_ k_ (fun w => by kernel_rfl) (fun b15 => ?_)
     refine RD.last (i := 12) (some 0) [4, 6, 7, 21] [b15, b15, b15] k_ k_ k_ (l' := [(4, pt b7), (6, pt b15), (7, pt b14), (21, ratV y11 (encQ (minQ (hiQ a b) (hiQ c d))))]) (M' := [(b15, .cells (ratC y10 (encQ (maxQ (loQ a b) (loQ c d)))) 27 (0, 0)), (b14, .cells (ratC (⟨saNil, saNil⟩ : RA) (⟨false, ([] : List Nat), ([] : List Nat)⟩ : Raw)) 27 (0, 0)), (b7, .cells (ivC (⟨saNil, saNil⟩ : RA) (⟨false, ([] : List Nat), ([] : List Nat)⟩ : Raw) (⟨saNil, saNil⟩ : RA) (⟨false, ([] : List Nat), ([] : List Nat)⟩ : Raw)) 38 (0, 0)), (b6, .cells (ivC y9.1 (encQ (loQ c d)) y9.2 (encQ (hiQ c d))) 38 (0, 0)), (b5, .cells (ivC y8.1 (encQ (loQ a b)) y8.2 (encQ (hiQ a b))) 38 (0, 0))]) k_ ?_
     refine RD.last (i := 13) (some 1) [4, 6, 7] [b14, b14, b14] k_ k_ k_ (l' := [(4, pt b7), (6, pt b15), (7, pt b14)]) (M' := [(b15, .cells (ratC y10 (encQ (maxQ (loQ a b) (loQ c d)))) 27 (0, 0)), (b14, .cells (ratC y11 (encQ (minQ (hiQ a b) (hiQ c d)))) 27 (0, 0)), (b7, .cells (ivC (⟨saNil, saNil⟩ : RA) (⟨false, ([] : List Nat), ([] : List Nat)⟩ : Raw) (⟨saNil, saNil⟩ : RA) (⟨false, ([] : List Nat), ([] : List Nat)⟩ : Raw)) 38 (0, 0)), (b6, .cells (ivC y9.1 (encQ (loQ c d)) y9.2 (encQ (hiQ c d))) 38 (0, 0)), (b5, .cells (ivC y8.1 (encQ (loQ a b)) y8.2 (encQ (hiQ a b))) 38 (0, 0))]) k_ ?_
     refine RD.done k_ ?_
     refine KN.pickB [(b15, .cells (ratC y10 (encQ (maxQ (loQ a b) (loQ c d)))) 27 (0, 0)), (b14, .cells (ratC y11 (encQ (minQ (hiQ a b) (hiQ c d)))) 27 (0, 0)), (b7, .cells (ivC (⟨saNil, saNil⟩ : RA) (⟨false, ([] : List Nat), ([] : List Nat)⟩ : Raw) (⟨saNil, saNil⟩ : RA) (⟨false, ([] : List Nat), ([] : List Nat)⟩ : Raw)) 38 (0, 0)), (b6, .cells (ivC y9.1 (encQ (loQ c d)) y9.2 (encQ (hiQ c d))) 38 (0, 0)), (b5, .cells (ivC y8.1 (encQ (loQ a b)) y8.2 (encQ (hiQ a b))) 38 (0, 0))] ([]) [1, 0, 2, 3, 4] rfl k_ (M' := [(b14, .cells (ratC y11 (encQ (minQ (hiQ a b) (hiQ c d)))) 27 (0, 0)), (b15, .cells (ratC y10 (encQ (maxQ (loQ a b) (loQ c d)))) 27 (0, 0)), (b7, .cells (ivC (⟨saNil, saNil⟩ : RA) (⟨false, ([] : List Nat), ([] : List Nat)⟩ : Raw) (⟨saNil, saNil⟩ : RA) (⟨false, ([] : List Nat), ([] : List Nat)⟩ : Raw)) 38 (0, 0)), (b6, .cells (ivC y9.1 (encQ (loQ c d)) y9.2 (encQ (hiQ c d))) 38 (0, 0)), (b5, .cells (ivC y8.1 (encQ (loQ a b)) y8.2 (encQ (hiQ a b))) 38 (0, 0))]) rfl ?_
     refine KN.meet (y10, y11, b15, b14) [4, 6, 7] [0, 1, 2, 3, 4, 5, 6, 7, 8, 9] (l2 := [(4, pt b7), (6, pt b15), (7, pt b14)]) (by exact trivial) k_ (by rfl) (by rfl) (by rfl)
   ·refine RDi.new (i := 10) (fun b => pt b) (.cells (ratC (⟨saNil, saNil⟩ : RA) (⟨false, ([] : List Nat), ([] : List Nat)⟩ : Raw)) 27 (0, 0)) k_ k_ k_ (fun w => by kernel_rfl) (fun b16 => ?_)
    refine RD.forkL (is := [9, 11]) k_ rfl k_ ⟨?_, ?_, trivial⟩
    ·refine RDi.call (i := 9) (r03_Min_c y8.2 (hiQ a b) y9.2 (hiQ c d) y_r04_Meet y_r04_Meet y_r04_Meet) [4, 2] k_ k_ k_ k_ rfl (fun y17 _ => ?_)
     refine RD.new (i := 11) (fun b => pt b) (.cells (ratC (⟨saNil, saNil⟩ : RA) (⟨false, ([] : List Nat), ([] : List Nat)⟩ : Raw)) 27 (0, 0)) k_ k_ k_ k_ (fun w => by kernel_rfl) (fun b18 => ?_)
     refine RD.last (i := 12) (some 1) [4, 6, 7, 21] [b16, b16, b16] k_ k_ k_ (l' := [(4, pt b7), (6, pt b16), (7, pt b18), (21, ratV y17 (encQ (minQ (hiQ a b) (hiQ c d))))]) (M' := [(b18, .cells (ratC (⟨saNil, saNil⟩ : RA) (⟨false, ([] : List Nat), ([] : List Nat)⟩ : Raw)) 27 (0, 0)), (b16, .cells (ratC y10 (encQ (maxQ (loQ a b) (loQ c d)))) 27 (0, 0)), (b7, .cells (ivC (⟨saNil, saNil⟩ : RA) (⟨false, ([] : List Nat), ([] : List Nat)⟩ : Raw) (⟨saNil, saNil⟩ : RA) (⟨false, ([] : List Nat), ([] : List Nat)⟩ : Raw)) 38 (0, 0)), (b6, .cells (ivC y9.1 (encQ (loQ c d)) y9.2 (encQ (hiQ c d))) 38 (0, 0)), (b5, .cells (ivC y8.1 (encQ (loQ a b)) y8.2 (encQ (hiQ a b))) 38 (0, 0))]) k_ ?_
     refine RD.last (i := 13) (some 0) [4, 6, 7] [b18, b18, b18] k_ k_ k_ (l' := [(4, pt b7), (6, pt b16), (7, pt b18)]) (M' := [(b18, .cells (ratC y17 (encQ (minQ (hiQ a b) (hiQ c d)))) 27 (0, 0)), (b16, .cells (ratC y10 (encQ (maxQ (loQ a b) (loQ c d)))) 27 (0, 0)), (b7, .cells (ivC (⟨saNil, saNil⟩ : RA) (⟨false, ([] : List Nat), ([] : List Nat)⟩ : Raw) (⟨saNil, saNil⟩ : RA) (⟨false, ([] : List Nat), ([] : List Nat)⟩ : Raw)) 38 (0, 0)), (b6, .cells (ivC y9.1 (encQ (loQ c d)) y9.2 (encQ (hiQ c d))) 38 (0, 0)), (b5, .cells (ivC y8.1 (encQ (loQ a b)) y8.2 (encQ (hiQ a b))) 38 (0, 0))]) k_ ?_
     refine RD.done k_ ?_
     refine KN.meet (y10, y17, b16, b18) [4, 6, 7] [0, 1, 2, 3, 4, 5, 6, 7, 8, 9] (l2 := [(4, pt b7), (6, pt b16), (7, pt b18)]) (by exact trivial) k_ (by rfl) (by rfl) (by rfl)
    ·refine RDi.new (i := 11) (fun b => pt b) (.cells (ratC (⟨saNil, saNil⟩ : RA) (⟨false, ([] : List Nat), ([] : List Nat)⟩ : Raw)) 27 (0, 0)) k_ k_ k_ (fun w => by kernel_rfl) (fun b19 => ?_)
     refine RD.call (i := 9) (r03_Min_c y8.2 (hiQ a b) y9.2 (hiQ c d) y_r04_Meet y_r04_Meet y_r04_Meet) [4, 2] k_ k_ k_ k_ k_ rfl (fun y20 _ => ?_)
     refine RD.last (i := 12) (some 1) [4, 6, 7, 21] [b16, b16, b16] k_ k_ k_ (l' := [(4, pt b7), (6, pt b16), (7, pt b19), (21, ratV y20 (encQ (minQ (hiQ a b) (hiQ c d))))]) (M' := [(b19, .cells (ratC (⟨saNil, saNil⟩ : RA) (⟨false, ([] : List Nat), ([] : List Nat)⟩ : Raw)) 27 (0, 0)), (b16, .cells (ratC y10 (encQ (maxQ (loQ a b) (loQ c d)))) 27 (0, 0)), (b7, .cells (ivC (⟨saNil, saNil⟩ : RA) (⟨false, ([] : List Nat), ([] : List Nat)⟩ : Raw) (⟨saNil, saNil⟩ : RA) (⟨false, ([] : List Nat), ([] : List Nat)⟩ : Raw)) 38 (0, 0)), (b6, .cells (ivC y9.1 (encQ (loQ c d)) y9.2 (encQ (hiQ c d))) 38 (0, 0)), (b5, .cells (ivC y8.1 (encQ (loQ a b)) y8.2 (encQ (hiQ a b))) 38 (0, 0))]) k_ ?_
     refine RD.last (i := 13) (some 0) [4, 6, 7] [b19, b19, b19] k_ k_ k_ (l' := [(4, pt b7), (6, pt b16), (7, pt b19)]) (M' := [(b19, .cells (ratC y20 (encQ (minQ (hiQ a b) (hiQ c d)))) 27 (0, 0)), (b16, .cells (ratC y10 (encQ (maxQ (loQ a b) (loQ c d)))) 27 (0, 0)), (b7, .cells (ivC (⟨saNil, saNil⟩ : RA) (⟨false, ([] : List Nat), ([] : List Nat)⟩ : Raw) (⟨saNil, saNil⟩ : RA) (⟨false, ([] : List Nat), ([] : List Nat)⟩ : Raw)) 38 (0, 0)), (b6, .cells (ivC y9.1 (encQ (loQ c d)) y9.2 (encQ (hiQ c d))) 38 (0, 0)), (b5, .cells (ivC y8.1 (encQ (loQ a b)) y8.2 (encQ (hiQ a b))) 38 (0, 0))]) k_ ?_
     refine RD.done k_ ?_
     refine KN.meet (y10, y20, b16, b19) [4, 6, 7] [0, 1, 2, 3, 4, 5, 6, 7, 8, 9] (l2 := [(4, pt b7), (6, pt b16), (7, pt b19)]) (by exact trivial) k_ (by rfl) (by rfl) (by rfl)
   ·refine RDi.new (i := 11) (fun b => pt b) (.cells (ratC (⟨saNil, saNil⟩ : RA) (⟨false, ([] : List Nat), ([] : List Nat)⟩ : Raw)) 27 (0, 0)) k_ k_ k_ (fun w => by kernel_rfl) (fun b21 => ?_)
    refine RD.forkL (is := [9, 10]) k_ rfl k_ ⟨?_, ?_, trivial⟩
    ·refine RDi.call (i := 9) (r03_Min_c y8.2 (hiQ a b) y9.2 (hiQ c d) y_r04_Meet y_r04_Meet y_r04_Meet) [4, 2] k_ k_ k_ k_ rfl (fun y22 _ => ?_)
     refine RD.new (i := 10) (fun b => pt b) (.cells (ratC (⟨saNil, saNil⟩ : RA) (⟨false, ([] : List Nat), ([] : List Nat)⟩ : Raw)) 27 (0, 0)) k_ k_ k_ k_ (fun w => by kernel_rfl) (fun b23 => ?_)
     refine RD.last (i := 12) (some 0) [4, 6, 7, 21] [b23, b23, b23] k_ k_ k_ (l' := [(4, pt b7), (6, pt b23), (7, pt b21), (21, ratV y22 (encQ (minQ (hiQ a b) (hiQ c d))))]) (M' := [(b23, .cells (ratC y10 (encQ (maxQ (loQ a b) (loQ c d)))) 27 (0, 0)), (b21, .cells (ratC (⟨saNil, saNil⟩ : RA) (⟨false, ([] : List Nat), ([] : List Nat)⟩ : Raw)) 27 (0, 0)), (b7, .cells (ivC (⟨saNil, saNil⟩ : RA) (⟨false, ([] : List Nat), ([] : List Nat)⟩ : Raw) (⟨saNil, saNil⟩ : RA) (⟨false, ([] : List Nat), ([] : List Nat)⟩ : Raw)) 38 (0, 0)), (b6, .cells (ivC y9.1 (encQ (loQ c d)) y9.2 (encQ (hiQ c d))) 38 (0, 0)), (b5, .cells (ivC y8.1 (encQ (loQ a b)) y8.2 (encQ (hiQ a b))) 38 (0, 0))]) k_ ?_
     refine RD.last (i := 13) (some 1) [4, 6, 7] [b21, b21, b21] k_ k_ k_ (l' := [(4, pt b7), (6, pt b23), (7, pt b21)]) (M' := [(b23, .cells (ratC y10 (encQ (maxQ (loQ a b) (loQ c d)))) 27 (0, 0)), (b21, .cells (ratC y22 (encQ (minQ (hiQ a b) (hiQ c d)))) 27 (0, 0)), (b7, .cells (ivC (⟨saNil, saNil⟩ : RA) (⟨false, ([] : List Nat), ([] : List Nat)⟩ : Raw) (⟨saNil, saNil⟩ : RA) (⟨false, ([] : List Nat), ([] : List Nat)⟩ : Raw)) 38 (0, 0)), (b6, .cells (ivC y9.1 (encQ (loQ c d)) y9.2 (encQ (hiQ c d))) 38 (0, 0)), (b5, .cells (ivC y8.1 (encQ (loQ a b)) y8.2 (encQ (hiQ a b))) 38 (0, 0))]) k_ ?_
     refine RD.done k_ ?_
     refine KN.pickB [(b23, .cells (ratC y10 (encQ (maxQ (loQ a b) (loQ c d)))) 27 (0, 0)), (b21, .cells (ratC y22 (encQ (minQ (hiQ a b) (hiQ c d)))) 27 (0, 0)), (b7, .cells (ivC (⟨saNil, saNil⟩ : RA) (⟨false, ([] : List Nat), ([] : List Nat)⟩ : Raw) (⟨saNil, saNil⟩ : RA) (⟨false, ([] : List Nat), ([] : List Nat)⟩ : Raw)) 38 (0, 0)), (b6, .cells (ivC y9.1 (encQ (loQ c d)) y9.2 (encQ (hiQ c d))) 38 (0, 0)), (b5, .cells (ivC y8.1 (encQ (loQ a b)) y8.2 (encQ (hiQ a b))) 38 (0, 0))] ([]) [1, 0, 2, 3, 4] rfl k_ (M' := [(b21, .cells (ratC y22 (encQ (minQ (hiQ a b) (hiQ c d)))) 27 (0, 0)), (b23, .cells (ratC y10 (encQ (maxQ (loQ a b) (loQ c d)))) 27 (0, 0)), (b7, .cells (ivC (⟨saNil, saNil⟩ : RA) (⟨false, ([] : List Nat), ([] : List Nat)⟩ : Raw) (⟨saNil, saNil⟩ : RA) (⟨false, ([] : List Nat), ([] : List Nat)⟩ : Raw)) 38 (0, 0)), (b6, .cells (ivC y9.1 (encQ (loQ c d)) y9.2 (encQ (hiQ c d))) 38 (0, 0)), (b5, .cells (ivC y8.1 (encQ (loQ a b)) y8.2 (encQ (hiQ a b))) 38 (0, 0))]) rfl ?_
     refine KN.meet (y10, y22, b23, b21) [4, 6, 7] [0, 1, 2, 3, 4, 5, 6, 7, 8, 9] (l2 := [(4, pt b7), (6, pt b23), (7, pt b21)]) (by exact trivial) k_ (by rfl) (by rfl) (by rfl)
    ·refine RDi.new (i := 10) (fun b => pt b) (.cells (ratC (⟨saNil, saNil⟩ : RA) (⟨false, ([] : List Nat), ([] : List Nat)⟩ : Raw)) 27 (0, 0)) k_ k_ k_ (fun w => by kernel_rfl) (fun b24 => ?_)
     refine RD.call (i := 9) (r03_Min_c y8.2 (hiQ a b) y9.2 (hiQ c d) y_r04_Meet y_r04_Meet y_r04_Meet) [4, 2] k_ k_ k_ k_ k_ rfl (fun y25 _ => ?_)
     refine RD.last (i := 12) (some 0) [4, 6, 7, 21] [b24, b24, b24] k_ k_ k_ (l' := [(4, pt b7), (6, pt b24), (7, pt b21), (21, ratV y25 (encQ (minQ (hiQ a b) (hiQ c d))))]) (M' := [(b24, .cells (ratC y10 (encQ (maxQ (loQ a b) (loQ c d)))) 27 (0, 0)), (b21, .cells (ratC (⟨saNil, saNil⟩ : RA) (⟨false, ([] : List Nat), ([] : List Nat)⟩ : Raw)) 27 (0, 0)), (b7, .cells (ivC (⟨saNil, saNil⟩ : RA) (⟨false, ([] : List Nat), ([] : List Nat)⟩ : Raw) (⟨saNil, saNil⟩ : RA) (⟨false, ([] : List Nat), ([] : List Nat)⟩ : Raw)) 38 (0, 0)), (b6, .cells (ivC y9.1 (encQ (loQ c d)) y9.2 (encQ (hiQ c d))) 38 (0, 0)), (b5, .cells (ivC y8.1 (encQ (loQ a b)) y8.2 (encQ (hiQ a b))) 38 (0, 0))]) k_ ?_
     refine RD.last (i := 13) (some 1) [4, 6, 7] [b21, b21, b21] k_ k_ k_ (l' := [(4, pt b7), (6, pt b24), (7, pt b21)]) (M' := [(b24, .cells (ratC y10 (encQ (maxQ (loQ a b) (loQ c d)))) 27 (0, 0)), (b21, .cells (ratC y25 (encQ (minQ (hiQ a b) (hiQ c d)))) 27 (0, 0)), (b7, .cells (ivC (⟨saNil, saNil⟩ : RA) (⟨false, ([] : List Nat), ([] : List Nat)⟩ : Raw) (⟨saNil, saNil⟩ : RA) (⟨false, ([] : List Nat), ([] : List Nat)⟩ : Raw)) 38 (0, 0)), (b6, .cells (ivC y9.1 (encQ (loQ c d)) y9.2 (encQ (hiQ c d))) 38 (0, 0)), (b5, .cells (ivC y8.1 (encQ (loQ a b)) y8.2 (encQ (hiQ a b))) 38 (0, 0))]) k_ ?_
     refine RD.done k_ ?_
     refine KN.pickB [(b24, .cells (ratC y10 (encQ (maxQ (loQ a b) (loQ c d)))) 27 (0, 0)), (b21, .cells (ratC y25 (encQ (minQ (hiQ a b) (hiQ c d)))) 27 (0, 0)), (b7, .cells (ivC (⟨saNil, saNil⟩ : RA) (⟨false, ([] : List Nat), ([] : List Nat)⟩ : Raw) (⟨saNil, saNil⟩ : RA) (⟨false, ([] : List Nat), ([] : List Nat)⟩ : Raw)) 38 (0, 0)), (b6, .cells (ivC y9.1 (encQ (loQ c d)) y9.2 (encQ (hiQ c d))) 38 (0, 0)), (b5, .cells (ivC y8.1 (encQ (loQ a b)) y8.2 (encQ (hiQ a b))) 38 (0, 0))] ([]) [1, 0, 2, 3, 4] rfl k_ (M' := [(b21, .cells (ratC y25 (encQ (minQ (hiQ a b) (hiQ c d)))) 27 (0, 0)), (b24, .cells (ratC y10 (encQ (maxQ (loQ a b) (loQ c d)))) 27 (0, 0)), (b7, .cells (ivC (⟨saNil, saNil⟩ : RA) (⟨false, ([] : List Nat), ([] : List Nat)⟩ : Raw) (⟨saNil, saNil⟩ : RA) (⟨false, ([] : List Nat), ([] : List Nat)⟩ : Raw)) 38 (0, 0)), (b6, .cells (ivC y9.1 (encQ (loQ c d)) y9.2 (encQ (hiQ c d))) 38 (0, 0)), (b5, .cells (ivC y8.1 (encQ (loQ a b)) y8.2 (encQ (hiQ a b))) 38 (0, 0))]) rfl ?_
     refine KN.meet (y10, y25, b24, b21) [4, 6, 7] [0, 1, 2, 3, 4, 5, 6, 7, 8, 9] (l2 := [(4, pt b7), (6, pt b24), (7, pt b21)]) (by exact trivial) k_ (by rfl) (by rfl) (by rfl)
  ·refine RDi.new (i := 10) (fun b => pt b) (.cells (ratC (⟨saNil, saNil⟩ : RA) (⟨false, ([] : List Nat), ([] : List Nat)⟩ : Raw)) 27 (0, 0)) k_ k_ k_ (fun w => by kernel_rfl) (fun b26 => ?_)
   refine RD.forkL (is := [4, 11]) k_ rfl k_ ⟨?_, ?_, trivial⟩
   ·refine RDi.call (i := 4) (r03_Max_c y8.1 (loQ a b) y9.1 (loQ c d) y_r04_Meet y_r04_Meet y_r04_Meet) [2, 0] k_ k_ k_ k_ rfl (fun y27 _ => ?_)
    refine RD.forkL (is := [9, 11]) k_ rfl k_ ⟨?_, ?_, trivial⟩
    ·refine RDi.call (i := 9) (r03_Min_c y8.2 (hiQ a b) y9.2 (hiQ c d) y_r04_Meet y_r04_Meet y_r04_Meet) [4, 2] k_ k_ k_ k_ rfl (fun y28 _ => ?_)
     refine RD.new (i := 11) (fun b => pt b) (.cells (ratC (⟨saNil, saNil⟩ : RA) (⟨false, ([] : List Nat), ([] : List Nat)⟩ : Raw)) 27 (0, 0)) k_ k_ k_ k_ (fun w => by kernel_rfl) (fun b29 => ?_)
     refine RD.last (i := 12) (some 1) [4, 6, 7, 21] [b26, b26, b26] k_ k_ k_ (l' := [(4, pt b7), (6, pt b26), (7, pt b29), (21, ratV y28 (encQ (minQ (hiQ a b) (hiQ c d))))]) (M' := [(b29, .cells (ratC (⟨saNil, saNil⟩ : RA) (⟨false, ([] : List Nat), ([] : List Nat)⟩ : Raw)) 27 (0, 0)), (b26, .cells (ratC y27 (encQ (maxQ (loQ a b) (loQ c d)))) 27 (0, 0)), (b7, .cells (ivC (⟨saNil, saNil⟩ : RA) (⟨false, ([] : List Nat), ([] : List Nat)⟩ : Raw) (⟨saNil, saNil⟩ : RA) (⟨false, ([] : List Nat), ([] : List Nat)⟩ : Raw)) 38 (0, 0)), (b6, .cells (ivC y9.1 (encQ (loQ c d)) y9.2 (encQ (hiQ c d))) 38 (0, 0)), (b5, .cells (ivC y8.1 (encQ (loQ a b)) y8.2 (encQ (hiQ a b))) 38 (0, 0))]) k_ ?_
     refine RD.last (i := 13) (some 0) [4, 6, 7] [b29, b29, b29] k_ k_ k_ (l' := [(4, pt b7), (6, pt b26), (7, pt b29)]) (M' := [(b29, .cells (ratC y28 (encQ (minQ (hiQ a b) (hiQ c d)))) 27 (0, 0)), (b26, .cells (ratC y27 (encQ (maxQ (loQ a b) (loQ c d)))) 27 (0, 0)), (b7, .cells (ivC (⟨saNil, saNil⟩ : RA) (⟨false, ([] : List Nat), ([] : List Nat)⟩ : Raw) (⟨saNil, saNil⟩ : RA) (⟨false, ([] : List Nat), ([] : List Nat)⟩ : Raw)) 38 (0, 0)), (b6, .cells (ivC y9.1 (encQ (loQ c d)) y9.2 (encQ (hiQ c d))) 38 (0, 0)), (b5, .cells (ivC y8.1 (encQ (loQ a b)) y8.2 (encQ (hiQ a b))) 38 (0, 0))]) k_ ?_
     refine RD.done k_ ?_
     refine KN.meet (y27, y28, b26, b29) [4, 6, 7] [0, 1, 2, 3, 4, 5, 6, 7, 8, 9] (l2 := [(4, pt b7), (6, pt b26), (7, pt b29)]) (by exact trivial) k_ (by rfl) (by rfl) (by rfl)
    ·refine RDi.new (i := 11) (fun b => pt b) (.cells (ratC (⟨saNil, saNil⟩ : RA) (⟨false, ([] : List Nat), ([] : List Nat)⟩ : Raw)) 27 (0, 0)) k_ k_ k_ (fun w => by kernel_rfl) (fun b30 => ?_)
     refine RD.call (i := 9) (r03_Min_c y8.2 (hiQ a b) y9.2 (hiQ c d) y_r04_Meet y_r04_Meet y_r04_Meet) [4, 2] k_ k_ k_ k_ k_ rfl (fun y31 _ => ?_)
     refine RD.last (i := 12) (some 1) [4, 6, 7, 21] [b26, b26, b26] k_ k_ k_ (l' := [(4, pt b7), (6, pt b26), (7, pt b30), (21, ratV y31 (encQ (minQ (hiQ a b) (hiQ c d))))]) (M' := [(b30, .cells (ratC (⟨saNil, saNil⟩ : RA) (⟨false, ([] : List Nat), ([] : List Nat)⟩ : Raw)) 27 (0, 0)), (b26, .cells (ratC y27 (encQ (maxQ (loQ a b) (loQ c d)))) 27 (0, 0)), (b7, .cells (ivC (⟨saNil, saNil⟩ : RA) (⟨false, ([] : List Nat), ([] : List Nat)⟩ : Raw) (⟨saNil, saNil⟩ : RA) (⟨false, ([] : List Nat), ([] : List Nat)⟩ : Raw)) 38 (0, 0)), (b6, .cells (ivC y9.1 (encQ (loQ c d)) y9.2 (encQ (hiQ c d))) 38 (0, 0)), (b5, .cells (ivC y8.1 (encQ (loQ a b)) y8.2 (encQ (hiQ a b))) 38 (0, 0))]) k_ ?_
     refine RD.last (i := 13) (some 0) [4, 6, 7] [b30, b30, b30] k_ k_ k_ (l' := [(4, pt b7), (6, pt b26), (7, pt b30)]) (M' := [(b30, .cells (ratC y31 (encQ (minQ (hiQ a b) (hiQ c d)))) 27 (0, 0)), (b26, .cells (ratC y27 (encQ (maxQ (loQ a b) (loQ c d)))) 27 (0, 0)), (b7, .cells (ivC (⟨saNil, saNil⟩ : RA) (⟨false, ([] : List Nat), ([] : List Nat)⟩ : Raw) (⟨saNil, saNil⟩ : RA) (⟨false, ([] : List Nat), ([] : List Nat)⟩ : Raw)) 38 (0, 0)), (b6, .cells (ivC y9.1 (encQ (loQ c d)) y9.2 (encQ (hiQ c d))) 38 (0, 0)), (b5, .cells (ivC y8.1 (encQ (loQ a b)) y8.2 (encQ (hiQ a b))) 38 (0, 0))]) k_ ?_
     refine RD.done k_ ?_
     refine KN.meet (y27, y31, b26, b30) [4, 6, 7] [0, 1, 2, 3, 4, 5, 6, 7, 8, 9] (l2 := [(4, pt b7), (6, pt b26), (7, pt b30)]) (by exact trivial) k_ (by rfl) (by rfl) (by rfl)
   ·refine RDi.new (i := 11) (fun b => pt b) (.cells (ratC (⟨saNil, saNil⟩ : RA) (⟨false, ([] : List Nat), ([] : List Nat)⟩ : Raw)) 27 (0, 0)) k_ k_ k_ (fun w => by kernel_rfl) (fun b32 => ?_)
    refine RD.call (i := 4) (r03_Max_c y8.1 (loQ a b) y9.1 (loQ c d) y_r04_Meet y_r04_Meet y_r04_Meet) [2, 0] k_ k_ k_ k_ k_ rfl (fun y33 _ => ?_)
    refine RD.call (i := 9) (r03_Min_c y8.2 (hiQ a b) y9.2 (hiQ c d) y_r04_Meet y_r04_Meet y_r04_Meet) [4, 2] k_ k_ k_ k_ k_ rfl (fun y34 _ => ?_)
    refine RD.last (i := 12) (some 1) [4, 6, 7, 21] [b26, b26, b26] k_ k_ k_ (l' := [(4, pt b7), (6, pt b26), (7, pt b32), (21, ratV y34 (encQ (minQ (hiQ a b) (hiQ c d))))]) (M' := [(b32, .cells (ratC (⟨saNil, saNil⟩ : RA) (⟨false, ([] : List Nat), ([] : List Nat)⟩ : Raw)) 27 (0, 0)), (b26, .cells (ratC y33 (encQ (maxQ (loQ a b) (loQ c d)))) 27 (0, 0)), (b7, .cells (ivC (⟨saNil, saNil⟩ : RA) (⟨false, ([] : List Nat), ([] : List Nat)⟩ : Raw) (⟨saNil, saNil⟩ : RA) (⟨false, ([] : List Nat), ([] : List Nat)⟩ : Raw)) 38 (0, 0)), (b6, .cells (ivC y9.1 (encQ (loQ c d)) y9.2 (encQ (hiQ c d))) 38 (0, 0)), (b5, .cells (ivC y8.1 (encQ (loQ a b)) y8.2 (encQ (hiQ a b))) 38 (0, 0))]) k_ ?_
    refine RD.last (i := 13) (some 0) [4, 6, 7] [b32, b32, b32] k_ k_ k_ (l' := [(4, pt b7), (6, pt b26), (7, pt b32)]) (M' := [(b32, .cells (ratC y34 (encQ (minQ (hiQ a b) (hiQ c d)))) 27 (0, 0)), (b26, .cells (ratC y33 (encQ (maxQ (loQ a b) (loQ c d)))) 27 (0, 0)), (b7, .cells (ivC (⟨saNil, saNil⟩ : RA) (⟨false, ([] : List Nat), ([] : List Nat)⟩ : Raw) (⟨saNil, saNil⟩ : RA) (⟨false, ([] : List Nat), ([] : List Nat)⟩ : Raw)) 38 (0, 0)), (b6, .cells (ivC y9.1 (encQ (loQ c d)) y9.2 (encQ (hiQ c d))) 38 (0, 0)), (b5, .cells (ivC y8.1 (encQ (loQ a b)) y8.2 (encQ (hiQ a b))) 38 (0, 0))]) k_ ?_
    refine RD.done k_ ?_
    refine KN.meet (y33, y34, b26, b32) [4, 6, 7] [0, 1, 2, 3, 4, 5, 6, 7, 8, 9] (l2 := [(4, pt b7), (6, pt b26), (7, pt b32)]) (by exact trivial) k_ (by rfl) (by rfl) (by rfl)
  ·refine RDi.new (i := 11) (fun b => pt b) (.cells (ratC (⟨saNil, saNil⟩ : RA) (⟨false, ([] : List Nat), ([] : List Nat)⟩ : Raw)) 27 (0, 0)) k_ k_ k_ (fun w => by kernel_rfl) (fun b35 => ?_)
   refine RD.forkL (is := [4, 10]) k_ rfl k_ ⟨?_, ?_, trivial⟩
   ·refine RDi.call (i := 4) (r03_Max_c y8.1 (loQ a b) y9.1 (loQ c d) y_r04_Meet y_r04_Meet y_r04_Meet) [2, 0] k_ k_ k_ k_ rfl (fun y36 _ => ?_)
    refine RD.forkL (is := [9, 10]) k_ rfl k_ ⟨?_, ?_, trivial⟩
    ·refine RDi.call (i := 9) (r03_Min_c y8.2 (hiQ a b) y9.2 (hiQ c d) y_r04_Meet y_r04_Meet y_r04_Meet) [4, 2] k_ k_ k_ k_ rfl (fun y37 _ => ?_)
     refine RD.new (i := 10) (fun b => pt b) (.cells (ratC (⟨saNil, saNil⟩ : RA) (⟨false, ([] : List Nat), ([] : List Nat)⟩ : Raw)) 27 (0, 0)) k_ k_ k_ k_ (fun w => by kernel_rfl) (fun b38 => ?_)
     refine RD.last (i := 12) (some 0) [4, 6, 7, 21] [b38, b38, b38] k_ k_ k_ (l' := [(4, pt b7), (6, pt b38), (7, pt b35), (21, ratV y37 (encQ (minQ (hiQ a b) (hiQ c d))))]) (M' := [(b38, .cells (ratC y36 (encQ (maxQ (loQ a b) (loQ c d)))) 27 (0, 0)), (b35, .cells (ratC (⟨saNil, saNil⟩ : RA) (⟨false, ([] : List Nat), ([] : List Nat)⟩ : Raw)) 27 (0, 0)), (b7, .cells (ivC (⟨saNil, saNil⟩ : RA) (⟨false, ([] : List Nat), ([] : List Nat)⟩ : Raw) (⟨saNil, saNil⟩ : RA) (⟨false, ([] : List Nat), ([] : List Nat)⟩ : Raw)) 38 (0, 0)), (b6, .cells (ivC y9.1 (encQ (loQ c d)) y9.2 (encQ (hiQ c d))) 38 (0, 0)), (b5, .cells (ivC y8.1 (encQ (loQ a b)) y8.2 (encQ (hiQ a b))) 38 (0, 0))]) k_ ?_
     refine RD.last (i := 13) (some 1) [4, 6, 7] [b35, b35, b35] k_ k_ k_ (l' := [(4, pt b7), (6, pt b38), (7, pt b35)]) (M' := [(b38, .cells (ratC y36 (encQ (maxQ (loQ a b) (loQ c d)))) 27 (0, 0)), (b35, .cells (ratC y37 (encQ (minQ (hiQ a b) (hiQ c d)))) 27 (0, 0)), (b7, .cells (ivC (⟨saNil, saNil⟩ : RA) (⟨false, ([] : List Nat), ([] : List Nat)⟩ : Raw) (⟨saNil, saNil⟩ : RA) (⟨false, ([] : List Nat), ([] : List Nat)⟩ : Raw)) 38 (0, 0)), (b6, .cells (ivC y9.1 (encQ (loQ c d)) y9.2 (encQ (hiQ c d))) 38 (0, 0)), (b5, .cells (ivC y8.1 (encQ (loQ a b)) y8.2 (encQ (hiQ a b))) 38 (0, 0))]) k_ ?_
     refine RD.done k_ ?_
     refine KN.pickB [(b38, .cells (ratC y36 (encQ (maxQ (loQ a b) (loQ c d)))) 27 (0, 0)), (b35, .cells (ratC y37 (encQ (minQ (hiQ a b) (hiQ c d)))) 27 (0, 0)), (b7, .cells (ivC (⟨saNil, saNil⟩ : RA) (⟨false, ([] : List Nat), ([] : List Nat)⟩ : Raw) (⟨saNil, saNil⟩ : RA) (⟨false, ([] : List Nat), ([] : List Nat)⟩ : Raw)) 38 (0, 0)), (b6, .cells (ivC y9.1 (encQ (loQ c d)) y9.2 (encQ (hiQ c d))) 38 (0, 0)), (b5, .cells (ivC y8.1 (encQ (loQ a b)) y8.2 (encQ (hiQ a b))) 38 (0, 0))] ([]) [1, 0, 2, 3, 4] rfl k_ (M' := [(b35, .cells (ratC y37 (encQ (minQ (hiQ a b) (hiQ c d)))) 27 (0, 0)), (b38, .cells (ratC y36 (encQ (maxQ (loQ a b) (loQ c d)))) 27 (0, 0)), (b7, .cells (ivC (⟨saNil, saNil⟩ : RA) (⟨false, ([] : List Nat), ([] : List Nat)⟩ : Raw) (⟨saNil, saNil⟩ : RA) (⟨false, ([] : List Nat), ([] : List Nat)⟩ : Raw)) 38 (0, 0)), (b6, .cells (ivC y9.1 (encQ (loQ c d)) y9.2 (encQ (hiQ c d))) 38 (0, 0)), (b5, .cells (ivC y8.1 (encQ (loQ a b)) y8.2 (encQ (hiQ a b))) 38 (0, 0))]) rfl ?_
     refine KN.meet (y36, y37, b38, b35) [4, 6, 7] [0, 1, 2, 3, 4, 5, 6, 7, 8, 9] (l2 := [(4, pt b7), (6, pt b38), (7, pt b35)]) (by exact trivial) k_ (by rfl) (by rfl) (by rfl)
    ·refine RDi.new (i := 10) (fun b => pt b) (.cells (ratC (⟨saNil, saNil⟩ : RA) (⟨false, ([] : List Nat), ([] : List Nat)⟩ : Raw)) 27 (0, 0)) k_ k_ k_ (fun w => by kernel_rfl) (fun b39 => ?_)
     refine RD.call (i := 9) (r03_Min_c y8.2 (hiQ a b) y9.2 (hiQ c d) y_r04_Meet y_r04_Meet y_r04_Meet) [4, 2] k_ k_ k_ k_ k_ rfl (fun y40 _ => ?_)
     refine RD.last (i := 12) (some 0) [4, 6, 7, 21] [b39, b39, b39] k_ k_ k_ (l' := [(4, pt b7), (6, pt b39), (7, pt b35), (21, ratV y40 (encQ (minQ (hiQ a b) (hiQ c d))))]) (M' := [(b39, .cells (ratC y36 (encQ (maxQ (loQ a b) (loQ c d)))) 27 (0, 0)), (b35, .cells (ratC (⟨saNil, saNil⟩ : RA) (⟨false, ([] : List Nat), ([] : List Nat)⟩ : Raw)) 27 (0, 0)), (b7, .cells (ivC (⟨saNil, saNil⟩ : RA) (⟨false, ([] : List Nat), ([] : List Nat)⟩ : Raw) (⟨saNil, saNil⟩ : RA) (⟨false, ([] : List Nat), ([] : List Nat)⟩ : Raw)) 38 (0, 0)), (b6, .cells (ivC y9.1 (encQ (loQ c d)) y9.2 (encQ (hiQ c d))) 38 (0, 0)), (b5, .cells (ivC y8.1 (encQ (loQ a b)) y8.2 (encQ (hiQ a b))) 38 (0, 0))]) k_ ?_
     refine RD.last (i := 13) (some 1) [4, 6, 7] [b35, b35, b35] k_ k_ k_ (l' := [(4, pt b7), (6, pt b39), (7, pt b35)]) (M' := [(b39, .cells (ratC y36 (encQ (maxQ (loQ a b) (loQ c d)))) 27 (0, 0)), (b35, .cells (ratC y40 (encQ (minQ (hiQ a b) (hiQ c d)))) 27 (0, 0)), (b7, .cells (ivC (⟨saNil, saNil⟩ : RA) (⟨false, ([] : List Nat), ([] : List Nat)⟩ : Raw) (⟨saNil, saNil⟩ : RA) (⟨false, ([] : List Nat), ([] : List Nat)⟩ : Raw)) 38 (0, 0)), (b6, .cells (ivC y9.1 (encQ (loQ c d)) y9.2 (encQ (hiQ c d))) 38 (0, 0)), (b5, .cells (ivC y8.1 (encQ (loQ a b)) y8.2 (encQ (hiQ a b))) 38 (0, 0))]) k_ ?_
     refine RD.done k_ ?_
     refine KN.pickB [(b39, .cells (ratC y36 (encQ (maxQ (loQ a b) (loQ c d)))) 27 (0, 0)), (b35, .cells (ratC y40 (encQ (minQ (hiQ a b) (hiQ c d)))) 27 (0, 0)), (b7, .cells (ivC (⟨saNil, saNil⟩ : RA) (⟨false, ([] : List Nat), ([] : List Nat)⟩ : Raw) (⟨saNil, saNil⟩ : RA) (⟨false, ([] : List Nat), ([] : List Nat)⟩ : Raw)) 38 (0, 0)), (b6, .cells (ivC y9.1 (encQ (loQ c d)) y9.2 (encQ (hiQ c d))) 38 (0, 0)), (b5, .cells (ivC y8.1 (encQ (loQ a b)) y8.2 (encQ (hiQ a b))) 38 (0, 0))] ([]) [1, 0, 2, 3, 4] rfl k_ (M' := [(b35, .cells (ratC y40 (encQ (minQ (hiQ a b) (hiQ c d)))) 27 (0, 0)), (b39, .cells (ratC y36 (encQ (maxQ (loQ a b) (loQ c d)))) 27 (0, 0)), (b7, .cells (ivC (⟨saNil, saNil⟩ : RA) (⟨false, ([] : List Nat), ([] : List Nat)⟩ : Raw) (⟨saNil, saNil⟩ : RA) (⟨false, ([] : List Nat), ([] : List Nat)⟩ : Raw)) 38 (0, 0)), (b6, .cells (ivC y9.1 (encQ (loQ c d)) y9.2 (encQ (hiQ c d))) 38 (0, 0)), (b5, .cells (ivC y8.1 (encQ (loQ a b)) y8.2 (encQ (hiQ a b))) 38 (0, 0))]) rfl ?_
     refine KN.meet (y36, y40, b39, b35) [4, 6, 7] [0, 1, 2, 3, 4, 5, 6, 7, 8, 9] (l2 := [(4, pt b7), (6, pt b39), (7, pt b35)]) (by exact trivial) k_ (by rfl) (by rfl) (by rfl)
   ·refine RDi.new (i := 10) (fun b => pt b) (.cells (ratC (⟨saNil, saNil⟩ : RA) (⟨false, ([] : List Nat), ([] : List Nat)⟩ : Raw)) 27 (0, 0)) k_ k_ k_ (fun w => by kernel_rfl) (fun b41 => ?_)
    refine RD.call (i := 4) (r03_Max_c y8.1 (loQ a b) y9.1 (loQ c d) y_r04_Meet y_r04_Meet y_r04_Meet) [2, 0] k_ k_ k_ k_ k_ rfl (fun y42 _ => ?_)
    refine RD.call (i := 9) (r03_Min_c y8.2 (hiQ a b) y9.2 (hiQ c d) y_r04_Meet y_r04_Meet y_r04_Meet) [4, 2] k_ k_ k_ k_ k_ rfl (fun y43 _ => ?_)
    refine RD.last (i := 12) (some 0) [4, 6, 7, 21] [b41, b41, b41] k_ k_ k_ (l' := [(4, pt b7), (6, pt b41), (7, pt b35), (21, ratV y43 (encQ (minQ (hiQ a b) (hiQ c d))))]) (M' := [(b41, .cells (ratC y42 (encQ (maxQ (loQ a b) (loQ c d)))) 27 (0, 0)), (b35, .cells (ratC (⟨saNil, saNil⟩ : RA) (⟨false, ([] : List Nat), ([] : List Nat)⟩ : Raw)) 27 (0, 0)), (b7, .cells (ivC (⟨saNil, saNil⟩ : RA) (⟨false, ([] : List Nat), ([] : List Nat)⟩ : Raw) (⟨saNil, saNil⟩ : RA) (⟨false, ([] : List Nat), ([] : List Nat)⟩ : Raw)) 38 (0, 0)), (b6, .cells (ivC y9.1 (encQ (loQ c d)) y9.2 (encQ (hiQ c d))) 38 (0, 0)), (b5, .cells (ivC y8.1 (encQ (loQ a b)) y8.2 (encQ (hiQ a b))) 38 (0, 0))]) k_ ?_
    refine RD.last (i := 13) (some 1) [4, 6, 7] [b35, b35, b35] k_ k_ k_ (l' := [(4, pt b7), (6, pt b41), (7, pt b35)]) (M' := [(b41, .cells (ratC y42 (encQ (maxQ (loQ a b) (loQ c d)))) 27 (0, 0)), (b35, .cells (ratC y43 (encQ (minQ (hiQ a b) (hiQ c d)))) 27 (0, 0)), (b7, .cells (ivC (⟨saNil, saNil⟩ : RA) (⟨false, ([] : List Nat), ([] : List Nat)⟩ : Raw) (⟨saNil, saNil⟩ : RA) (⟨false, ([] : List Nat), ([] : List Nat)⟩ : Raw)) 38 (0, 0)), (b6, .cells (ivC y9.1 (encQ (loQ c d)) y9.2 (encQ (hiQ c d))) 38 (0, 0)), (b5, .cells (ivC y8.1 (encQ (loQ a b)) y8.2 (encQ (hiQ a b))) 38 (0, 0))]) k_ ?_
    refine RD.done k_ ?_
    refine KN.pickB [(b41, .cells (ratC y42 (encQ (maxQ (loQ a b) (loQ c d)))) 27 (0, 0)), (b35, .cells (ratC y43 (encQ (minQ (hiQ a b) (hiQ c d)))) 27 (0, 0)), (b7, .cells (ivC (⟨saNil, saNil⟩ : RA) (⟨false, ([] : List Nat), ([] : List Nat)⟩ : Raw) (⟨saNil, saNil⟩ : RA) (⟨false, ([] : List Nat), ([] : List Nat)⟩ : Raw)) 38 (0, 0)), (b6, .cells (ivC y9.1 (encQ (loQ c d)) y9.2 (encQ (hiQ c d))) 38 (0, 0)), (b5, .cells (ivC y8.1 (encQ (loQ a b)) y8.2 (encQ (hiQ a b))) 38 (0, 0))] ([]) [1, 0, 2, 3, 4] rfl k_ (M' := [(b35, .cells (ratC y43 (encQ (minQ (hiQ a b) (hiQ c d)))) 27 (0, 0)), (b41, .cells (ratC y42 (encQ (maxQ (loQ a b) (loQ c d)))) 27 (0, 0)), (b7, .cells (ivC (⟨saNil, saNil⟩ : RA) (⟨false, ([] : List Nat), ([] : List Nat)⟩ : Raw) (⟨saNil, saNil⟩ : RA) (⟨false, ([] : List Nat), ([] : List Nat)⟩ : Raw)) 38 (0, 0)), (b6, .cells (ivC y9.1 (encQ (loQ c d)) y9.2 (encQ (hiQ c d))) 38 (0, 0)), (b5, .cells (ivC y8.1 (encQ (loQ a b)) y8.2 (encQ (hiQ a b))) 38 (0, 0))]) rfl ?_
    refine KN.meet (y42, y43, b41, b35) [4, 6, 7] [0, 1, 2, 3, 4, 5, 6, 7, 8, 9] (l2 := [(4, pt b7), (6, pt b41), (7, pt b35)]) (by exact trivial) k_ (by rfl) (by rfl) (by rfl)
 ·intro x44 hx45
  obtain ⟨y10, y11, b12, b13⟩ := x44
  replace hx45 : True := hx45
  refine J.seq ?_
  refine J.sreg ?_
  refine RN.bq [some 0, some 1] [4, 6, 7, 22, 23] [b12, b12, b12, b13, b13, b13] 2 [(4, pt b7), (6, pt b12), (7, pt b13), (22, ratV y11 (encQ (minQ (hiQ a b) (hiQ c d)))), (23, ratV y10 (encQ (maxQ (loQ a b) (loQ c d))))] k_ ?_
  refine RN.call (r03_Less_c y11 (minQ (hiQ a b) (hiQ c d)) y10 (maxQ (loQ a b) (loQ c d)) y_r04_Meet y_r04_Meet y_r04_Meet) [0, 1] k_ k_ k_ rfl (fun y46 _ => ?_)
  refine RN.fin k_ ?_
  refine J.cond (decide ((minQ (hiQ a b) (hiQ c d)) < (maxQ (loQ a b) (loQ c d)))) k_ (fun c47 => ?_) (fun c47 => ?_)
  ·replace c47 := of_decide_eq_true c47
   refine J.sreg ?_
   refine RN.bs [none, some 2, none] [4, 5] [b7, b7, b7, b7, b7, b7] 3 [(4, pt b7), (5, .bool false)] ([(b13, .cells (ratC y11 (encQ (minQ (hiQ a b) (hiQ c d)))) 27 (0, 0)), (b12, .cells (ratC y10 (encQ (maxQ (loQ a b) (loQ c d)))) 27 (0, 0)), (b7, .cells (ivC (⟨saNil, saNil⟩ : RA) (⟨false, ([] : List Nat), ([] : List Nat)⟩ : Raw) (⟨saNil, saNil⟩ : RA) (⟨false, ([] : List Nat), ([] : List Nat)⟩ : Raw)) 38 (0, 0)), (b6, .cells (ivC y9.1 (encQ (loQ c d)) y9.2 (encQ (hiQ c d))) 38 (0, 0)), (b5, .cells (ivC y8.1 (encQ (loQ a b)) y8.2 (encQ (hiQ a b))) 38 (0, 0))]) k_ ?_
   refine RN.fin k_ ?_
   have e_1 : (mLo a b c d) = (0 : Rat) := by first | exact meetB_t ‹_› | exact if_pos ‹_›
   have e_2 : (mHi a b c d) = (0 : Rat) := by first | exact meetB_t ‹_› | exact if_pos ‹_›
   have e_3 : (meetB a b c d) = false := by first | exact meetB_t ‹_› | exact if_pos ‹_›
   refine J.also (fRat (⟨saNil, saNil⟩ : RA) (⟨false, ([] : List Nat), ([] : List Nat)⟩ : Raw)) (fun w h => ⟨fU_nil w, fU_nil w⟩) ?_
   refine J.ret (KR.next (KR.ret (v := .tuple #[.agg (ivC (⟨saNil, saNil⟩ : RA) (⟨false, ([] : List Nat), ([] : List Nat)⟩ : Raw) (⟨saNil, saNil⟩ : RA) (⟨false, ([] : List Nat), ([] : List Nat)⟩ : Raw)), .bool false]) (⟨⟨saNil, saNil⟩, ⟨saNil, saNil⟩⟩) [some 2, none] [0, 0] [b7, b7, b7, b7, b7, b7] k_ v3_ (trivial) v3_))
  ·replace c47 := of_decide_eq_false c47
   refine J.skip ?_
   refine KN.next ?_
   refine J.sreg ?_
   refine RN.bs [some 1, some 0, none, some 2, none] [4, 5] [b7, b7, b7, b7, b7, b7, b13, b13, b13, b12, b12, b12] 5 [(4, pt b7), (5, .bool true)] ([(b13, .cells (ratC y11 (encQ (minQ (hiQ a b) (hiQ c d)))) 27 (0, 0)), (b12, .cells (ratC y10 (encQ (maxQ (loQ a b) (loQ c d)))) 27 (0, 0)), (b7, .cells (ivC y10 (encQ (maxQ (loQ a b) (loQ c d))) y11 (encQ (minQ (hiQ a b) (hiQ c d)))) 38 (0, 0)), (b6, .cells (ivC y9.1 (encQ (loQ c d)) y9.2 (encQ (hiQ c d))) 38 (0, 0)), (b5, .cells (ivC y8.1 (encQ (loQ a b)) y8.2 (encQ (hiQ a b))) 38 (0, 0))]) k_ ?_
   refine RN.fin k_ ?_
   have e_1 : (mLo a b c d : Rat) = (maxQ (loQ a b) (loQ c d) : Rat) := by first | exact meetB_f ‹_› | exact if_neg ‹_›
   have e_2 : (mHi a b c d : Rat) = (minQ (hiQ a b) (hiQ c d) : Rat) := by first | exact meetB_f ‹_› | exact if_neg ‹_›
   have e_3 : (meetB a b c d) = true := by first | exact meetB_f ‹_› | exact if_neg ‹_›
   refine J.ret (KR.ret (v := .tuple #[.agg (ivC y10 (encQ (maxQ (loQ a b) (loQ c d))) y11 (encQ (minQ (hiQ a b) (hiQ c d)))), .bool true]) (⟨y10, y11⟩) [some 2, none] [1, 0] [b7, b7, b7, b7, b7, b7] k_ v3_ (trivial) v3_)
end Go.Proofs.YtegnonhgildhoaaGreat.E
/- Plain laws of rational numbers, sums and the biweight scale: no program. -/
namespace Go.Proofs.YtegnonhgildhoaaGreat.E
set_option linter.unusedVariables false
set_option linter.unusedSimpArgs false
theorem rlt_trans {a b c : Rat} (h : a < b) (g : b < c) : a < c := by grind
theorem rle_trans {a b c : Rat} (h : a ≤ b) (g : b ≤ c) : a ≤ c := by grind
theorem rmul_le {a b c : Rat} (h : a ≤ b) (hc : 0 ≤ c) : c * a ≤ c * b := Rat.mul_le_mul_of_nonneg_left h hc
theorem rsq (a : Rat) : 0 ≤ a * a := by
  rcases Rat.le_total (a := 0) (b := a) with h | h
  · exact Rat.mul_nonneg h h
  · have := Rat.mul_nonneg (a := -a) (b := -a) (by grind) (by grind)
    grind
theorem rsq_pos {a : Rat} (h : a ≠ 0) : 0 < a * a := by
  have h1 := rsq a
  have h2 : a * a ≠ 0 := by
    intro e
    rcases Rat.mul_eq_zero.1 e with e | e <;> exact h e
  grind
theorem rinv_nn {a : Rat} (h : 0 ≤ a) : 0 ≤ a⁻¹ := by
  by_cases h0 : a = 0
  · rw [h0, Rat.inv_zero]; exact Rat.le_refl
  · have : 0 < a⁻¹ := Rat.inv_pos.2 (by grind)
    grind
theorem rdiv_nn {a b : Rat} (ha : 0 ≤ a) (hb : 0 ≤ b) : 0 ≤ a / b := by
  rw [Rat.div_def]; exact Rat.mul_nonneg ha (rinv_nn hb)
theorem rdiv_le_div {a b c : Rat} (h : a ≤ b) (hc : 0 ≤ c) : a / c ≤ b / c := by
  rw [Rat.div_def, Rat.div_def]; exact Rat.mul_le_mul_of_nonneg_right h (rinv_nn hc)
theorem rinv_anti {a b : Rat} (ha : 0 < a) (h : a ≤ b) : b⁻¹ ≤ a⁻¹ := by
  have hb : 0 < b := by grind
  have h1 := rmul_le h (rinv_nn (Rat.le_of_lt ha))
  have h2 := rmul_le h1 (rinv_nn (Rat.le_of_lt hb))
  have e1 : a⁻¹ * a = 1 := by have := Rat.mul_inv_cancel a (by grind); grind
  have e2 : b⁻¹ * (a⁻¹ * b) = a⁻¹ := by have := Rat.mul_inv_cancel b (by grind); grind
  rw [e2, e1] at h2
  grind
theorem rdiv_anti {a b c : Rat} (hc : 0 ≤ c) (ha : 0 < a) (h : a ≤ b) : c / b ≤ c / a := by
  rw [Rat.div_def, Rat.div_def]; exact rmul_le (rinv_anti ha h) hc
theorem rdiv_cancel {a b : Rat} (hb : b ≠ 0) : a / b * b = a := by grind
theorem rle_div {a b c : Rat} (hb : 0 < b) (h : a * b ≤ c) : a ≤ c / b := by
  have := rdiv_le_div h (Rat.le_of_lt hb)
  have e : a * b / b = a := by grind
  rwa [e] at this
theorem rdiv_le {a b c : Rat} (hb : 0 < b) (h : c ≤ a * b) : c / b ≤ a := by
  have := rdiv_le_div h (Rat.le_of_lt hb)
  have e : a * b / b = a := by grind
  rwa [e] at this
theorem rcast_pos {n : Nat} (h : 0 < n) : (0 : Rat) < ((n : Int) : Rat) := by
  have : ((0 : Int) : Rat) < ((n : Int) : Rat) := Rat.intCast_lt_intCast.2 (by omega)
  simpa using this
theorem rcast_nn (n : Nat) : (0 : Rat) ≤ ((n : Int) : Rat) := by
  have : ((0 : Int) : Rat) ≤ ((n : Int) : Rat) := Rat.intCast_le_intCast.2 (by omega)
  simpa using this
theorem rcast_succ (n : Nat) : (((n + 1 : Nat) : Int) : Rat) = ((n : Int) : Rat) + 1 := by
  rw [show ((n + 1 : Nat) : Int) = (n : Int) + 1 from by omega, Rat.intCast_add]; rfl
/-! sums -/
def sumN (f : Nat → Rat) : Nat → Rat
  | 0 => 0
  | k + 1 => sumN f k + f k
theorem sumN_congr {f g : Nat → Rat} {n : Nat} (h : ∀ i, i < n → f i = g i) : sumN f n = sumN g n := by
  induction n with
  | zero => rfl
  | succ k ih => rw [sumN, sumN, ih (fun i hi => h i (by omega)), h k (by omega)]
theorem sumN_le {f g : Nat → Rat} {n : Nat} (h : ∀ i, i < n → f i ≤ g i) : sumN f n ≤ sumN g n := by
  induction n with
  | zero => exact Rat.le_refl
  | succ k ih =>
    have h1 := ih (fun i hi => h i (by omega))
    have h2 := h k (by omega)
    rw [sumN, sumN]; grind
theorem sumN_const (c : Rat) (n : Nat) : sumN (fun _ => c) n = ((n : Int) : Rat) * c := by
  induction n with
  | zero => rw [sumN]; grind
  | succ k ih => rw [sumN, ih, rcast_succ]; grind
def cntN (p : Nat → Bool) : Nat → Nat
  | 0 => 0
  | k + 1 => cntN p k + if p k then 1 else 0
theorem cntN_le (p : Nat → Bool) (n : Nat) : cntN p n ≤ n := by
  induction n with
  | zero => exact Nat.le_refl _
  | succ k ih => rw [cntN]; split <;> omega
theorem cntN_sum (p : Nat → Bool) (n : Nat) : ((cntN p n : Int) : Rat) = sumN (fun i => if p i then 1 else 0) n := by
  induction n with
  | zero => rfl
  | succ k ih =>
    rw [cntN, sumN, ← ih]
    by_cases h : p k
    · rw [if_pos h, if_pos h, rcast_succ]
    · rw [if_neg h, if_neg h]; grind
/-! the biweight -/
def rhoQ (u : Rat) : Rat := if u < 0 then 0 else if 1 < u then 1 else 1 - (1 - u) * ((1 - u) * (1 - u))
theorem rho_ge1 {u : Rat} (h : 1 ≤ u) : rhoQ u = 1 := by
  unfold rhoQ
  rw [if_neg (by grind)]
  split
  · rfl
  · have : u = 1 := by grind
    subst this; grind
theorem rho_in {u : Rat} (h : 0 ≤ u) (h1 : u ≤ 1) : rhoQ u = 1 - (1 - u) * ((1 - u) * (1 - u)) := by
  unfold rhoQ
  rw [if_neg (by grind), if_neg (by grind)]
theorem rho_zero : rhoQ 0 = 0 := by rw [rho_in (by grind) (by grind)]; grind
theorem rho_le1 (u : Rat) : rhoQ u ≤ 1 := by
  by_cases h : u < 0
  · unfold rhoQ; rw [if_pos h]; grind
  · by_cases h1 : u ≤ 1
    · rw [rho_in (by grind) h1]
      have := Rat.mul_nonneg (a := 1 - u) (b := (1 - u) * (1 - u)) (by grind) (rsq _)
      grind
    · rw [rho_ge1 (by grind)]; grind
theorem rho_mono {u v : Rat} (hu : 0 ≤ u) (h : u ≤ v) : rhoQ u ≤ rhoQ v := by
  by_cases hv : 1 ≤ v
  · rw [rho_ge1 hv]; exact rho_le1 u
  · rw [rho_in hu (by grind), rho_in (by grind) (by grind)]
    have a1 : 0 ≤ 1 - v := by grind
    have a2 : 1 - v ≤ 1 - u := by grind
    have a3 : 0 ≤ 1 - u := by grind
    have b1 := rmul_le a2 a1
    have b2 := rmul_le a2 a3
    have b3 : (1 - v) * (1 - v) ≤ (1 - u) * (1 - u) := by grind
    have b4 := rmul_le b3 a1
    have b5 := Rat.mul_le_mul_of_nonneg_right a2 (rsq (1 - u))
    grind
theorem rho_le3 {u : Rat} (h : 0 ≤ u) : rhoQ u ≤ 3 * u := by
  by_cases h1 : u ≤ 1
  · rw [rho_in h h1]
    have := Rat.mul_nonneg (a := u * u) (b := 3 - u) (rsq u) (by grind)
    grind
  · have := rho_le1 u; grind
def vals (ps : List PR) : Nat → Rat := fun i => qv (ps.getD i pr0).2
def meanN (x : Nat → Rat) (n : Nat) (c s : Rat) : Rat := sumN (fun i => rhoQ (x i * x i / (c * s))) n / ((n : Int) : Rat)
def shareN (x : Nat → Rat) (n : Nat) : Rat := ((cntN (fun i => decide (x i ≠ 0)) n : Int) : Rat) / ((n : Int) : Rat)
theorem mean_anti {x : Nat → Rat} {n : Nat} {c s t : Rat} (hc : 0 < c) (hs : 0 < s) (h : s ≤ t) : meanN x n c t ≤ meanN x n c s := by
  refine rdiv_le_div (sumN_le (fun i _ => ?_)) (rcast_nn n)
  have h1 : 0 < c * s := Rat.mul_pos hc hs
  have h2 : c * s ≤ c * t := rmul_le h (Rat.le_of_lt hc)
  exact rho_mono (rdiv_nn (rsq _) (by grind)) (rdiv_anti (rsq _) h1 h2)
theorem mean_low {x : Nat → Rat} {n : Nat} {c s : Rat} (hcs : 0 < c * s) (h : ∀ i, i < n → x i ≠ 0 → c * s ≤ x i * x i) : meanN x n c s = shareN x n := by
  unfold meanN shareN
  rw [cntN_sum]
  congr 1
  refine sumN_congr (fun i hi => ?_)
  show _ = if decide (x i ≠ 0) = true then (1 : Rat) else 0
  by_cases h0 : x i = 0
  · rw [h0, if_neg (by simp), show (0 : Rat) * 0 / (c * s) = 0 from by grind, rho_zero]
  · rw [if_pos (by simp [h0]), rho_ge1 (rle_div hcs (by have := h i hi h0; grind))]
theorem mean_high {x : Nat → Rat} {n : Nat} {c s m : Rat} (hn : 0 < n) (hcs : 0 < c * s) (h : ∀ i, i < n → x i * x i ≤ m) : meanN x n c s ≤ 3 * (m / (c * s)) := by
  unfold meanN
  refine rdiv_le (rcast_pos hn) ?_
  have : sumN (fun i => rhoQ (x i * x i / (c * s))) n ≤ sumN (fun _ => 3 * (m / (c * s))) n := sumN_le (fun i hi => by
    have h1 := rho_le3 (rdiv_nn (rsq (x i)) (Rat.le_of_lt hcs))
    have h2 := rdiv_le_div (h i hi) (Rat.le_of_lt hcs)
    grind)
  rw [sumN_const] at this
  grind
end Go.Proofs.YtegnonhgildhoaaGreat.E
/- Plain law of Scale's three loops: bounds of what is above, dyadic numbers and their sizes. -/
namespace Go.Proofs.YtegnonhgildhoaaGreat.E
set_option linter.unusedVariables false
set_option linter.unusedSimpArgs false
/-- W to the power of k, as a number. -/
def KW (k : Nat) : Rat := ((W ^ k : Nat) : Int)
theorem KW_pos (k : Nat) : 0 < KW k := rcast_pos (Wpos k)
theorem KW_add (k l : Nat) : KW (k + l) = KW k * KW l := by
  unfold KW; rw [Nat.pow_add, Int.natCast_mul, Rat.intCast_mul]
theorem num_eq (q : Rat) : (q.num : Rat) = q * ((q.den : Int) : Rat) := by
  have h := Rat.num_divInt_den q
  rw [Rat.divInt_eq_div] at h
  have hd : (0 : Rat) < ((q.den : Int) : Rat) := rcast_pos (Nat.pos_of_ne_zero q.den_nz)
  have e := rdiv_cancel (a := (q.num : Rat)) (b := ((q.den : Int) : Rat)) (by grind)
  rw [h] at e; exact e.symm
theorem Q.abs_le {k : Nat} {q : Rat} (h : Q k q) : -KW k ≤ q ∧ q ≤ KW k := by
  obtain ⟨h1, h2⟩ := Q_iff.1 h
  have e := num_eq q
  have hd : (1 : Rat) ≤ ((q.den : Int) : Rat) := by
    have : ((1 : Int) : Rat) ≤ ((q.den : Int) : Rat) := Rat.intCast_le_intCast.2 (by have := q.den_nz; omega)
    simpa using this
  have n1 : (q.num : Rat) ≤ KW k := Rat.intCast_le_intCast.2 (by omega)
  have n2 : -KW k ≤ (q.num : Rat) := by
    have : ((-((W ^ k : Nat) : Int) : Int) : Rat) ≤ (q.num : Rat) := Rat.intCast_le_intCast.2 (by omega)
    rwa [Rat.intCast_neg] at this
  have hK := KW_pos k
  constructor
  · by_cases h0 : 0 ≤ q
    · grind
    · have := rmul_le (a := 1) (b := ((q.den : Int) : Rat)) (c := -q) hd (by grind)
      grind
  · by_cases h0 : q ≤ 0
    · grind
    · have := rmul_le (a := 1) (b := ((q.den : Int) : Rat)) (c := q) hd (by grind)
      grind
theorem Q.sq_le {k : Nat} {q : Rat} (h : Q k q) : q * q ≤ KW (k + k) := by
  obtain ⟨a, b⟩ := h.abs_le
  rw [KW_add]
  have := Rat.mul_nonneg (a := KW k - q) (b := KW k + q) (by grind) (by grind)
  grind
theorem Q.pos_ge {k : Nat} {q : Rat} (h : Q k q) (h0 : 0 < q) : 1 ≤ q * KW k := by
  obtain ⟨h1, h2⟩ := Q_iff.1 h
  have e := num_eq q
  have hd : ((q.den : Int) : Rat) ≤ KW k := Rat.intCast_le_intCast.2 (by omega)
  have hp : (0 : Rat) < ((q.den : Int) : Rat) := rcast_pos (Nat.pos_of_ne_zero q.den_nz)
  have hn : (0 : Rat) < (q.num : Rat) := by rw [e]; exact Rat.mul_pos h0 hp
  have hn1 : (1 : Rat) ≤ (q.num : Rat) := by
    have : (0 : Int) < q.num := by
      have := Rat.intCast_lt_intCast (a := 0) (b := q.num)
      exact this.1 (by simpa using hn)
    have : ((1 : Int) : Rat) ≤ (q.num : Rat) := Rat.intCast_le_intCast.2 (by omega)
    simpa using this
  have := rmul_le hd (Rat.le_of_lt h0)
  grind
theorem Q.ne_ge {k : Nat} {q : Rat} (h : Q k q) (h0 : q ≠ 0) : 1 ≤ q * q * KW (k + k) := (h.mul h).pos_ge (rsq_pos h0)
/-! above and below -/
theorem mean_top {x : Nat → Rat} {n : Nat} {c b s : Rat} (hn : 0 < n) (hx : ∀ i, i < n → Q 64 (x i)) (hc : Q 64 c) (hc0 : 0 < c) (hb : Q 64 b) (hb0 : 0 < b) (hs : KW 257 ≤ s) : meanN x n c s ≤ b := by
  have hs0 : 0 < s := by have := KW_pos 257; grind
  have hcs := Rat.mul_pos hc0 hs0
  have h1 := mean_high hn hcs (fun i hi => (hx i hi).sq_le)
  refine rle_trans h1 ?_
  have e : 3 * (KW (64 + 64) / (c * s)) = 3 * KW (64 + 64) / (c * s) := by grind
  rw [e]
  refine rdiv_le hcs ?_
  have a1 := hb.pos_ge hb0
  have a2 := hc.pos_ge hc0
  have a3 : 3 ≤ KW 1 := by
    have : ((3 : Int) : Rat) ≤ KW 1 := Rat.intCast_le_intCast.2 (by rw [Nat.pow_one]; decide +kernel)
    simpa using this
  have e1 : KW 257 = KW 1 * (KW 64 * KW 64) * (KW 64 * KW 64) := by rw [← KW_add, ← KW_add, ← KW_add]
  have p64 := KW_pos 64
  rw [KW_add]
  have b1 : 1 ≤ b * KW 64 * (c * KW 64) := by
    have := rmul_le a2 (c := b * KW 64) (by grind)
    grind
  have b2 : KW 257 * (b * c) ≤ s * (b * c) := Rat.mul_le_mul_of_nonneg_right hs (Rat.le_of_lt (Rat.mul_pos hb0 hc0))
  have p2 : 0 ≤ KW 64 * KW 64 := Rat.le_of_lt (Rat.mul_pos p64 p64)
  have b3 : KW 1 * (KW 64 * KW 64) * 1 ≤ KW 1 * (KW 64 * KW 64) * (b * KW 64 * (c * KW 64)) := rmul_le b1 (Rat.mul_nonneg (by grind) p2)
  have b4 : 3 * (KW 64 * KW 64) ≤ KW 1 * (KW 64 * KW 64) := Rat.mul_le_mul_of_nonneg_right a3 p2
  have b5 : KW 1 * (KW 64 * KW 64) * (b * KW 64 * (c * KW 64)) = KW 257 * (b * c) := by rw [e1]; grind
  have b6 : KW 1 * (KW 64 * KW 64) * 1 = KW 1 * (KW 64 * KW 64) := by grind
  have b7 : s * (b * c) = b * (c * s) := by grind
  rw [b5, b6] at b3
  rw [b7] at b2
  exact rle_trans b4 (rle_trans b3 b2)
theorem mean_bot {x : Nat → Rat} {n : Nat} {c s : Rat} (hx : ∀ i, i < n → Q 64 (x i)) (hc : Q 64 c) (hc0 : 0 < c) (hs0 : 0 < s) (hs : s * KW 192 ≤ 1) : meanN x n c s = shareN x n := by
  refine mean_low (Rat.mul_pos hc0 hs0) (fun i hi h0 => ?_)
  have a1 := (hx i hi).ne_ge h0
  have a2 := hc.abs_le.2
  have e1 : KW 192 = KW 64 * KW (64 + 64) := by rw [← KW_add]
  rw [e1] at hs
  have pk := KW_pos (64 + 64)
  have b1 : c * s ≤ KW 64 * s := Rat.mul_le_mul_of_nonneg_right a2 (Rat.le_of_lt hs0)
  have b2 : c * s * KW (64 + 64) ≤ KW 64 * s * KW (64 + 64) := Rat.mul_le_mul_of_nonneg_right b1 (Rat.le_of_lt pk)
  have b3 : c * s * KW (64 + 64) ≤ x i * x i * KW (64 + 64) := by grind
  have := rdiv_le_div b3 (Rat.le_of_lt pk)
  have e2 : c * s * KW (64 + 64) / KW (64 + 64) = c * s := by grind
  have e3 : x i * x i * KW (64 + 64) / KW (64 + 64) = x i * x i := by grind
  rwa [e2, e3] at this
/-! dyadic numbers -/
def two (k : Nat) : Rat := ((2 ^ k : Nat) : Int)
theorem two_pos (k : Nat) : 0 < two k := rcast_pos (Nat.pow_pos (by decide))
theorem two_succ (k : Nat) : two (k + 1) = 2 * two k := by
  unfold two
  rw [Nat.pow_succ, Nat.mul_comm, Int.natCast_mul, Rat.intCast_mul]; rfl
theorem two_zero : two 0 = 1 := rfl
theorem two_mono {k l : Nat} (h : k ≤ l) : two k ≤ two l :=
  Rat.intCast_le_intCast.2 (Int.ofNat_le.2 (Nat.pow_le_pow_right (by decide) h))
theorem two32 (k : Nat) : two (32 * k) = KW k := by
  unfold two KW
  rw [Nat.pow_mul, W_eq]
def dy (h : Rat) (a k : Nat) : Rat := h * ((a : Int) : Rat) / two k
theorem dy_one (h : Rat) : dy h 1 0 = h := by
  unfold dy; rw [two_zero]; have : (((1 : Nat) : Int) : Rat) = 1 := rfl
  rw [this]; grind
theorem dy_double (h : Rat) (a k : Nat) : dy h a k + dy h a k = dy h (2 * a) k := by
  unfold dy
  have : (((2 * a : Nat) : Int) : Rat) = 2 * ((a : Int) : Rat) := by rw [Int.natCast_mul, Rat.intCast_mul]; rfl
  rw [this]; grind
theorem dy_halve (h : Rat) (a k : Nat) : dy h a k / 2 = dy h a (k + 1) := by
  unfold dy; rw [two_succ]; have := two_pos k; grind
theorem dy_up (h : Rat) (a k : Nat) : dy h a k = dy h (2 * a) (k + 1) := by
  rw [← dy_halve, ← dy_double]; grind
theorem dy_succ (h : Rat) (a k : Nat) : dy h (a + 1) k = dy h a k + h / two k := by
  unfold dy; rw [rcast_succ]; have := two_pos k; grind
theorem dy_mid (h : Rat) (a k : Nat) : (dy h a k + dy h (a + 1) k) / 2 = dy h (2 * a + 1) (k + 1) := by
  rw [dy_succ, dy_succ, ← dy_up, two_succ]; have := two_pos k; grind
theorem dy_pos {h : Rat} (h0 : 0 < h) {a : Nat} (ha : 0 < a) (k : Nat) : 0 < dy h a k := by
  unfold dy
  rw [Rat.div_def]
  exact Rat.mul_pos (Rat.mul_pos h0 (rcast_pos ha)) (Rat.inv_pos.2 (two_pos k))
theorem Q_nat {n k : Nat} (h : n < W ^ k) (hk : 1 ≤ k) : Q k ((n : Int) : Rat) := by
  refine Q_iff.2 ⟨?_, ?_⟩
  · show ((n : Int)).natAbs < W ^ k
    omega
  · show 1 < W ^ k
    exact Nat.lt_of_lt_of_le (by decide +kernel : 1 < W ^ 1) (Nat.pow_le_pow_right (by decide) hk)
theorem pow2_lt {k l : Nat} (h : k < 32 * l) : 2 ^ k < W ^ l := by
  rw [show W = 2 ^ 32 from by rw [W_eq], ← Nat.pow_mul]
  exact Nat.pow_lt_pow_right (by decide) h
theorem Q_two {k l : Nat} (h : k < 32 * l) : Q l (two k) := Q_nat (pow2_lt h) (by omega)
/-- The size of 2 ^ e in lowest terms over 2 ^ k is that of the greater one. -/
theorem Q_dy {h : Rat} {a k q l m : Nat} (hq : Q q h) (ha : a < W ^ l) (hl : 1 ≤ l) (hk : k < 32 * m) : Q (q + l + m + 1) (dy h a k) := by
  have := hq.mul (Q_nat ha hl)
  have h2 := Q_two hk
  rw [dy, Rat.div_def]
  have e := two_pos k
  have h3 : Q m (two k)⁻¹ := by
    obtain ⟨h4, h5⟩ := Q_iff.1 h2
    have hp : 0 < 2 ^ k := Nat.pow_pos (by decide)
    have e1 : (two k)⁻¹ = mkRat 1 (2 ^ k) := by
      rw [Rat.mkRat_eq_div]
      show (two k)⁻¹ = ((1 : Int) : Rat) / two k
      rw [Rat.div_def]
      have : ((1 : Int) : Rat) = 1 := rfl
      rw [this, Rat.one_mul]
    rw [e1]
    exact Q_mk (by omega) (by show 1 < W ^ m; exact Nat.lt_of_lt_of_le (by decide +kernel : 1 < W ^ 1) (Nat.pow_le_pow_right (by decide) (by omega))) (pow2_lt hk)
  exact (this.mul h3).le (by omega)
/-- 2 to the power of an integer. -/
def P2 (e : Int) : Rat := if e < 0 then 1 / two (-e).toNat else two e.toNat
theorem P2_pos (e : Int) : 0 < P2 e := by
  unfold P2
  split
  · rw [Rat.div_def]; exact Rat.mul_pos (by decide) (Rat.inv_pos.2 (two_pos _))
  · exact two_pos _
theorem P2_Q {e : Int} {l : Nat} (h1 : -(32 * l : Nat) < e) (h2 : e < (32 * l : Nat)) (hl : 1 ≤ l): Q (l + 3) (P2 e) := by
  unfold P2
  split
  · have := Q_dy (h := 1) (a := 1) (k := (-e).toNat) (q := 1) (l := 1) (m := l) ⟨by decide +kernel, by decide +kernel⟩ (by decide +kernel) (by decide) (by omega)
    have e1 : dy 1 1 (-e).toNat = 1 / two (-e).toNat := by unfold dy; rw [show (((1 : Nat) : Int) : Rat) = 1 from rfl]; grind
    rw [e1] at this
    exact this.le (by omega)
  · exact (Q_two (l := l) (by omega)).le (by omega)
theorem P2_le {e : Int} {l : Nat} (h1 : -(32 * l : Nat) ≤ e) (h2 : e ≤ (32 * l : Nat)) : P2 e ≤ KW l ∧ 1 ≤ P2 e * KW l := by
  rw [← two32]
  unfold P2
  have hp := two_pos (-e).toNat
  have hq := two_pos e.toNat
  have h1' : (1 : Rat) ≤ two (32 * l) := by have := two_mono (Nat.zero_le (32 * l)); rwa [two_zero] at this
  split
  · have a1 : two (-e).toNat ≤ two (32 * l) := two_mono (by omega)
    have a2 : (1 : Rat) ≤ two (-e).toNat := by have := two_mono (Nat.zero_le (-e).toNat); rwa [two_zero] at this
    refine ⟨rdiv_le hp ?_, ?_⟩
    · have := rmul_le a2 (c := two (32 * l)) (by grind); grind
    · have : 1 / two (-e).toNat * two (32 * l) = two (32 * l) / two (-e).toNat := by grind
      rw [this]; exact rle_div hp (by grind)
  · have a1 : two e.toNat ≤ two (32 * l) := two_mono (by omega)
    have a2 : (1 : Rat) ≤ two e.toNat := by have := two_mono (Nat.zero_le e.toNat); rwa [two_zero] at this
    refine ⟨a1, ?_⟩
    have := rmul_le a2 (c := two (32 * l)) (by grind); grind
/-! what Scale returns -/
structure ScaleOk (x : Nat → Rat) (n : Nat) (c b : Rat) (bits : Int) (lo hi : Rat) : Prop where
  pos : 0 < lo
  lt : lo < hi
  above : b < meanN x n c lo
  below : meanN x n c hi ≤ b
  narrow : hi - lo ≤ P2 (-bits) * hi
  qlo : Q 2000 lo
  qhi : Q 2000 hi
/-- The first loop: h0 2 ^ i. -/
theorem loop1_stop {x : Nat → Rat} {n : Nat} {c b h0 : Rat} {i : Nat} (hn : 0 < n) (hx : ∀ i, i < n → Q 64 (x i)) (hc : Q 64 c) (hc0 : 0 < c) (hb : Q 64 b) (hb0 : 0 < b) (hh : 1 ≤ h0 * KW 200)
    (ha : b < meanN x n c (dy h0 (2 ^ i) 0)) : i < 14624 := by
  apply Nat.lt_of_not_le
  intro h
  have hk := KW_pos 200
  have e : dy h0 (2 ^ i) 0 = h0 * two i := by unfold dy; rw [two_zero]; show h0 * two i / 1 = _; grind
  have h1 : two (32 * 457) ≤ two i := two_mono h
  rw [two32, KW_add 257 200] at h1
  have hh0 : 0 < h0 := by
    apply Rat.not_le.1
    intro hle
    have := rmul_le hle (c := KW 200) (by grind)
    grind
  have h2 := rmul_le h1 (Rat.le_of_lt hh0)
  have h3 := rmul_le hh (c := KW 257) (Rat.le_of_lt (KW_pos 257))
  have := mean_top hn hx hc hc0 hb hb0 (s := h0 * two i) (by grind)
  rw [e] at ha
  grind
theorem loop2_stop {x : Nat → Rat} {n : Nat} {c b h1 : Rat} {j : Nat} (hx : ∀ i, i < n → Q 64 (x i)) (hc : Q 64 c) (hc0 : 0 < c) (hs : b < shareN x n) (h0 : 0 < h1) (hh : h1 ≤ KW 657)
    (ha : ¬ b < meanN x n c (dy h1 1 j)) : j < 27168 := by
  apply Nat.lt_of_not_le
  intro h
  apply ha
  rw [mean_bot hx hc hc0 (dy_pos h0 (by decide) j) ?_]
  · exact hs
  · have h2 : two (32 * 849) ≤ two j := two_mono h
    rw [two32, KW_add 657 192] at h2
    have e : dy h1 1 j * KW 192 = h1 * KW 192 / two j := by unfold dy; show h1 * 1 / two j * KW 192 = _; grind
    rw [e]
    refine rdiv_le (two_pos j) ?_
    have := Rat.mul_le_mul_of_nonneg_right hh (Rat.le_of_lt (KW_pos 192))
    grind
theorem dy_le_KW {h0 : Rat} {i : Nat} (h0p : 0 < h0) (hh : h0 ≤ KW 200) (hi : i ≤ 14624) : dy h0 (2 ^ i) 0 ≤ KW 657 := by
  have e : dy h0 (2 ^ i) 0 = h0 * two i := by unfold dy; rw [two_zero]; show h0 * two i / 1 = _; grind
  rw [e]
  have h1 : two i ≤ two (32 * 457) := two_mono hi
  rw [two32] at h1
  have := rmul_le h1 (Rat.le_of_lt h0p)
  have h2 := Rat.mul_le_mul_of_nonneg_right hh (Rat.le_of_lt (KW_pos 457))
  have := KW_add 200 457
  grind
theorem loop3_stop {l : Rat} {a k bits : Nat} (hl : 0 < l) (ha : 2 ^ k ≤ a) (h : P2 (-(bits : Int)) * dy l (a + 1) k < dy l (a + 1) k - dy l a k) : k < bits := by
  apply Nat.lt_of_not_le
  intro hle
  have e2 : P2 (-(bits : Int)) = 1 / two bits := by
    unfold P2
    by_cases hb : bits = 0
    · subst hb; decide +kernel
    · rw [if_pos (by omega), show (-(-(bits : Int))).toNat = bits by omega]
  rw [dy_succ, e2] at h
  have hb := two_pos bits
  have hk := two_pos k
  have h1 : l / two k < two bits * (l / two k) + two bits * 0 ∨ True := .inr trivial
  have h2 : 1 / two bits * (dy l a k + l / two k) = (dy l a k + l / two k) / two bits := by grind
  rw [h2] at h
  have h3 : dy l a k + l / two k < two bits * (l / two k) := by
    apply Rat.not_le.1
    intro h4
    have h5 := rdiv_le_div h4 (Rat.le_of_lt hb)
    have e5 : two bits * (l / two k) / two bits = l / two k := by grind
    rw [e5] at h5
    grind
  have h6 : two k ≤ ((a : Int) : Rat) := Rat.intCast_le_intCast.2 (Int.ofNat_le.2 ha)
  have h7 : two bits ≤ two k := two_mono hle
  have h8 : dy l a k = l / two k * ((a : Int) : Rat) := by unfold dy; grind
  have hlk : 0 < l / two k := by rw [Rat.div_def]; exact Rat.mul_pos hl (Rat.inv_pos.2 hk)
  have h9 := rmul_le (rle_trans h7 h6) (Rat.le_of_lt hlk)
  grind
end Go.Proofs.YtegnonhgildhoaaGreat.E
