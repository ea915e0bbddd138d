/- Lemmas and contracts of functions on the way to the law, part 4. -/
import Derived.Test.YtbiifkfbkaejlaaGreatA3
namespace Go.Proofs.YtbiifkfbkaejlaaGreat.E
open Go Go.RowKit
set_option linter.unusedVariables false
set_option linter.unusedSimpArgs false
instance : DecidableEq RawI := fun a b => decidable_of_iff (a.neg = b.neg ∧ a.mag = b.mag) ⟨fun h => by cases a; cases b; simp_all, fun h => by subst h; exact ⟨rfl, rfl⟩⟩
instance : DecidableEq Raw := fun a b => decidable_of_iff (a.neg = b.neg ∧ a.mag = b.mag ∧ a.den = b.den) ⟨fun h => by cases a; cases b; simp_all, fun h => by subst h; exact ⟨rfl, rfl, rfl⟩⟩
theorem encZ_take {z : RawI} (hb : Lb z.mag) (h : validZ z = true) : encZ (zv z) = ⟨z.neg, toL (nv z.mag)⟩ := by
  rw [encZ_zv hb h]
  have hv := validZ_mag h
  rw [nv_of_valid hv, toL_lv hb hv]
theorem r02_Valid (s : SA) (z : RawI) : Spec Tryz.prog 116 #[intV s z] [fU s z.mag] (ι := Unit) (fun y => .bool (validZ z)) (fun y => True) (fun y => []) := by
 refine Spec.of_body _ (fn := Tryz.f116) k_ rfl k_ (fun X w0 => ?_)
 refine J.fact (φ := z.mag.length ≤ 140737488355328) (fun w h => by have := (h _ (.head _)).1; omega) (fun hl1 => ?_)
 refine J.sreg ?_
 refine RN.new (fun b => pt b) (.cells #[.bool z.neg, sl s z.mag.length] 38 (0, 0)) k_ k_ (fun w => by kernel_rfl) (fun b2 => ?_)
 refine RN.bq (no 1) [1] [] 2 [(1, pt b2)] k_ ?_
 refine RN.fs k_ ?_
 refine RN.bq [none, some 0] [1, 4] [b2] 2 [(1, pt b2), (4, sl s z.mag.length)] k_ ?_
 refine RN.call (r01_Valid s z.mag) [0] k_ k_ k_ rfl (fun y3 _ => ?_)
 refine RN.bq (no 1) [1, 6] [] 4 [(1, pt b2), (6, .bool (validU z.mag))] k_ ?_
 refine RN.split 6 (validU z.mag) k_ (fun c4 => ?_) (fun c4 => ?_)
 ·refine RN.bq [none, some 0, none] [1, 6, 9] [b2] 7 [(1, pt b2), (6, .bool true), (9, .bool z.neg)] k_ ?_
  refine RN.split 9 (z.neg) k_ (fun c5 => ?_) (fun c5 => ?_)
  ·refine RN.bq [none, some 0, none, none, none, none, none, none] [2] [b2] 15 [(2, .bool (!((((z.mag.length : Nat) : Int) : Int) == 0)))] k_ ?_
   refine RN.fin k_ ?_
   have e_1 : (validZ z) = (!((((z.mag.length : Nat) : Int) : Int) == 0)) := by rcases z with ⟨neg, mag⟩; cases mag <;> simp_all [validZ] <;> omega
   refine J.ret (KR.ret (v := .bool (!((((z.mag.length : Nat) : Int) : Int) == 0))) (()) [none] [] [] k_ v1_ (trivial) v1_)
  ·refine RN.bq (no 8) [2] [] 15 [(2, .bool true)] k_ ?_
   refine RN.fin k_ ?_
   have e_1 : (validZ z) = true := by rcases z with ⟨neg, mag⟩; cases mag <;> simp_all [validZ] <;> omega
   refine J.ret (KR.ret (v := .bool true) (()) [none] [] [] k_ v1_ (trivial) v1_)
 ·refine RN.bq (no 11) [2] [] 15 [(2, .bool false)] k_ ?_
  refine RN.fin k_ ?_
  have e_1 : (validZ z) = false := by rcases z with ⟨neg, mag⟩; cases mag <;> simp_all [validZ] <;> omega
  refine J.ret (KR.ret (v := .bool false) (()) [none] [] [] k_ v1_ (trivial) v1_)
theorem r02_Take (s : SA) (z : RawI) (hz : Lb z.mag) (hzl : z.mag.length ≤ 1099511627776) : Spec Tryz.prog 70 #[intV s z] [fU s z.mag] (ι := SA) (fun y => intV y (encZ (zv z))) (fun y => True) (fun y => [fU y (toL ((zv z).natAbs))]) := by
 refine Spec.of_body _ (fn := Tryz.f70) k_ rfl k_ (fun X w0 => ?_)
 refine J.fact (φ := z.mag.length ≤ 140737488355328) (fun w h => by have := (h _ (.head _)).1; omega) (fun hl1 => ?_)
 refine J.sreg ?_
 refine RN.new (fun b => pt b) (.cells #[.bool z.neg, sl s z.mag.length] 38 (0, 0)) k_ k_ (fun w => by kernel_rfl) (fun b2 => ?_)
 refine RN.new (fun b => pt b) (.cells #[.bool false, sl saNil ([] : List Nat).length] 38 (0, 0)) k_ k_ (fun w => by kernel_rfl) (fun b3 => ?_)
 refine RN.fin k_ ?_
 refine J.seq ?_
 refine J.sreg ?_
 refine RN.bq [some 1] [1, 2, 3] [b2, b2] 1 [(1, pt b2), (2, pt b3), (3, intV s z)] k_ ?_
 refine RN.call (r02_Valid s z) [0] k_ k_ k_ rfl (fun y4 _ => ?_)
 refine RN.bq (no 1) [1, 2, 5] [] 3 [(1, pt b2), (2, pt b3), (5, .bool (!(validZ z)))] k_ ?_
 refine RN.fin k_ ?_
 refine J.cond (!(validZ z)) k_ (fun c5 => ?_) (fun c5 => ?_)
 ·refine J.sreg ?_
  refine RN.bs [none, some 0] [2] [b3, b3] 2 [(2, pt b3)] ([(b3, .cells #[.bool false, sl saNil ([] : List Nat).length] 38 (0, 0)), (b2, .cells #[.bool z.neg, sl s z.mag.length] 38 (0, 0))]) k_ ?_
  refine RN.fin k_ ?_
  have e_1 : (encZ (zv z)) = (⟨false, ([] : List Nat)⟩ : RawI) := by exact encZ_zv_f (by simpa using ‹(!validZ z) = true›)
  have e_2 : (toL ((zv z).natAbs)) = ([] : List Nat) := congrArg RawI.mag e_1
  refine J.also (fU saNil ([] : List Nat)) (fun w h => fU_nil w) ?_
  refine J.ret (KR.next (KR.ret (v := intV saNil (⟨false, ([] : List Nat)⟩ : RawI)) (saNil) [some 0] [0] [b3, b3] k_ (by first | rfl | (rw [e_1]; done) | (simp only [e_1]; done) | (rw [e_2]; done) | (rw [e_1, e_2]; rfl) | (simp only [e_1, e_2]; done) | (simp only [e_1, e_2]; rfl)) (trivial) (by first | rfl | (rw [e_1]; done) | (simp only [e_1]; done) | (rw [e_2]; done) | (rw [e_1, e_2]; rfl) | (simp only [e_1, e_2]; done) | (simp only [e_1, e_2]; rfl))))
 ·refine J.skip ?_
  refine KN.next ?_
  refine J.seq ?_
  refine J.regD k_ [6] ?_
  refine RD.bq [(0, none), (1, some 1), (2, none), (3, some 1)] [2, 8, 10] [b2, b2] [(2, pt b3), (8, .bool z.neg), (10, sl s z.mag.length)] k_ k_ ?_
  refine RD.call (i := 4) (r01_Take s z.mag y_ y_) [0] k_ k_ k_ k_ k_ rfl (fun y6 _ => ?_)
  refine RD.bq (nl [5]) [2, 12] [] [(2, pt b3), (12, intV y6 (⟨z.neg, toL (nv z.mag)⟩ : RawI))] k_ k_ ?_
  refine RD.last (i := 6) (some 0) [2] [b3, b3] k_ k_ k_ (l' := [(2, pt b3)]) (M' := [(b3, .cells #[.bool z.neg, sl y6 (toL (nv z.mag)).length] 38 (0, 0)), (b2, .cells #[.bool z.neg, sl s z.mag.length] 38 (0, 0))]) k_ ?_
  refine RD.done k_ ?_
  refine KN.next ?_
  have e_1 : (encZ (zv z)) = (⟨z.neg, toL (nv z.mag)⟩ : RawI) := by exact encZ_take hz (by simpa using ‹(!validZ z) = false›)
  have e_2 : (toL ((zv z).natAbs)) = (toL (nv z.mag)) := congrArg RawI.mag e_1
  refine J.ret (KR.ret (v := intV y6 (⟨z.neg, toL (nv z.mag)⟩ : RawI)) (y6) [some 0] [0] [b3, b3] k_ (by first | rfl | (rw [e_1]; done) | (simp only [e_1]; done) | (rw [e_2]; done) | (rw [e_1, e_2]; rfl) | (simp only [e_1, e_2]; done) | (simp only [e_1, e_2]; rfl)) (trivial) (by first | rfl | (rw [e_1]; done) | (simp only [e_1]; done) | (rw [e_2]; done) | (rw [e_1, e_2]; rfl) | (simp only [e_1, e_2]; done) | (simp only [e_1, e_2]; rfl)))
theorem r02_signed (b : Bool) (s : SA) (n : Nat) : Spec Tryz.prog 76 #[.bool b, sl s (toL n).length] [fU s (toL n)] (ι := SA) (fun y => intV y (encZ (sgn b n))) (fun y => True) (fun y => [fU y (toL ((sgn b n).natAbs))]) := by
 refine Spec.of_body _ (fn := Tryz.f76) k_ rfl k_ (fun X w0 => ?_)
 refine J.fact (φ := (toL n).length ≤ 140737488355328) (fun w h => by have := (h _ (.head _)).1; omega) (fun hl1 => ?_)
 refine J.sreg ?_
 refine RN.new (fun b => pt b) (.cells #[.bool false, sl saNil ([] : List Nat).length] 38 (0, 0)) k_ k_ (fun w => by kernel_rfl) (fun b2 => ?_)
 refine RN.fs k_ ?_
 refine RN.bq (no 2) [1, 4, 6] [] 2 [(1, sl s (toL n).length), (4, pt b2), (6, .bool b)] k_ ?_
 refine RN.split 6 (b) k_ (fun c3 => ?_) (fun c3 => ?_)
 ·refine RN.bs [none, none, none, none, none, none, some 0] [4] [b2, b2] 9 [(4, pt b2)] ([(b2, .cells #[.bool (decide ((((toL n).length : Nat) : Int) > 0)), sl s (toL n).length] 38 (0, 0))]) k_ ?_
  refine RN.fin k_ ?_
  have e_1 : (encZ (sgn b n)) = (⟨decide ((((toL n).length : Nat) : Int) > 0), toL n⟩ : RawI) := by first | (rw [‹b = true›]; exact sgn_true _) | (rw [‹b = false›]; exact sgn_false _) | (rw [‹b = false›]; rfl)
  have e_2 : (toL ((sgn b n).natAbs)) = (toL n) := congrArg RawI.mag e_1
  refine J.ret (KR.ret (v := intV s (⟨decide ((((toL n).length : Nat) : Int) > 0), toL n⟩ : RawI)) (s) [some 0] [0] [b2, b2] k_ (by first | rfl | (rw [e_1]; done) | (simp only [e_1]; done) | (rw [e_2]; done) | (rw [e_1, e_2]; rfl) | (simp only [e_1, e_2]; done) | (simp only [e_1, e_2]; rfl)) (trivial) (by first | rfl | (rw [e_1]; done) | (simp only [e_1]; done) | (rw [e_2]; done) | (rw [e_1, e_2]; rfl) | (simp only [e_1, e_2]; done) | (simp only [e_1, e_2]; rfl)))
 ·refine RN.bs [none, none, none, none, none, none, some 0] [4] [b2, b2] 9 [(4, pt b2)] ([(b2, .cells #[.bool false, sl s (toL n).length] 38 (0, 0))]) k_ ?_
  refine RN.fin k_ ?_
  have e_1 : (sgn b n) = ((n : Nat) : Int) := by first | (rw [‹b = true›]; exact sgn_true _) | (rw [‹b = false›]; exact sgn_false _) | (rw [‹b = false›]; rfl)
  refine J.ret (KR.ret (v := intV s (encZ ((n : Nat) : Int))) (s) [some 0] [0] [b2, b2] k_ v1_ (trivial) v1_)
theorem r02_Sign (s : SA) (z : RawI) (hz : Lb z.mag) (hzl : z.mag.length ≤ 1099511627776) : Spec Tryz.prog 46 #[intV s z] [fU s z.mag] (ι := Unit) (fun y => .int .i64 (Int.sign (zv z))) (fun y => True) (fun y => []) := by
 refine Spec.of_body _ (fn := Tryz.f46) k_ rfl k_ (fun X w0 => ?_)
 refine J.fact (φ := z.mag.length ≤ 140737488355328) (fun w h => by have := (h _ (.head _)).1; omega) (fun hl1 => ?_)
 refine J.sreg ?_
 refine RN.new (fun b => pt b) (.cells #[.bool z.neg, sl s z.mag.length] 38 (0, 0)) k_ k_ (fun w => by kernel_rfl) (fun b2 => ?_)
 refine RN.bq (no 1) [1] [] 2 [(1, pt b2)] k_ ?_
 refine RN.fs k_ ?_
 refine RN.bq [some 0] [1, 3] [b2, b2] 1 [(1, pt b2), (3, intV s z)] k_ ?_
 refine RN.call (r02_Take s z y_ y_) [0] k_ k_ k_ rfl (fun y3 _ => ?_)
 refine RN.bs [some 0] [1] [b2, b2] 3 [(1, pt b2)] ([(b2, .cells #[.bool (decide ((zv z) < 0)), sl y3 (toL ((zv z).natAbs)).length] 38 (0, 0))]) k_ ?_
 refine RN.fin k_ ?_
 refine J.seq ?_
 refine J.block ?_
 refine J.sreg ?_
 refine RN.bq [none, some 0, none] [1, 5] [b2] 3 [(1, pt b2), (5, .bool (decide ((zv z) < 0)))] k_ ?_
 refine RN.fin k_ ?_
 refine J.cond (decide ((zv z) < 0)) k_ (fun c4 => ?_) (fun c4 => ?_)
 ·replace c4 := of_decide_eq_true c4
  refine J.sreg ?_
  refine RN.bq (no 1) [2] [] 1 [(2, .int .i64 (-1))] k_ ?_
  refine RN.fin k_ ?_
  have e_1 : (Int.sign (zv z) : Int) = ((-1) : Int) := by exact Int.sign_eq_neg_one_of_neg (by simpa using ‹_›)
  refine J.ret (KR.blk (KR.next (KR.ret (v := .int .i64 (-1)) (()) [none] [] [] k_ v1_ (trivial) v1_)))
 ·replace c4 := of_decide_eq_false c4
  refine J.sreg ?_
  refine RN.bq [none, some 0, none, none, none] [8] [b2] 5 [(8, .bool (decide ((((toL ((zv z).natAbs)).length : Nat) : Int) > 0)))] k_ ?_
  refine RN.fin k_ ?_
  refine J.cond (decide ((((toL ((zv z).natAbs)).length : Nat) : Int) > 0)) k_ (fun c5 => ?_) (fun c5 => ?_)
  ·replace c5 := of_decide_eq_true c5
   refine J.sreg ?_
   refine RN.bq (no 1) [2] [] 1 [(2, .int .i64 1)] k_ ?_
   refine RN.fin k_ ?_
   have e_1 : (Int.sign (zv z) : Int) = (1 : Int) := by exact Int.sign_eq_one_of_pos (by have h1 := mt toL_len0.2 (by omega : ¬ (toL ((zv z).natAbs)).length = 0); simp at *; omega)
   refine J.ret (KR.blk (KR.next (KR.ret (v := .int .i64 1) (()) [none] [] [] k_ v1_ (trivial) v1_)))
  ·replace c5 := of_decide_eq_false c5
   refine J.skip ?_
   refine KN.blk ?_
   refine KN.next ?_
   refine J.sreg ?_
   refine RN.bq (no 1) [2] [] 1 [(2, .int .i64 0)] k_ ?_
   refine RN.fin k_ ?_
   have e_1 : (Int.sign (zv z) : Int) = (0 : Int) := by rw [show zv z = 0 from by have := toL_len0.1 (by omega : (toL ((zv z).natAbs)).length = 0); omega]; rfl
   refine J.ret (KR.ret (v := .int .i64 0) (()) [none] [] [] k_ v1_ (trivial) v1_)
theorem r02_Sign_c (s : SA) (z' : Int) (hzl : (toL (z'.natAbs)).length ≤ 1099511627776) : Spec Tryz.prog 46 #[intV s (encZ z')] [fU s (toL (z'.natAbs))] (ι := Unit) (fun y => .int .i64 (Int.sign z')) (fun y => True) (fun y => []) := by
  have H := r02_Sign s (encZ z') (Lb_toL _) (by first | exact hzl | simpa only [zv_encZ] using hzl)
  first | exact H | (simp only [zv_encZ, validZ_encZ] at H; exact H)
theorem r02_Neg (s : SA) (z : RawI) (hz : Lb z.mag) (hzl : z.mag.length ≤ 1099511627776) : Spec Tryz.prog 72 #[intV s z] [fU s z.mag] (ι := SA) (fun y => intV y (encZ (-zv z))) (fun y => True) (fun y => [fU y (toL ((-zv z).natAbs))]) := by
 refine Spec.of_body _ (fn := Tryz.f72) k_ rfl k_ (fun X w0 => ?_)
 refine J.fact (φ := z.mag.length ≤ 140737488355328) (fun w h => by have := (h _ (.head _)).1; omega) (fun hl1 => ?_)
 refine J.sreg ?_
 refine RN.new (fun b => pt b) (.cells #[.bool z.neg, sl s z.mag.length] 38 (0, 0)) k_ k_ (fun w => by kernel_rfl) (fun b2 => ?_)
 refine RN.new (fun b => pt b) (.cells #[.bool false, sl saNil ([] : List Nat).length] 38 (0, 0)) k_ k_ (fun w => by kernel_rfl) (fun b3 => ?_)
 refine RN.fs k_ ?_
 refine RN.bq [some 1] [1, 2, 3] [b2, b2] 1 [(1, pt b2), (2, pt b3), (3, intV s z)] k_ ?_
 refine RN.call (r02_Take s z y_ y_) [0] k_ k_ k_ rfl (fun y4 _ => ?_)
 refine RN.bs [some 1] [1, 2] [b2, b2] 3 [(1, pt b2), (2, pt b3)] ([(b3, .cells #[.bool false, sl saNil ([] : List Nat).length] 38 (0, 0)), (b2, .cells #[.bool (decide ((zv z) < 0)), sl y4 (toL ((zv z).natAbs)).length] 38 (0, 0))]) k_ ?_
 refine RN.fs k_ ?_
 refine RN.bq [none, some 1, none, none, some 1] [2, 7, 9] [b2, b2] 5 [(2, pt b3), (7, .bool (!(decide ((zv z) < 0)))), (9, sl y4 (toL ((zv z).natAbs)).length)] k_ ?_
 refine RN.call (r02_signed (!(decide ((zv z) < 0))) y4 ((zv z).natAbs)) [0] k_ k_ k_ rfl (fun y5 _ => ?_)
 refine RN.bs [some 0] [2] [b3, b3] 7 [(2, pt b3)] ([(b3, .cells #[.bool (decide ((sgn (!(decide ((zv z) < 0))) ((zv z).natAbs)) < 0)), sl y5 (toL ((sgn (!(decide ((zv z) < 0))) ((zv z).natAbs)).natAbs)).length] 38 (0, 0)), (b2, .cells #[.bool (decide ((zv z) < 0)), sl y4 (toL ((zv z).natAbs)).length] 38 (0, 0))]) k_ ?_
 refine RN.fin k_ ?_
 have e_1 : (-zv z) = (sgn (!(decide ((zv z) < 0))) ((zv z).natAbs)) := by rw [sgn_not]
 refine J.ret (KR.ret (v := intV y5 (encZ (sgn (!(decide ((zv z) < 0))) ((zv z).natAbs)))) (y5) [some 0] [0] [b3, b3] k_ v1_ (trivial) v1_)
theorem r02_Neg_c (s : SA) (z' : Int) (hzl : (toL (z'.natAbs)).length ≤ 1099511627776) : Spec Tryz.prog 72 #[intV s (encZ z')] [fU s (toL (z'.natAbs))] (ι := SA) (fun y => intV y (encZ (-z'))) (fun y => True) (fun y => [fU y (toL ((-z').natAbs))]) := by
  have H := r02_Neg s (encZ z') (Lb_toL _) (by first | exact hzl | simpa only [zv_encZ] using hzl)
  first | exact H | (simp only [zv_encZ, validZ_encZ] at H; exact H)
theorem r02_Add (s : SA) (x : RawI) (t : SA) (z : RawI) (hx : Lb x.mag) (hxl : x.mag.length ≤ 1099511627776) (hz : Lb z.mag) (hzl : z.mag.length ≤ 1099511627776) : Spec Tryz.prog 36 #[intV s x, intV t z] [fU s x.mag, fU t z.mag] (ι := SA) (fun y => intV y (encZ (zv x + zv z))) (fun y => True) (fun y => [fU y (toL ((zv x + zv z).natAbs))]) := by
 refine Spec.of_body _ (fn := Tryz.f36) k_ rfl k_ (fun X w0 => ?_)
 refine J.fact (φ := x.mag.length ≤ 140737488355328) (fun w h => by have := (h _ (.head _)).1; omega) (fun hl1 => ?_)
 refine J.fact (φ := z.mag.length ≤ 140737488355328) (fun w h => by have := (h _ (.tail _ ((.head _)))).1; omega) (fun hl2 => ?_)
 have hxv := Nat.le_trans (zv_len hx) hxl
 have hzv := Nat.le_trans (zv_len hz) hzl
 refine J.sreg ?_
 refine RN.new (fun b => pt b) (.cells #[.bool x.neg, sl s x.mag.length] 38 (0, 0)) k_ k_ (fun w => by kernel_rfl) (fun b3 => ?_)
 refine RN.new (fun b => pt b) (.cells #[.bool z.neg, sl t z.mag.length] 38 (0, 0)) k_ k_ (fun w => by kernel_rfl) (fun b4 => ?_)
 refine RN.new (fun b => pt b) (.cells #[.bool false, sl saNil ([] : List Nat).length] 38 (0, 0)) k_ k_ (fun w => by kernel_rfl) (fun b5 => ?_)
 refine RN.fin k_ ?_
 refine J.seq ?_
 refine J.regD k_ [4, 5] ?_
 refine RD.bq [(0, some 2), (2, some 1)] [2, 3, 4, 9, 11] [b4, b4, b3, b3] [(2, pt b3), (3, pt b4), (4, pt b5), (9, intV s x), (11, intV t z)] k_ k_ ?_
 refine RD.call (i := 1) (r02_Take s x y_ y_) [0] k_ k_ k_ k_ k_ rfl (fun y6 _ => ?_)
 refine RD.call (i := 3) (r02_Take t z y_ y_) [2] k_ k_ k_ k_ k_ rfl (fun y7 _ => ?_)
 refine RD.last (i := 4) (some 2) [2, 3, 4, 12] [b3, b3] k_ k_ k_ (l' := [(2, pt b3), (3, pt b4), (4, pt b5), (12, intV y7 (encZ (zv z)))]) (M' := [(b5, .cells #[.bool false, sl saNil ([] : List Nat).length] 38 (0, 0)), (b4, .cells #[.bool z.neg, sl t z.mag.length] 38 (0, 0)), (b3, .cells #[.bool (decide ((zv x) < 0)), sl y6 (toL ((zv x).natAbs)).length] 38 (0, 0))]) k_ ?_
 refine RD.last (i := 5) (some 1) [2, 3, 4] [b4, b4] k_ k_ k_ (l' := [(2, pt b3), (3, pt b4), (4, pt b5)]) (M' := [(b5, .cells #[.bool false, sl saNil ([] : List Nat).length] 38 (0, 0)), (b4, .cells #[.bool (decide ((zv z) < 0)), sl y7 (toL ((zv z).natAbs)).length] 38 (0, 0)), (b3, .cells #[.bool (decide ((zv x) < 0)), sl y6 (toL ((zv x).natAbs)).length] 38 (0, 0))]) k_ ?_
 refine RD.done k_ ?_
 refine KN.next ?_
 refine J.seq ?_
 refine J.sreg ?_
 refine RN.bq [none, some 2, none, some 1, none] [2, 3, 4, 17] [b4, b3] 5 [(2, pt b3), (3, pt b4), (4, pt b5), (17, .bool ((decide ((zv x) < 0)) == (decide ((zv z) < 0))))] k_ ?_
 refine RN.fin k_ ?_
 refine J.cond ((decide ((zv x) < 0)) == (decide ((zv z) < 0))) k_ (fun c8 => ?_) (fun c8 => ?_)
 ·refine J.seq ?_
  refine J.regD k_ [8] ?_
  refine RD.bq [(0, none), (1, some 2), (2, none), (3, some 2), (4, none), (5, some 1)] [4, 19, 21, 23] [b4, b3, b3] [(4, pt b5), (19, .bool (decide ((zv x) < 0))), (21, sl y6 (toL ((zv x).natAbs)).length), (23, sl y7 (toL ((zv z).natAbs)).length)] k_ k_ ?_
  refine RD.call (i := 6) (r01_Add_c y6 ((zv x).natAbs) y7 ((zv z).natAbs) y_ y_) [1, 0] k_ k_ k_ k_ k_ rfl (fun y9 _ => ?_)
  refine RD.call (i := 7) (r02_signed (decide ((zv x) < 0)) y9 (((zv x).natAbs) + ((zv z).natAbs))) [0] k_ k_ k_ k_ k_ rfl (fun y10 _ => ?_)
  refine RD.last (i := 8) (some 0) [4] [b5, b5] k_ k_ k_ (l' := [(4, pt b5)]) (M' := [(b5, .cells #[.bool (decide ((sgn (decide ((zv x) < 0)) (((zv x).natAbs) + ((zv z).natAbs))) < 0)), sl y10 (toL ((sgn (decide ((zv x) < 0)) (((zv x).natAbs) + ((zv z).natAbs))).natAbs)).length] 38 (0, 0)), (b4, .cells #[.bool (decide ((zv z) < 0)), sl y7 (toL ((zv z).natAbs)).length] 38 (0, 0)), (b3, .cells #[.bool (decide ((zv x) < 0)), sl y6 (toL ((zv x).natAbs)).length] 38 (0, 0))]) k_ ?_
  refine RD.done k_ ?_
  refine KN.next ?_
  have e_1 : (zv x + zv z) = (sgn (decide ((zv x) < 0)) (((zv x).natAbs) + ((zv z).natAbs))) := by rw [sgn_add ‹_›]
  refine J.ret (KR.next (KR.ret (v := intV y10 (encZ (sgn (decide ((zv x) < 0)) (((zv x).natAbs) + ((zv z).natAbs))))) (y10) [some 0] [0] [b5, b5] k_ v1_ (trivial) v1_))
 ·refine J.skip ?_
  refine KN.next ?_
  refine J.seq ?_
  refine J.sreg ?_
  refine RN.bq [none, some 2, none, some 1] [2, 3, 4, 28, 30] [b4, b3] 4 [(2, pt b3), (3, pt b4), (4, pt b5), (28, sl y6 (toL ((zv x).natAbs)).length), (30, sl y7 (toL ((zv z).natAbs)).length)] k_ ?_
  refine RN.call (r01_Sub_c y6 ((zv x).natAbs) y7 ((zv z).natAbs) y_ y_) [1, 0] k_ k_ k_ rfl (fun y11 _ => ?_)
  refine RN.bq (no 5) [2, 3, 4, 5, 6] [] 10 [(2, pt b3), (3, pt b4), (4, pt b5), (5, sl y11 (toL (((zv x).natAbs) - ((zv z).natAbs))).length), (6, .bool (decide (((zv z).natAbs) ≤ ((zv x).natAbs))))] k_ ?_
  refine RN.fs k_ ?_
  refine RN.bq (no 1) [2, 3, 4, 5, 34] [] 1 [(2, pt b3), (3, pt b4), (4, pt b5), (5, sl y11 (toL (((zv x).natAbs) - ((zv z).natAbs))).length), (34, .bool (decide (((zv z).natAbs) ≤ ((zv x).natAbs))))] k_ ?_
  refine RN.fin k_ ?_
  refine J.cond (decide (((zv z).natAbs) ≤ ((zv x).natAbs))) k_ (fun c12 => ?_) (fun c12 => ?_)
  ·replace c12 := of_decide_eq_true c12
   refine J.sreg ?_
   refine RN.bq [none, some 2, none] [4, 36, 37] [b3] 3 [(4, pt b5), (36, .bool (decide ((zv x) < 0))), (37, sl y11 (toL (((zv x).natAbs) - ((zv z).natAbs))).length)] k_ ?_
   refine RN.call (r02_signed (decide ((zv x) < 0)) y11 (((zv x).natAbs) - ((zv z).natAbs))) [0] k_ k_ k_ rfl (fun y13 _ => ?_)
   refine RN.bs [some 0] [4] [b5, b5] 5 [(4, pt b5)] ([(b5, .cells #[.bool (decide ((sgn (decide ((zv x) < 0)) (((zv x).natAbs) - ((zv z).natAbs))) < 0)), sl y13 (toL ((sgn (decide ((zv x) < 0)) (((zv x).natAbs) - ((zv z).natAbs))).natAbs)).length] 38 (0, 0)), (b4, .cells #[.bool (decide ((zv z) < 0)), sl y7 (toL ((zv z).natAbs)).length] 38 (0, 0)), (b3, .cells #[.bool (decide ((zv x) < 0)), sl y6 (toL ((zv x).natAbs)).length] 38 (0, 0))]) k_ ?_
   refine RN.fin k_ ?_
   have e_1 : (zv x + zv z) = (sgn (decide ((zv x) < 0)) (((zv x).natAbs) - ((zv z).natAbs))) := by rw [sgn_sub ‹_› ‹_›]
   refine J.ret (KR.next (KR.ret (v := intV y13 (encZ (sgn (decide ((zv x) < 0)) (((zv x).natAbs) - ((zv z).natAbs))))) (y13) [some 0] [0] [b5, b5] k_ v1_ (trivial) v1_))
  ·replace c12 := of_decide_eq_false c12
   refine J.skip ?_
   refine KN.next ?_
   refine J.sreg ?_
   refine RN.bq [none, some 1, none, some 2] [3, 4, 41, 43] [b3, b4] 4 [(3, pt b4), (4, pt b5), (41, sl y7 (toL ((zv z).natAbs)).length), (43, sl y6 (toL ((zv x).natAbs)).length)] k_ ?_
   refine RN.call (r01_Sub_c y7 ((zv z).natAbs) y6 ((zv x).natAbs) y_ y_) [1, 2] k_ k_ k_ rfl (fun y14 _ => ?_)
   refine RN.bq (no 5) [3, 4, 7] [] 10 [(3, pt b4), (4, pt b5), (7, sl y14 (toL (((zv z).natAbs) - ((zv x).natAbs))).length)] k_ ?_
   refine RN.fs k_ ?_
   refine RN.bq [none, some 1, none] [4, 48, 49] [b4] 3 [(4, pt b5), (48, .bool (decide ((zv z) < 0))), (49, sl y14 (toL (((zv z).natAbs) - ((zv x).natAbs))).length)] k_ ?_
   refine RN.call (r02_signed (decide ((zv z) < 0)) y14 (((zv z).natAbs) - ((zv x).natAbs))) [0] k_ k_ k_ rfl (fun y15 _ => ?_)
   refine RN.bs [some 0] [4] [b5, b5] 5 [(4, pt b5)] ([(b5, .cells #[.bool (decide ((sgn (decide ((zv z) < 0)) (((zv z).natAbs) - ((zv x).natAbs))) < 0)), sl y15 (toL ((sgn (decide ((zv z) < 0)) (((zv z).natAbs) - ((zv x).natAbs))).natAbs)).length] 38 (0, 0)), (b4, .cells #[.bool (decide ((zv z) < 0)), sl y7 (toL ((zv z).natAbs)).length] 38 (0, 0)), (b3, .cells #[.bool (decide ((zv x) < 0)), sl y6 (toL ((zv x).natAbs)).length] 38 (0, 0))]) k_ ?_
   refine RN.fin k_ ?_
   have e_1 : (zv x + zv z) = (sgn (decide ((zv z) < 0)) (((zv z).natAbs) - ((zv x).natAbs))) := by rw [sgn_sub' ‹_› ‹_›]
   refine J.ret (KR.ret (v := intV y15 (encZ (sgn (decide ((zv z) < 0)) (((zv z).natAbs) - ((zv x).natAbs))))) (y15) [some 0] [0] [b5, b5] k_ v1_ (trivial) v1_)
theorem r02_Add_c (s : SA) (x' : Int) (t : SA) (z' : Int) (hxl : (toL (x'.natAbs)).length ≤ 1099511627776) (hzl : (toL (z'.natAbs)).length ≤ 1099511627776) : Spec Tryz.prog 36 #[intV s (encZ x'), intV t (encZ z')] [fU s (toL (x'.natAbs)), fU t (toL (z'.natAbs))] (ι := SA) (fun y => intV y (encZ (x' + z'))) (fun y => True) (fun y => [fU y (toL ((x' + z').natAbs))]) := by
  have H := r02_Add s (encZ x') t (encZ z') (Lb_toL _) (by first | exact hxl | simpa only [zv_encZ, zv_encZ] using hxl) (Lb_toL _) (by first | exact hzl | simpa only [zv_encZ, zv_encZ] using hzl)
  first | exact H | (simp only [zv_encZ, validZ_encZ] at H; exact H)
theorem r02_Mul (s : SA) (x : RawI) (t : SA) (z : RawI) (hx : Lb x.mag) (hxl : x.mag.length ≤ 137438953472) (hz : Lb z.mag) (hzl : z.mag.length ≤ 137438953472) : Spec Tryz.prog 37 #[intV s x, intV t z] [fU s x.mag, fU t z.mag] (ι := SA) (fun y => intV y (encZ (zv x * zv z))) (fun y => True) (fun y => [fU y (toL ((zv x * zv z).natAbs))]) := by
 refine Spec.of_body _ (fn := Tryz.f37) k_ rfl k_ (fun X w0 => ?_)
 refine J.fact (φ := x.mag.length ≤ 140737488355328) (fun w h => by have := (h _ (.head _)).1; omega) (fun hl1 => ?_)
 refine J.fact (φ := z.mag.length ≤ 140737488355328) (fun w h => by have := (h _ (.tail _ ((.head _)))).1; omega) (fun hl2 => ?_)
 have hxv := Nat.le_trans (zv_len hx) hxl
 have hzv := Nat.le_trans (zv_len hz) hzl
 refine J.sreg ?_
 refine RN.new (fun b => pt b) (.cells #[.bool x.neg, sl s x.mag.length] 38 (0, 0)) k_ k_ (fun w => by kernel_rfl) (fun b3 => ?_)
 refine RN.new (fun b => pt b) (.cells #[.bool z.neg, sl t z.mag.length] 38 (0, 0)) k_ k_ (fun w => by kernel_rfl) (fun b4 => ?_)
 refine RN.new (fun b => pt b) (.cells #[.bool false, sl saNil ([] : List Nat).length] 38 (0, 0)) k_ k_ (fun w => by kernel_rfl) (fun b5 => ?_)
 refine RN.fin k_ ?_
 refine J.seq ?_
 refine J.regD k_ [4, 5] ?_
 refine RD.bq [(0, some 2), (2, some 1)] [2, 3, 4, 5, 7] [b4, b4, b3, b3] [(2, pt b3), (3, pt b4), (4, pt b5), (5, intV s x), (7, intV t z)] k_ k_ ?_
 refine RD.call (i := 1) (r02_Take s x y_ y_) [0] k_ k_ k_ k_ k_ rfl (fun y6 _ => ?_)
 refine RD.call (i := 3) (r02_Take t z y_ y_) [2] k_ k_ k_ k_ k_ rfl (fun y7 _ => ?_)
 refine RD.last (i := 4) (some 2) [2, 3, 4, 8] [b3, b3] k_ k_ k_ (l' := [(2, pt b3), (3, pt b4), (4, pt b5), (8, intV y7 (encZ (zv z)))]) (M' := [(b5, .cells #[.bool false, sl saNil ([] : List Nat).length] 38 (0, 0)), (b4, .cells #[.bool z.neg, sl t z.mag.length] 38 (0, 0)), (b3, .cells #[.bool (decide ((zv x) < 0)), sl y6 (toL ((zv x).natAbs)).length] 38 (0, 0))]) k_ ?_
 refine RD.last (i := 5) (some 1) [2, 3, 4] [b4, b4] k_ k_ k_ (l' := [(2, pt b3), (3, pt b4), (4, pt b5)]) (M' := [(b5, .cells #[.bool false, sl saNil ([] : List Nat).length] 38 (0, 0)), (b4, .cells #[.bool (decide ((zv z) < 0)), sl y7 (toL ((zv z).natAbs)).length] 38 (0, 0)), (b3, .cells #[.bool (decide ((zv x) < 0)), sl y6 (toL ((zv x).natAbs)).length] 38 (0, 0))]) k_ ?_
 refine RD.done k_ ?_
 refine KN.next ?_
 refine J.seq ?_
 refine J.regD k_ [11] ?_
 refine RD.bq [(0, none), (1, some 2), (2, none), (3, some 1), (4, none), (5, none), (6, some 2), (7, none), (8, some 1)] [4, 13, 15, 17] [b4, b3, b4, b3] [(4, pt b5), (13, .bool ((decide ((zv x) < 0)) != (decide ((zv z) < 0)))), (15, sl y6 (toL ((zv x).natAbs)).length), (17, sl y7 (toL ((zv z).natAbs)).length)] k_ k_ ?_
 refine RD.call (i := 9) (r01_Mul_c y6 ((zv x).natAbs) y7 ((zv z).natAbs) y_ y_) [1, 0] k_ k_ k_ k_ k_ rfl (fun y8 _ => ?_)
 refine RD.call (i := 10) (r02_signed ((decide ((zv x) < 0)) != (decide ((zv z) < 0))) y8 (((zv x).natAbs) * ((zv z).natAbs))) [0] k_ k_ k_ k_ k_ rfl (fun y9 _ => ?_)
 refine RD.last (i := 11) (some 0) [4] [b5, b5] k_ k_ k_ (l' := [(4, pt b5)]) (M' := [(b5, .cells #[.bool (decide ((sgn ((decide ((zv x) < 0)) != (decide ((zv z) < 0))) (((zv x).natAbs) * ((zv z).natAbs))) < 0)), sl y9 (toL ((sgn ((decide ((zv x) < 0)) != (decide ((zv z) < 0))) (((zv x).natAbs) * ((zv z).natAbs))).natAbs)).length] 38 (0, 0)), (b4, .cells #[.bool (decide ((zv z) < 0)), sl y7 (toL ((zv z).natAbs)).length] 38 (0, 0)), (b3, .cells #[.bool (decide ((zv x) < 0)), sl y6 (toL ((zv x).natAbs)).length] 38 (0, 0))]) k_ ?_
 refine RD.done k_ ?_
 refine KN.next ?_
 have e_1 : (zv x * zv z) = (sgn ((decide ((zv x) < 0)) != (decide ((zv z) < 0))) (((zv x).natAbs) * ((zv z).natAbs))) := by rw [sgn_mul]
 refine J.ret (KR.ret (v := intV y9 (encZ (sgn ((decide ((zv x) < 0)) != (decide ((zv z) < 0))) (((zv x).natAbs) * ((zv z).natAbs))))) (y9) [some 0] [0] [b5, b5] k_ v1_ (trivial) v1_)
theorem r02_Mul_c (s : SA) (x' : Int) (t : SA) (z' : Int) (hxl : (toL (x'.natAbs)).length ≤ 137438953472) (hzl : (toL (z'.natAbs)).length ≤ 137438953472) : Spec Tryz.prog 37 #[intV s (encZ x'), intV t (encZ z')] [fU s (toL (x'.natAbs)), fU t (toL (z'.natAbs))] (ι := SA) (fun y => intV y (encZ (x' * z'))) (fun y => True) (fun y => [fU y (toL ((x' * z').natAbs))]) := by
  have H := r02_Mul s (encZ x') t (encZ z') (Lb_toL _) (by first | exact hxl | simpa only [zv_encZ, zv_encZ] using hxl) (Lb_toL _) (by first | exact hzl | simpa only [zv_encZ, zv_encZ] using hzl)
  first | exact H | (simp only [zv_encZ, validZ_encZ] at H; exact H)
theorem r02_Gcd (s : SA) (x : RawI) (t : SA) (z : RawI) (hx : Lb x.mag) (hxl : x.mag.length ≤ 137438953472) (hz : Lb z.mag) (hzl : z.mag.length ≤ 137438953472) : Spec Tryz.prog 73 #[intV s x, intV t z] [fU s x.mag, fU t z.mag] (ι := SA) (fun y => sl y (toL (Nat.gcd ((zv x).natAbs) ((zv z).natAbs))).length) (fun y => True) (fun y => [fU y (toL (Nat.gcd ((zv x).natAbs) ((zv z).natAbs)))]) := by
 refine Spec.of_body _ (fn := Tryz.f73) k_ rfl k_ (fun X w0 => ?_)
 refine J.fact (φ := x.mag.length ≤ 140737488355328) (fun w h => by have := (h _ (.head _)).1; omega) (fun hl1 => ?_)
 refine J.fact (φ := z.mag.length ≤ 140737488355328) (fun w h => by have := (h _ (.tail _ ((.head _)))).1; omega) (fun hl2 => ?_)
 have hxv := Nat.le_trans (zv_len hx) hxl
 have hzv := Nat.le_trans (zv_len hz) hzl
 refine J.sreg ?_
 refine RN.new (fun b => pt b) (.cells #[.bool x.neg, sl s x.mag.length] 38 (0, 0)) k_ k_ (fun w => by kernel_rfl) (fun b3 => ?_)
 refine RN.new (fun b => pt b) (.cells #[.bool z.neg, sl t z.mag.length] 38 (0, 0)) k_ k_ (fun w => by kernel_rfl) (fun b4 => ?_)
 refine RN.bq (no 1) [2, 3] [] 3 [(2, pt b3), (3, pt b4)] k_ ?_
 refine RN.fin k_ ?_
 refine J.seq ?_
 refine J.regD k_ [] ?_
 refine RD.bq [(0, some 1), (3, some 0)] [5, 8] [b4, b4, b3, b3] [(5, intV s x), (8, intV t z)] k_ k_ ?_
 refine RD.call (i := 1) (r02_Take s x y_ y_) [0] k_ k_ k_ k_ k_ rfl (fun y5 _ => ?_)
 refine RD.bq (nl [2]) [7, 8] [] [(7, sl y5 (toL ((zv x).natAbs)).length), (8, intV t z)] k_ k_ ?_
 refine RD.call (i := 4) (r02_Take t z y_ y_) [2] k_ k_ k_ k_ k_ rfl (fun y6 _ => ?_)
 refine RD.bq (nl [5]) [7, 10] [] [(7, sl y5 (toL ((zv x).natAbs)).length), (10, sl y6 (toL ((zv z).natAbs)).length)] k_ k_ ?_
 refine RD.call (i := 6) (r01_Gcd_c y5 ((zv x).natAbs) y6 ((zv z).natAbs) y_ y_) [1, 0] k_ k_ k_ k_ k_ rfl (fun y7 _ => ?_)
 refine RD.bq (nl [7]) [4] [] [(4, sl y7 (toL (Nat.gcd ((zv x).natAbs) ((zv z).natAbs))).length)] k_ k_ ?_
 refine RD.done k_ ?_
 refine KN.next ?_
 refine J.ret (KR.ret (v := sl y7 (toL (Nat.gcd ((zv x).natAbs) ((zv z).natAbs))).length) (y7) [none] [0] [] k_ rfl (trivial) rfl)
theorem r02_Gcd_c (s : SA) (x' : Int) (t : SA) (z' : Int) (hxl : (toL (x'.natAbs)).length ≤ 137438953472) (hzl : (toL (z'.natAbs)).length ≤ 137438953472) : Spec Tryz.prog 73 #[intV s (encZ x'), intV t (encZ z')] [fU s (toL (x'.natAbs)), fU t (toL (z'.natAbs))] (ι := SA) (fun y => sl y (toL (Nat.gcd (x'.natAbs) (z'.natAbs))).length) (fun y => True) (fun y => [fU y (toL (Nat.gcd (x'.natAbs) (z'.natAbs)))]) := by
  have H := r02_Gcd s (encZ x') t (encZ z') (Lb_toL _) (by first | exact hxl | simpa only [zv_encZ, zv_encZ] using hxl) (Lb_toL _) (by first | exact hzl | simpa only [zv_encZ, zv_encZ] using hzl)
  first | exact H | (simp only [zv_encZ, validZ_encZ] at H; exact H)
theorem r02_Same (s : SA) (x : RawI) (t : SA) (z : RawI) : Spec Tryz.prog 52 #[intV s x, intV t z] [fU s x.mag, fU t z.mag] (ι := Unit) (fun y => .bool (decide (x = z))) (fun y => True) (fun y => []) := by
 refine Spec.of_body _ (fn := Tryz.f52) k_ rfl k_ (fun X w0 => ?_)
 refine J.fact (φ := x.mag.length ≤ 140737488355328) (fun w h => by have := (h _ (.head _)).1; omega) (fun hl1 => ?_)
 refine J.fact (φ := z.mag.length ≤ 140737488355328) (fun w h => by have := (h _ (.tail _ ((.head _)))).1; omega) (fun hl2 => ?_)
 refine J.sreg ?_
 refine RN.new (fun b => pt b) (.cells #[.bool x.neg, sl s x.mag.length] 38 (0, 0)) k_ k_ (fun w => by kernel_rfl) (fun b3 => ?_)
 refine RN.new (fun b => pt b) (.cells #[.bool z.neg, sl t z.mag.length] 38 (0, 0)) k_ k_ (fun w => by kernel_rfl) (fun b4 => ?_)
 refine RN.bq (no 1) [2, 3] [] 3 [(2, pt b3), (3, pt b4)] k_ ?_
 refine RN.fs k_ ?_
 refine RN.bq [none, some 1, none, some 0, none, none] [2, 3, 10] [b4, b3] 6 [(2, pt b3), (3, pt b4), (10, .bool (x.neg == z.neg))] k_ ?_
 refine RN.split 10 (x.neg == z.neg) k_ (fun c5 => ?_) (fun c5 => ?_)
 ·refine RN.bq [none, some 1, none, some 0] [10, 12, 14] [b4, b3] 10 [(10, .bool true), (12, sl s x.mag.length), (14, sl t z.mag.length)] k_ ?_
  refine RN.call (r01_Same s x.mag t z.mag) [0, 1] k_ k_ k_ rfl (fun y6 _ => ?_)
  refine RN.bq (no 2) [4] [] 13 [(4, .bool (decide (x.mag = z.mag)))] k_ ?_
  refine RN.fin k_ ?_
  have e_1 : (decide (x = z)) = (decide (x.mag = z.mag)) := by rcases x with ⟨a, b⟩; rcases z with ⟨c, d⟩; simp_all
  refine J.ret (KR.ret (v := .bool (decide (x.mag = z.mag))) (()) [none] [] [] k_ v1_ (trivial) v1_)
 ·refine RN.bq (no 7) [4] [] 13 [(4, .bool false)] k_ ?_
  refine RN.fin k_ ?_
  have e_1 : (decide (x = z)) = false := by rcases x with ⟨a, b⟩; rcases z with ⟨c, d⟩; simp_all
  refine J.ret (KR.ret (v := .bool false) (()) [none] [] [] k_ v1_ (trivial) v1_)
theorem y_r02_FromInt {p : Prop} (h : p := by first | assumption | exact Lb_toL _ | omega | (simp; done) | first | exact Lb.one (by decide) | (simp; done) | (simp; omega)) : p := h
theorem r02_FromInt (v : Int) (h1 : -9223372036854775808 ≤ v) (h2 : v < 9223372036854775808) : Spec Tryz.prog 41 #[.int .i64 v] [] (ι := SA) (fun y => intV y (encZ v)) (fun y => True) (fun y => [fU y (toL (v.natAbs))]) := by
 refine Spec.of_body _ (fn := Tryz.f41) k_ rfl k_ (fun X w0 => ?_)
 have hl : (toL ((-(v + 1)).natAbs)).length ≤ 1099511627776 := Nat.le_trans (u64_len.2 (by omega)) (by decide)
 refine J.sreg ?_
 refine RN.new (fun b => pt b) (.cells #[.bool false, sl saNil ([] : List Nat).length] 38 (0, 0)) k_ k_ (fun w => by kernel_rfl) (fun b1 => ?_)
 refine RN.fin k_ ?_
 refine J.seq ?_
 refine J.sreg ?_
 refine RN.bq (no 2) [0, 2, 4] [] 2 [(0, .int .i64 v), (2, pt b1), (4, .bool (decide (v < 0)))] k_ ?_
 refine RN.fin k_ ?_
 refine J.cond (decide (v < 0)) k_ (fun c2 => ?_) (fun c2 => ?_)
 ·replace c2 := of_decide_eq_true c2
  refine J.sreg ?_
  refine RN.bq (no 2) [2, 6] [] 2 [(2, pt b1), (6, .int .i64 (IntKind.i64.wrap (v + 1)))] k_ ?_
  rw [show IntKind.i64.wrap (v + 1) = (v + 1) from by rw [IntKind.wrap_i64]; omega]
  refine RN.bq (no 1) [2, 7] [] 3 [(2, pt b1), (7, .int .i64 (IntKind.i64.wrap (0 - (v + 1))))] k_ ?_
  rw [show IntKind.i64.wrap (0 - (v + 1)) = (-(v + 1)) from by rw [IntKind.wrap_i64]; omega]
  refine RN.bq (no 1) [2, 8] [] 4 [(2, pt b1), (8, .int .u64 (IntKind.u64.wrap (-(v + 1))))] k_ ?_
  rw [show (IntKind.u64.wrap (-(v + 1))) = (((-(v + 1)).natAbs : Nat) : Int) from by exact u64_pos (by omega) (by omega)]
  refine RN.call (r01_FromUint ((-(v + 1)).natAbs) y_r02_FromInt) [] k_ k_ k_ rfl (fun y3 _ => ?_)
  refine RN.new (fun b => .slice (some ⟨b, 0, none⟩) 1 1) (.cells (encU ([1] : List Nat)) 107 (0, 0)) k_ k_ (fun w => by kernel_rfl) (fun b4 => ?_)
  refine RN.share 0 rfl rfl ?_
  refine RN.also (fU (⟨some ⟨b4, 0, none⟩, 1⟩ : SA) ([1] : List Nat)) (fun w h => fU_own (h _ (.head _)) x_ x_) ?_
  refine RN.turn 10 (v := .slice (some ⟨b4, 0, none⟩) 1 1) (v' := sl (⟨some ⟨b4, 0, none⟩, 1⟩ : SA) ([1] : List Nat).length) k_ (sl_eq x_) ?_
  refine RN.call (r01_Add y3 (toL ((-(v + 1)).natAbs)) (⟨some ⟨b4, 0, none⟩, 1⟩ : SA) ([1] : List Nat) y_r02_FromInt y_r02_FromInt y_r02_FromInt y_r02_FromInt) [2, 0] k_ k_ k_ rfl (fun y5 _ => ?_)
  refine RN.call (r02_signed true y5 (nv (toL ((-(v + 1)).natAbs)) + nv ([1] : List Nat))) [0] k_ k_ k_ rfl (fun y6 _ => ?_)
  refine RN.bs [some 0] [2] [b1, b1] 9 [(2, pt b1)] ([(b1, .cells #[.bool (decide ((sgn true (nv (toL ((-(v + 1)).natAbs)) + nv ([1] : List Nat))) < 0)), sl y6 (toL ((sgn true (nv (toL ((-(v + 1)).natAbs)) + nv ([1] : List Nat))).natAbs)).length] 38 (0, 0))]) k_ ?_
  refine RN.fin k_ ?_
  have e_1 : v = (sgn true (nv (toL ((-(v + 1)).natAbs)) + nv ([1] : List Nat))) := by first | (rw [nv_toL, nv_one]; simp [sgn]; omega) | (simp [sgn]; omega)
  refine J.ret (KR.next (KR.ret (v := intV y6 (encZ (sgn true (nv (toL ((-(v + 1)).natAbs)) + nv ([1] : List Nat))))) (y6) [some 0] [0] [b1, b1] k_ v1_ (trivial) v1_))
 ·replace c2 := of_decide_eq_false c2
  refine J.skip ?_
  refine KN.next ?_
  refine J.sreg ?_
  refine RN.bq (no 2) [2, 14] [] 2 [(2, pt b1), (14, .int .u64 (IntKind.u64.wrap v))] k_ ?_
  rw [show (IntKind.u64.wrap v) = ((v.natAbs : Nat) : Int) from by exact u64_pos (by omega) (by omega)]
  refine RN.call (r01_FromUint (v.natAbs) y_r02_FromInt) [] k_ k_ k_ rfl (fun y7 _ => ?_)
  refine RN.call (r02_signed false y7 (v.natAbs)) [0] k_ k_ k_ rfl (fun y8 _ => ?_)
  refine RN.bs [some 0] [2] [b1, b1] 5 [(2, pt b1)] ([(b1, .cells #[.bool (decide ((sgn false (v.natAbs)) < 0)), sl y8 (toL ((sgn false (v.natAbs)).natAbs)).length] 38 (0, 0))]) k_ ?_
  refine RN.fin k_ ?_
  have e_1 : v = (sgn false (v.natAbs)) := by first | (rw [nv_toL, nv_one]; simp [sgn]; omega) | (simp [sgn]; omega)
  refine J.ret (KR.ret (v := intV y8 (encZ (sgn false (v.natAbs)))) (y8) [some 0] [0] [b1, b1] k_ v1_ (trivial) v1_)
theorem ediv_core {a b : Int} {m r : Nat} (hb : b ≠ 0) (h : (r : Int) + (b.natAbs : Int) * sgn (decide (a < 0)) m = a) (hr : r < b.natAbs) :
    sgn (decide (a < 0) != decide (b < 0)) m = a / b ∧ (r : Int) = a % b := by
  have hd : (0 : Int) < (b.natAbs : Int) := by omega
  have hu := (Int.ediv_emod_unique (a := a) (r := (r : Int)) (q := sgn (decide (a < 0)) m) hd).2 ⟨h, by omega, by omega⟩
  by_cases hn : b < 0
  · have e : b = -(b.natAbs : Int) := by omega
    have e1 : a / b = -(a / (b.natAbs : Int)) := by
      conv => lhs; rw [e]
      exact Int.ediv_neg a _
    have e2 : a % b = a % (b.natAbs : Int) := by
      conv => lhs; rw [e]
      exact Int.emod_neg a _
    rw [e1, e2, hu.1, hu.2]
    refine ⟨?_, rfl⟩
    cases decide (a < 0) <;> simp [sgn, hn]
  · have e : (b.natAbs : Int) = b := by omega
    rw [e] at hu
    rw [hu.1, hu.2]
    refine ⟨?_, rfl⟩
    cases decide (a < 0) <;> simp [sgn, hn]
theorem ediv_0 {a b : Int} (hb : b ≠ 0) (h : ¬ (a < 0 ∧ a.natAbs % b.natAbs ≠ 0)) : sgn (decide (a < 0) != decide (b < 0)) (a.natAbs / b.natAbs) = a / b ∧ ((a.natAbs % b.natAbs : Nat) : Int) = a % b := by
  have hd : 0 < b.natAbs := by omega
  have hm := Nat.div_add_mod a.natAbs b.natAbs
  have hl := Nat.mod_lt a.natAbs hd
  refine ediv_core hb ?_ hl
  generalize a.natAbs % b.natAbs = r at *
  generalize a.natAbs / b.natAbs = q at *
  have hmi : (b.natAbs : Int) * (q : Int) + (r : Int) = (a.natAbs : Int) := by exact_mod_cast hm
  by_cases ha : a < 0
  · have hr : r = 0 := by
      apply Nat.eq_zero_of_not_pos; intro hp; exact h ⟨ha, by omega⟩
    simp only [ha, decide_true, sgn, if_true]
    rw [Int.mul_neg]; omega
  · simp only [ha, decide_false, sgn]
    simp; omega
theorem ediv_1 {a b : Int} (hb : b ≠ 0) (ha : a < 0) (h : a.natAbs % b.natAbs ≠ 0) : sgn (decide (a < 0) != decide (b < 0)) (a.natAbs / b.natAbs + 1) = a / b ∧ ((b.natAbs - a.natAbs % b.natAbs : Nat) : Int) = a % b := by
  have hd : 0 < b.natAbs := by omega
  have hm := Nat.div_add_mod a.natAbs b.natAbs
  have hl := Nat.mod_lt a.natAbs hd
  refine ediv_core hb ?_ (by omega)
  generalize a.natAbs % b.natAbs = r at *
  generalize a.natAbs / b.natAbs = q at *
  have hmi : (b.natAbs : Int) * (q : Int) + (r : Int) = (a.natAbs : Int) := by exact_mod_cast hm
  simp only [ha, decide_true, sgn, if_true]
  rw [show ((q + 1 : Nat) : Int) = (q : Int) + 1 from rfl, Int.mul_neg, Int.mul_add, Int.mul_one]; omega
theorem y_r02_Div {p : Prop} (h : p := by first | assumption | exact Lb_toL _ | omega | (simp; done) | first | exact Lb.one (by decide) | (simp; done) | (simp; omega)) : p := h
theorem r02_Div (s : SA) (x : RawI) (t : SA) (z : RawI) (hx : Lb x.mag) (hxl : x.mag.length ≤ 137438953472) (hz : Lb z.mag) (hzl : z.mag.length ≤ 137438953472) : Spec Tryz.prog 74 #[intV s x, intV t z] [fU s x.mag, fU t z.mag] (ι := SA × SA) (fun y => .tuple #[intV y.1 (encZ (zv x / zv z)), intV y.2 (encZ (if zv z = 0 then 0 else zv x % zv z)), .bool (decide (zv z ≠ 0))]) (fun y => True) (fun y => [fU y.1 (toL ((zv x / zv z).natAbs)), fU y.2 (toL ((if zv z = 0 then 0 else zv x % zv z).natAbs))]) := by
 refine Spec.of_body _ (fn := Tryz.f74) k_ rfl k_ (fun X w0 => ?_)
 refine J.fact (φ := x.mag.length ≤ 140737488355328) (fun w h => by have := (h _ (.head _)).1; omega) (fun hl1 => ?_)
 refine J.fact (φ := z.mag.length ≤ 140737488355328) (fun w h => by have := (h _ (.tail _ ((.head _)))).1; omega) (fun hl2 => ?_)
 have hxv := Nat.le_trans (zv_len hx) hxl
 have hzv := Nat.le_trans (zv_len hz) hzl
 have hql := length_toL_mono (Nat.div_le_self (zv x).natAbs (zv z).natAbs)
 refine J.sreg ?_
 refine RN.new (fun b => pt b) (.cells #[.bool x.neg, sl s x.mag.length] 38 (0, 0)) k_ k_ (fun w => by kernel_rfl) (fun b3 => ?_)
 refine RN.new (fun b => pt b) (.cells #[.bool z.neg, sl t z.mag.length] 38 (0, 0)) k_ k_ (fun w => by kernel_rfl) (fun b4 => ?_)
 refine RN.new (fun b => pt b) (.cells #[.bool false, sl saNil ([] : List Nat).length] 38 (0, 0)) k_ k_ (fun w => by kernel_rfl) (fun b5 => ?_)
 refine RN.new (fun b => pt b) (.cells #[.bool false, sl saNil ([] : List Nat).length] 38 (0, 0)) k_ k_ (fun w => by kernel_rfl) (fun b6 => ?_)
 refine RN.bq (no 1) [2, 3, 4, 5] [] 5 [(2, pt b3), (3, pt b4), (4, pt b5), (5, pt b6)] k_ ?_
 refine RN.fin k_ ?_
 refine J.seq ?_
 refine J.regD k_ [4, 5] ?_
 refine RD.bq [(0, some 3), (2, some 2)] [2, 3, 4, 5, 10, 12] [b4, b4, b3, b3] [(2, pt b3), (3, pt b4), (4, pt b5), (5, pt b6), (10, intV s x), (12, intV t z)] k_ k_ ?_
 refine RD.call (i := 1) (r02_Take s x y_r02_Div y_r02_Div) [0] k_ k_ k_ k_ k_ rfl (fun y7 _ => ?_)
 refine RD.call (i := 3) (r02_Take t z y_r02_Div y_r02_Div) [2] k_ k_ k_ k_ k_ rfl (fun y8 _ => ?_)
 refine RD.last (i := 4) (some 3) [2, 3, 4, 5, 13] [b3, b3] k_ k_ k_ (l' := [(2, pt b3), (3, pt b4), (4, pt b5), (5, pt b6), (13, intV y8 (encZ (zv z)))]) (M' := [(b6, .cells #[.bool false, sl saNil ([] : List Nat).length] 38 (0, 0)), (b5, .cells #[.bool false, sl saNil ([] : List Nat).length] 38 (0, 0)), (b4, .cells #[.bool z.neg, sl t z.mag.length] 38 (0, 0)), (b3, .cells #[.bool (decide ((zv x) < 0)), sl y7 (toL ((zv x).natAbs)).length] 38 (0, 0))]) k_ ?_
 refine RD.last (i := 5) (some 2) [2, 3, 4, 5] [b4, b4] k_ k_ k_ (l' := [(2, pt b3), (3, pt b4), (4, pt b5), (5, pt b6)]) (M' := [(b6, .cells #[.bool false, sl saNil ([] : List Nat).length] 38 (0, 0)), (b5, .cells #[.bool false, sl saNil ([] : List Nat).length] 38 (0, 0)), (b4, .cells #[.bool (decide ((zv z) < 0)), sl y8 (toL ((zv z).natAbs)).length] 38 (0, 0)), (b3, .cells #[.bool (decide ((zv x) < 0)), sl y7 (toL ((zv x).natAbs)).length] 38 (0, 0))]) k_ ?_
 refine RD.done k_ ?_
 refine KN.next ?_
 refine J.sreg ?_
 refine RN.bq [none, some 3, none, some 2] [2, 3, 4, 5, 16, 18] [b4, b3] 4 [(2, pt b3), (3, pt b4), (4, pt b5), (5, pt b6), (16, sl y7 (toL ((zv x).natAbs)).length), (18, sl y8 (toL ((zv z).natAbs)).length)] k_ ?_
 refine RN.call (r01_Div_c y7 ((zv x).natAbs) y8 ((zv z).natAbs) y_r02_Div y_r02_Div) [1, 0] k_ k_ k_ rfl (fun y9 _ => ?_)
 refine RN.bq (no 7) [2, 3, 4, 5, 7, 8, 9] [] 12 [(2, pt b3), (3, pt b4), (4, pt b5), (5, pt b6), (7, sl y9.1 (toL (((zv x).natAbs) / ((zv z).natAbs))).length), (8, sl y9.2 (toL (if ((zv z).natAbs) = 0 then 0 else ((zv x).natAbs) % ((zv z).natAbs))).length), (9, .bool (decide (((zv z).natAbs) ≠ 0)))] k_ ?_
 refine RN.fin k_ ?_
 refine J.seq ?_
 refine J.sreg ?_
 refine RN.bq (no 2) [2, 3, 4, 5, 7, 8, 24] [] 2 [(2, pt b3), (3, pt b4), (4, pt b5), (5, pt b6), (7, sl y9.1 (toL (((zv x).natAbs) / ((zv z).natAbs))).length), (8, sl y9.2 (toL (if ((zv z).natAbs) = 0 then 0 else ((zv x).natAbs) % ((zv z).natAbs))).length), (24, .bool (!(decide (((zv z).natAbs) ≠ 0))))] k_ ?_
 refine RN.fin k_ ?_
 refine J.cond (!(decide (((zv z).natAbs) ≠ 0))) k_ (fun c10 => ?_) (fun c10 => ?_)
 ·replace c10 := of_decide_eq_false ((Bool.not_eq_true' _).mp c10)
  have h0 : zv z = 0 := by simpa using c10
  refine J.sreg ?_
  refine RN.bs [none, none, some 1, some 0, none] [4, 5, 6] [b6, b6, b5, b5] 5 [(4, pt b5), (5, pt b6), (6, .bool false)] ([(b6, .cells #[.bool false, sl saNil ([] : List Nat).length] 38 (0, 0)), (b5, .cells #[.bool false, sl saNil ([] : List Nat).length] 38 (0, 0)), (b4, .cells #[.bool (decide ((zv z) < 0)), sl y8 (toL ((zv z).natAbs)).length] 38 (0, 0)), (b3, .cells #[.bool (decide ((zv x) < 0)), sl y7 (toL ((zv x).natAbs)).length] 38 (0, 0))]) k_ ?_
  refine RN.fin k_ ?_
  have e_1 : (encZ (zv x / zv z)) = (⟨false, ([] : List Nat)⟩ : RawI) := by first | (rw [h0, Int.ediv_zero, encZ_zero]; done) | (rw [if_pos h0, encZ_zero]; done) | simp [h0]
  have e_2 : (toL ((zv x / zv z).natAbs)) = ([] : List Nat) := congrArg RawI.mag e_1
  have e_3 : (encZ (if zv z = 0 then 0 else zv x % zv z)) = (⟨false, ([] : List Nat)⟩ : RawI) := by first | (rw [h0, Int.ediv_zero, encZ_zero]; done) | (rw [if_pos h0, encZ_zero]; done) | simp [h0]
  have e_4 : (toL ((if zv z = 0 then 0 else zv x % zv z).natAbs)) = ([] : List Nat) := congrArg RawI.mag e_3
  have e_5 : (decide (zv z ≠ 0)) = false := by first | (rw [h0, Int.ediv_zero, encZ_zero]; done) | (rw [if_pos h0, encZ_zero]; done) | simp [h0]
  refine J.also (fU saNil ([] : List Nat)) (fun w h => fU_nil w) ?_
  refine J.ret (KR.next (KR.ret (v := .tuple #[intV saNil (⟨false, ([] : List Nat)⟩ : RawI), intV saNil (⟨false, ([] : List Nat)⟩ : RawI), .bool false]) (⟨saNil, saNil⟩) [some 1, some 0, none] [0, 0] [b5, b5, b6, b6] k_ (by first | rfl | (rw [e_1, e_3, e_5]; done) | (simp only [e_1, e_3, e_5]; done) | (rw [e_2, e_4]; done) | (rw [e_1, e_2, e_3, e_4, e_5]; rfl) | (simp only [e_1, e_2, e_3, e_4, e_5]; done) | (simp only [e_1, e_2, e_3, e_4, e_5]; rfl)) (trivial) (by first | rfl | (rw [e_1, e_3, e_5]; done) | (simp only [e_1, e_3, e_5]; done) | (rw [e_2, e_4]; done) | (rw [e_1, e_2, e_3, e_4, e_5]; rfl) | (simp only [e_1, e_2, e_3, e_4, e_5]; done) | (simp only [e_1, e_2, e_3, e_4, e_5]; rfl))))
 ·replace c10 := of_decide_eq_true ((Bool.not_eq_false' _).mp c10)
  have h0 : zv z ≠ 0 := by simpa using c10
  have hn0 : ¬ (zv z).natAbs = 0 := by omega
  have hml := length_toL_mono (Nat.le_of_lt (Nat.mod_lt (zv x).natAbs (by omega : 0 < (zv z).natAbs)))
  rw [show (if ((zv z).natAbs) = 0 then 0 else ((zv x).natAbs) % ((zv z).natAbs)) = ((zv x).natAbs) % ((zv z).natAbs) from if_neg hn0]
  refine J.skip ?_
  refine KN.next ?_
  refine J.seq ?_
  refine J.sreg ?_
  refine RN.bq [none, some 3, none] [2, 3, 4, 5, 7, 8, 29] [b3] 3 [(2, pt b3), (3, pt b4), (4, pt b5), (5, pt b6), (7, sl y9.1 (toL (((zv x).natAbs) / ((zv z).natAbs))).length), (8, sl y9.2 (toL (((zv x).natAbs) % ((zv z).natAbs))).length), (29, .bool (decide ((zv x) < 0)))] k_ ?_
  refine RN.split 29 (decide ((zv x) < 0)) k_ (fun c11 => ?_) (fun c11 => ?_)
  ·replace c11 := of_decide_eq_true c11
   have hneg := c11
   refine RN.bq (no 4) [2, 3, 4, 5, 7, 8, 33] [] 7 [(2, pt b3), (3, pt b4), (4, pt b5), (5, pt b6), (7, sl y9.1 (toL (((zv x).natAbs) / ((zv z).natAbs))).length), (8, sl y9.2 (toL (((zv x).natAbs) % ((zv z).natAbs))).length), (33, .bool (decide ((((toL (((zv x).natAbs) % ((zv z).natAbs))).length : Nat) : Int) > 0)))] k_ ?_
   refine RN.fin k_ ?_
   refine J.cond (decide ((((toL (((zv x).natAbs) % ((zv z).natAbs))).length : Nat) : Int) > 0)) k_ (fun c12 => ?_) (fun c12 => ?_)
   ·replace c12 := of_decide_eq_true c12
    have hr0 : (zv x).natAbs % (zv z).natAbs ≠ 0 := toL_len_ne (by omega)
    have hE := ediv_1 h0 hneg hr0
    refine J.sreg ?_
    refine RN.bq (no 1) [2, 3, 4, 5, 8, 34] [] 1 [(2, pt b3), (3, pt b4), (4, pt b5), (5, pt b6), (8, sl y9.2 (toL (((zv x).natAbs) % ((zv z).natAbs))).length), (34, sl y9.1 (toL (((zv x).natAbs) / ((zv z).natAbs))).length)] k_ ?_
    refine RN.new (fun b => .slice (some ⟨b, 0, none⟩) 1 1) (.cells (encU ([1] : List Nat)) 107 (0, 0)) k_ k_ (fun w => by kernel_rfl) (fun b13 => ?_)
    refine RN.share 0 rfl rfl ?_
    refine RN.also (fU (⟨some ⟨b13, 0, none⟩, 1⟩ : SA) ([1] : List Nat)) (fun w h => fU_own (h _ (.head _)) x_ x_) ?_
    refine RN.turn 35 (v := .slice (some ⟨b13, 0, none⟩) 1 1) (v' := sl (⟨some ⟨b13, 0, none⟩, 1⟩ : SA) ([1] : List Nat).length) k_ (sl_eq x_) ?_
    refine RN.call (r01_Add y9.1 (toL (((zv x).natAbs) / ((zv z).natAbs))) (⟨some ⟨b13, 0, none⟩, 1⟩ : SA) ([1] : List Nat) y_r02_Div y_r02_Div y_r02_Div y_r02_Div) [2, 0] k_ k_ k_ rfl (fun y14 _ => ?_)
    refine RN.bq (no 1) [2, 3, 4, 5, 7, 8] [] 4 [(2, pt b3), (3, pt b4), (4, pt b5), (5, pt b6), (7, sl y14 (toL (nv (toL (((zv x).natAbs) / ((zv z).natAbs))) + nv ([1] : List Nat))).length), (8, sl y9.2 (toL (((zv x).natAbs) % ((zv z).natAbs))).length)] k_ ?_
    refine RN.fin k_ ?_
    refine J.regN ?_
    refine RN.bq [none, some 2, none] [2, 3, 4, 5, 7, 39, 40] [b4] 3 [(2, pt b3), (3, pt b4), (4, pt b5), (5, pt b6), (7, sl y14 (toL (nv (toL (((zv x).natAbs) / ((zv z).natAbs))) + nv ([1] : List Nat))).length), (39, sl y8 (toL ((zv z).natAbs)).length), (40, sl y9.2 (toL (((zv x).natAbs) % ((zv z).natAbs))).length)] k_ ?_
    refine RN.call (r01_Sub_c y8 ((zv z).natAbs) y9.2 (((zv x).natAbs) % ((zv z).natAbs)) y_r02_Div y_r02_Div) [5, 4] k_ k_ k_ rfl (fun y15 _ => ?_)
    refine RN.bq (no 4) [2, 3, 4, 5, 7, 8] [] 8 [(2, pt b3), (3, pt b4), (4, pt b5), (5, pt b6), (7, sl y14 (toL (nv (toL (((zv x).natAbs) / ((zv z).natAbs))) + nv ([1] : List Nat))).length), (8, sl y15 (toL (((zv z).natAbs) - (((zv x).natAbs) % ((zv z).natAbs)))).length)] k_ ?_
    refine RN.fs k_ ?_
    refine RN.bq [none, some 3, none, some 2, none, none] [4, 5, 8, 48, 49] [b4, b3] 6 [(4, pt b5), (5, pt b6), (8, sl y15 (toL (((zv z).natAbs) - (((zv x).natAbs) % ((zv z).natAbs)))).length), (48, .bool ((decide ((zv x) < 0)) != (decide ((zv z) < 0)))), (49, sl y14 (toL (nv (toL (((zv x).natAbs) / ((zv z).natAbs))) + nv ([1] : List Nat))).length)] k_ ?_
    refine RN.call (r02_signed ((decide ((zv x) < 0)) != (decide ((zv z) < 0))) y14 (nv (toL (((zv x).natAbs) / ((zv z).natAbs))) + nv ([1] : List Nat))) [1] k_ k_ k_ rfl (fun y16 _ => ?_)
    refine RN.bq (no 1) [4, 5, 50, 51] [] 8 [(4, pt b5), (5, pt b6), (50, intV y16 (encZ (sgn ((decide ((zv x) < 0)) != (decide ((zv z) < 0))) (nv (toL (((zv x).natAbs) / ((zv z).natAbs))) + nv ([1] : List Nat))))), (51, sl y15 (toL (((zv z).natAbs) - (((zv x).natAbs) % ((zv z).natAbs)))).length)] k_ ?_
    refine RN.call (r02_signed false y15 (((zv z).natAbs) - (((zv x).natAbs) % ((zv z).natAbs)))) [1] k_ k_ k_ rfl (fun y17 _ => ?_)
    refine RN.bs [some 1, some 0, none] [4, 5, 6] [b6, b6, b5, b5] 12 [(4, pt b5), (5, pt b6), (6, .bool true)] ([(b6, .cells #[.bool (decide ((sgn false (((zv z).natAbs) - (((zv x).natAbs) % ((zv z).natAbs)))) < 0)), sl y17 (toL ((sgn false (((zv z).natAbs) - (((zv x).natAbs) % ((zv z).natAbs)))).natAbs)).length] 38 (0, 0)), (b5, .cells #[.bool (decide ((sgn ((decide ((zv x) < 0)) != (decide ((zv z) < 0))) (nv (toL (((zv x).natAbs) / ((zv z).natAbs))) + nv ([1] : List Nat))) < 0)), sl y16 (toL ((sgn ((decide ((zv x) < 0)) != (decide ((zv z) < 0))) (nv (toL (((zv x).natAbs) / ((zv z).natAbs))) + nv ([1] : List Nat))).natAbs)).length] 38 (0, 0)), (b4, .cells #[.bool (decide ((zv z) < 0)), sl y8 (toL ((zv z).natAbs)).length] 38 (0, 0)), (b3, .cells #[.bool (decide ((zv x) < 0)), sl y7 (toL ((zv x).natAbs)).length] 38 (0, 0))]) k_ ?_
    refine RN.fin k_ ?_
    have e_1 : (zv x / zv z) = (sgn ((decide ((zv x) < 0)) != (decide ((zv z) < 0))) (nv (toL (((zv x).natAbs) / ((zv z).natAbs))) + nv ([1] : List Nat))) := by first | (rw [nv_toL, nv_one]; exact hE.1.symm) | (rw [if_neg h0, ← hE.2]; rfl) | simp [h0]
    have e_2 : (if zv z = 0 then 0 else zv x % zv z) = (sgn false (((zv z).natAbs) - (((zv x).natAbs) % ((zv z).natAbs)))) := by first | (rw [nv_toL, nv_one]; exact hE.1.symm) | (rw [if_neg h0, ← hE.2]; rfl) | simp [h0]
    have e_3 : (decide (zv z ≠ 0)) = true := by first | (rw [nv_toL, nv_one]; exact hE.1.symm) | (rw [if_neg h0, ← hE.2]; rfl) | simp [h0]
    refine J.ret (KR.ret (v := .tuple #[intV y16 (encZ (sgn ((decide ((zv x) < 0)) != (decide ((zv z) < 0))) (nv (toL (((zv x).natAbs) / ((zv z).natAbs))) + nv ([1] : List Nat)))), intV y17 (encZ (sgn false (((zv z).natAbs) - (((zv x).natAbs) % ((zv z).natAbs))))), .bool true]) (⟨y16, y17⟩) [some 1, some 0, none] [1, 0] [b5, b5, b6, b6] k_ v3_ (trivial) v3_)
   ·replace c12 := of_decide_eq_false c12
    have hr0 : (zv x).natAbs % (zv z).natAbs = 0 := toL_len_eq (by omega)
    have hE := ediv_0 h0 (fun h => h.2 hr0)
    refine J.skip ?_
    refine KN.next ?_
    refine J.sreg ?_
    refine RN.bq [none, some 3, none, some 2, none, none] [4, 5, 8, 48, 49] [b4, b3] 6 [(4, pt b5), (5, pt b6), (8, sl y9.2 (toL (((zv x).natAbs) % ((zv z).natAbs))).length), (48, .bool ((decide ((zv x) < 0)) != (decide ((zv z) < 0)))), (49, sl y9.1 (toL (((zv x).natAbs) / ((zv z).natAbs))).length)] k_ ?_
    refine RN.call (r02_signed ((decide ((zv x) < 0)) != (decide ((zv z) < 0))) y9.1 (((zv x).natAbs) / ((zv z).natAbs))) [0] k_ k_ k_ rfl (fun y18 _ => ?_)
    refine RN.bq (no 1) [4, 5, 50, 51] [] 8 [(4, pt b5), (5, pt b6), (50, intV y18 (encZ (sgn ((decide ((zv x) < 0)) != (decide ((zv z) < 0))) (((zv x).natAbs) / ((zv z).natAbs))))), (51, sl y9.2 (toL (((zv x).natAbs) % ((zv z).natAbs))).length)] k_ ?_
    refine RN.call (r02_signed false y9.2 (((zv x).natAbs) % ((zv z).natAbs))) [2] k_ k_ k_ rfl (fun y19 _ => ?_)
    refine RN.bs [some 1, some 0, none] [4, 5, 6] [b6, b6, b5, b5] 12 [(4, pt b5), (5, pt b6), (6, .bool true)] ([(b6, .cells #[.bool (decide ((sgn false (((zv x).natAbs) % ((zv z).natAbs))) < 0)), sl y19 (toL ((sgn false (((zv x).natAbs) % ((zv z).natAbs))).natAbs)).length] 38 (0, 0)), (b5, .cells #[.bool (decide ((sgn ((decide ((zv x) < 0)) != (decide ((zv z) < 0))) (((zv x).natAbs) / ((zv z).natAbs))) < 0)), sl y18 (toL ((sgn ((decide ((zv x) < 0)) != (decide ((zv z) < 0))) (((zv x).natAbs) / ((zv z).natAbs))).natAbs)).length] 38 (0, 0)), (b4, .cells #[.bool (decide ((zv z) < 0)), sl y8 (toL ((zv z).natAbs)).length] 38 (0, 0)), (b3, .cells #[.bool (decide ((zv x) < 0)), sl y7 (toL ((zv x).natAbs)).length] 38 (0, 0))]) k_ ?_
    refine RN.fin k_ ?_
    have e_1 : (zv x / zv z) = (sgn ((decide ((zv x) < 0)) != (decide ((zv z) < 0))) (((zv x).natAbs) / ((zv z).natAbs))) := by first | exact hE.1.symm | (rw [if_neg h0, ← hE.2]; rfl) | simp [h0]
    have e_2 : (if zv z = 0 then 0 else zv x % zv z) = (sgn false (((zv x).natAbs) % ((zv z).natAbs))) := by first | exact hE.1.symm | (rw [if_neg h0, ← hE.2]; rfl) | simp [h0]
    have e_3 : (decide (zv z ≠ 0)) = true := by first | exact hE.1.symm | (rw [if_neg h0, ← hE.2]; rfl) | simp [h0]
    refine J.ret (KR.ret (v := .tuple #[intV y18 (encZ (sgn ((decide ((zv x) < 0)) != (decide ((zv z) < 0))) (((zv x).natAbs) / ((zv z).natAbs)))), intV y19 (encZ (sgn false (((zv x).natAbs) % ((zv z).natAbs)))), .bool true]) (⟨y18, y19⟩) [some 1, some 0, none] [1, 0] [b5, b5, b6, b6] k_ v3_ (trivial) v3_)
  ·replace c11 := of_decide_eq_false c11
   have hneg := c11
   refine RN.bq (no 4) [2, 3, 4, 5, 7, 8, 33] [] 7 [(2, pt b3), (3, pt b4), (4, pt b5), (5, pt b6), (7, sl y9.1 (toL (((zv x).natAbs) / ((zv z).natAbs))).length), (8, sl y9.2 (toL (((zv x).natAbs) % ((zv z).natAbs))).length), (33, .bool false)] k_ ?_
   refine RN.fin k_ ?_
   refine J.condF k_ ?_
   refine J.skip ?_
   refine KN.next ?_
   refine J.sreg ?_
   refine RN.bq [none, some 3, none, some 2, none, none] [4, 5, 8, 48, 49] [b4, b3] 6 [(4, pt b5), (5, pt b6), (8, sl y9.2 (toL (((zv x).natAbs) % ((zv z).natAbs))).length), (48, .bool ((decide ((zv x) < 0)) != (decide ((zv z) < 0)))), (49, sl y9.1 (toL (((zv x).natAbs) / ((zv z).natAbs))).length)] k_ ?_
   refine RN.call (r02_signed ((decide ((zv x) < 0)) != (decide ((zv z) < 0))) y9.1 (((zv x).natAbs) / ((zv z).natAbs))) [0] k_ k_ k_ rfl (fun y20 _ => ?_)
   refine RN.bq (no 1) [4, 5, 50, 51] [] 8 [(4, pt b5), (5, pt b6), (50, intV y20 (encZ (sgn ((decide ((zv x) < 0)) != (decide ((zv z) < 0))) (((zv x).natAbs) / ((zv z).natAbs))))), (51, sl y9.2 (toL (((zv x).natAbs) % ((zv z).natAbs))).length)] k_ ?_
   refine RN.call (r02_signed false y9.2 (((zv x).natAbs) % ((zv z).natAbs))) [2] k_ k_ k_ rfl (fun y21 _ => ?_)
   refine RN.bs [some 1, some 0, none] [4, 5, 6] [b6, b6, b5, b5] 12 [(4, pt b5), (5, pt b6), (6, .bool true)] ([(b6, .cells #[.bool (decide ((sgn false (((zv x).natAbs) % ((zv z).natAbs))) < 0)), sl y21 (toL ((sgn false (((zv x).natAbs) % ((zv z).natAbs))).natAbs)).length] 38 (0, 0)), (b5, .cells #[.bool (decide ((sgn ((decide ((zv x) < 0)) != (decide ((zv z) < 0))) (((zv x).natAbs) / ((zv z).natAbs))) < 0)), sl y20 (toL ((sgn ((decide ((zv x) < 0)) != (decide ((zv z) < 0))) (((zv x).natAbs) / ((zv z).natAbs))).natAbs)).length] 38 (0, 0)), (b4, .cells #[.bool (decide ((zv z) < 0)), sl y8 (toL ((zv z).natAbs)).length] 38 (0, 0)), (b3, .cells #[.bool (decide ((zv x) < 0)), sl y7 (toL ((zv x).natAbs)).length] 38 (0, 0))]) k_ ?_
   refine RN.fin k_ ?_
   have e_1 : (zv x / zv z) = (sgn ((decide ((zv x) < 0)) != (decide ((zv z) < 0))) (((zv x).natAbs) / ((zv z).natAbs))) := by first | exact (ediv_0 h0 (fun h => hneg h.1)).1.symm | (rw [if_neg h0, ← (ediv_0 h0 (fun h => hneg h.1)).2]; rfl) | simp [h0]
   have e_2 : (if zv z = 0 then 0 else zv x % zv z) = (sgn false (((zv x).natAbs) % ((zv z).natAbs))) := by first | exact (ediv_0 h0 (fun h => hneg h.1)).1.symm | (rw [if_neg h0, ← (ediv_0 h0 (fun h => hneg h.1)).2]; rfl) | simp [h0]
   have e_3 : (decide (zv z ≠ 0)) = true := by first | exact (ediv_0 h0 (fun h => hneg h.1)).1.symm | (rw [if_neg h0, ← (ediv_0 h0 (fun h => hneg h.1)).2]; rfl) | simp [h0]
   refine J.ret (KR.ret (v := .tuple #[intV y20 (encZ (sgn ((decide ((zv x) < 0)) != (decide ((zv z) < 0))) (((zv x).natAbs) / ((zv z).natAbs)))), intV y21 (encZ (sgn false (((zv x).natAbs) % ((zv z).natAbs)))), .bool true]) (⟨y20, y21⟩) [some 1, some 0, none] [1, 0] [b5, b5, b6, b6] k_ v3_ (trivial) v3_)
theorem r02_Div_c (s : SA) (x' : Int) (t : SA) (z' : Int) (hxl : (toL (x'.natAbs)).length ≤ 137438953472) (hzl : (toL (z'.natAbs)).length ≤ 137438953472) : Spec Tryz.prog 74 #[intV s (encZ x'), intV t (encZ z')] [fU s (toL (x'.natAbs)), fU t (toL (z'.natAbs))] (ι := SA × SA) (fun y => .tuple #[intV y.1 (encZ (x' / z')), intV y.2 (encZ (if z' = 0 then 0 else x' % z')), .bool (decide (z' ≠ 0))]) (fun y => True) (fun y => [fU y.1 (toL ((x' / z').natAbs)), fU y.2 (toL ((if z' = 0 then 0 else x' % z').natAbs))]) := by
  have H := r02_Div s (encZ x') t (encZ z') (Lb_toL _) (by first | exact hxl | simpa only [zv_encZ, zv_encZ] using hxl) (Lb_toL _) (by first | exact hzl | simpa only [zv_encZ, zv_encZ] using hzl)
  first | exact H | (simp only [zv_encZ, validZ_encZ] at H; exact H)
end Go.Proofs.YtbiifkfbkaejlaaGreat.E
namespace Go.Proofs.YtbiifkfbkaejlaaGreat.E
open Go Go.RowKit
set_option linter.unusedVariables false
set_option linter.unusedSimpArgs false
theorem toL_eq1 {n : Nat} : toL n = [1] ↔ n = 1 := ⟨fun h => by have := congrArg lv h; rw [lv_toL] at this; simpa [lv] using this, fun h => by rw [h, toL_1]⟩
theorem one_val {xs : List Nat} (h1 : xs.length = 1) : (xs = [1]) ↔ ((xs.getD 0 0 : Nat) : Int) = 1 := by
  match xs, h1 with
  | [a], _ => simp; omega
theorem encZ_one : encZ 1 = ⟨false, [1]⟩ := by
  show (⟨decide ((1 : Int) < 0), toL 1⟩ : RawI) = _
  rw [toL_1]; rfl
theorem r03_one (s : SA) (xs : List Nat) : Spec Tryz.prog 75 #[sl s xs.length] [fU s xs] (ι := Unit) (fun y => .bool (decide (xs = [1]))) (fun y => True) (fun y => []) := by
 refine Spec.of_body _ (fn := Tryz.f75) k_ rfl k_ (fun X w0 => ?_)
 refine J.fact (φ := xs.length ≤ 140737488355328) (fun w h => by have := (h _ (.head _)).1; omega) (fun hl1 => ?_)
 refine J.sreg ?_
 refine RN.bq (no 1) [0] [] 1 [(0, sl s xs.length)] k_ ?_
 refine RN.fs k_ ?_
 refine RN.bq (no 4) [0, 6] [] 4 [(0, sl s xs.length), (6, .bool ((((xs.length : Nat) : Int) : Int) == 1))] k_ ?_
 refine RN.split 6 ((((xs.length : Nat) : Int) : Int) == 1) k_ (fun c2 => ?_) (fun c2 => ?_)
 ·replace c2 := eq_of_beq c2
  refine RN.bq (no 1) [6, 7] [] 5 [(6, .bool true), (7, sl s xs.length)] k_ ?_
  refine RN.val _ k_ k_ (q_uidx (t := 36) (x := (.tmp 7)) (ix := (.const (.int .i64 0))) (K := .i64) (i0 := 0) (m := 0) (e := 107) 0 rfl k_ k_ k_ k_ k_ (by omega) x_) ?_
  refine RN.val _ k_ k_ (q_uload (T := 107) (x := (.tmp 8)) (m := 0) (s := s) (xs := xs) 0 rfl k_ k_ k_ x_) ?_
  refine RN.bq (no 3) [2] [] 10 [(2, .bool ((((xs.getD 0 0 : Nat) : Int) : Int) == 1))] k_ ?_
  refine RN.fin k_ ?_
  have e_1 : (decide (xs = [1])) = ((((xs.getD 0 0 : Nat) : Int) : Int) == 1) := by first | (have h1 : xs.length = 1 := (by omega)); (rw [Bool.eq_iff_iff]; simp [one_val h1]) | (exact decide_eq_false (fun h => by subst h; simp at *))
  refine J.ret (KR.ret (v := .bool ((((xs.getD 0 0 : Nat) : Int) : Int) == 1)) (()) [none] [] [] k_ v1_ (trivial) v1_)
 ·replace c2 := ne_of_beq_false c2
  refine RN.bq (no 6) [2] [] 10 [(2, .bool false)] k_ ?_
  refine RN.fin k_ ?_
  have e_1 : (decide (xs = [1])) = false := by first | (have h1 : xs.length = 1 := (by omega)); (rw [Bool.eq_iff_iff]; simp [one_val h1]) | (exact decide_eq_false (fun h => by subst h; simp at *))
  refine J.ret (KR.ret (v := .bool false) (()) [none] [] [] k_ v1_ (trivial) v1_)
theorem y_r03_Den {p : Prop} (h : p := by first | assumption | exact Lb_toL _ | omega | (simp; done) | first | exact Lb_toD _ | exact hl) : p := h
theorem r03_Den (p : RA) (q : Rat) (hq : Q 1099511627776 q) : Spec Tryz.prog 38 #[ratV p (encQ q)] [fRat p (encQ q)] (ι := SA) (fun y => intV y (encZ ((q.den : Nat) : Int))) (fun y => True) (fun y => [fU y (toL (q.den))]) := by
 refine Spec.of_body _ (fn := Tryz.f38) k_ rfl k_ (fun X w0 => ?_)
 refine J.fact (φ := (encQ q).mag.length ≤ 140737488355328 ∧ (encQ q).den.length ≤ 140737488355328) (fun w h => by have h1 := (h _ (.head _)).1.1; have h2 := (h _ (.head _)).2.1; omega) (fun hl1 => ?_)
 have hl := Nat.le_trans (toD_le q.den) hq.2
 refine J.sreg ?_
 refine RN.new (fun b => pt b) (.cells (ratC p (encQ q)) 40 (0, 0)) k_ k_ (fun w => by kernel_rfl) (fun b2 => ?_)
 refine RN.new (fun b => pt b) (.cells #[.bool false, sl saNil ([] : List Nat).length] 38 (0, 0)) k_ k_ (fun w => by kernel_rfl) (fun b3 => ?_)
 refine RN.fin k_ ?_
 refine J.seq ?_
 refine J.sreg ?_
 refine RN.bq [none, some 1, none, none] [1, 2, 6] [b2] 4 [(1, pt b2), (2, pt b3), (6, .bool (((((toD (q.den)).length : Nat) : Int) : Int) == 0))] k_ ?_
 refine RN.fin k_ ?_
 refine J.cond (((((toD (q.den)).length : Nat) : Int) : Int) == 0) k_ (fun c4 => ?_) (fun c4 => ?_)
 ·replace c4 := eq_of_beq c4
  refine J.sreg ?_
  refine RN.new (fun b => .slice (some ⟨b, 0, none⟩) 1 1) (.cells (encU ([1] : List Nat)) 107 (0, 0)) k_ k_ (fun w => by kernel_rfl) (fun b5 => ?_)
  refine RN.share 0 rfl rfl ?_
  refine RN.also (fU (⟨some ⟨b5, 0, none⟩, 1⟩ : SA) ([1] : List Nat)) (fun w h => fU_own (h _ (.head _)) x_ x_) ?_
  refine RN.turn 7 (v := .slice (some ⟨b5, 0, none⟩) 1 1) (v' := sl (⟨some ⟨b5, 0, none⟩, 1⟩ : SA) ([1] : List Nat).length) k_ (sl_eq x_) ?_
  refine RN.bs [none, some 0] [2] [b3, b3] 3 [(2, pt b3)] ([(b3, .cells #[.bool false, sl (⟨some ⟨b5, 0, none⟩, 1⟩ : SA) ([1] : List Nat).length] 38 (0, 0)), (b2, .cells (ratC p (encQ q)) 40 (0, 0))]) k_ ?_
  refine RN.fin k_ ?_
  have e_1 : (encZ ((q.den : Nat) : Int)) = (⟨false, ([1] : List Nat)⟩ : RawI) := by first | (rw [(toD_len q.den_nz).1 (by omega), show ((1 : Nat) : Int) = 1 from rfl]; exact encZ_one) | exact (toD_len q.den_nz).1 (by omega)
  have e_2 : (toL (q.den)) = ([1] : List Nat) := congrArg RawI.mag e_1
  refine J.ret (KR.next (KR.ret (v := intV (⟨some ⟨b5, 0, none⟩, 1⟩ : SA) (⟨false, ([1] : List Nat)⟩ : RawI)) ((⟨some ⟨b5, 0, none⟩, 1⟩ : SA)) [some 0] [0] [b3, b3] k_ (by first | rfl | (rw [e_1]; done) | (simp only [e_1]; done) | (rw [e_2]; done) | (rw [e_1, e_2]; rfl) | (simp only [e_1, e_2]; done) | (simp only [e_1, e_2]; rfl)) (trivial) (by first | rfl | (rw [e_1]; done) | (simp only [e_1]; done) | (rw [e_2]; done) | (rw [e_1, e_2]; rfl) | (simp only [e_1, e_2]; done) | (simp only [e_1, e_2]; rfl))))
 ·replace c4 := ne_of_beq_false c4
  refine J.skip ?_
  refine KN.next ?_
  refine J.sreg ?_
  refine RN.bq [none, some 1] [2, 10] [b2] 2 [(2, pt b3), (10, sl (p.den) (toD (q.den)).length)] k_ ?_
  refine RN.also (fU (p.den) (toD (q.den))) (fun w h => (h _ (.head _)).2) ?_
  refine RN.call (r01_Take (p.den) (toD (q.den)) y_r03_Den y_r03_Den) [0] k_ k_ k_ rfl (fun y6 _ => ?_)
  refine RN.bs [none, some 0] [2] [b3, b3] 5 [(2, pt b3)] ([(b3, .cells #[.bool false, sl y6 (toL (nv (toD (q.den)))).length] 38 (0, 0)), (b2, .cells (ratC p (encQ q)) 40 (0, 0))]) k_ ?_
  refine RN.fin k_ ?_
  have e_1 : (q.den) = (nv (toD (q.den))) := by rw [toD_ne (fun h => by have := (toD_len q.den_nz).2 h; omega), nv_toL]
  refine J.ret (KR.ret (v := intV y6 (encZ ((nv (toD (q.den)) : Nat) : Int))) (y6) [some 0] [0] [b3, b3] k_ v1_ (trivial) v1_)
theorem validQ_parts {r : Raw} (h : validQ r = true) : validZ ⟨r.neg, r.mag⟩ = true ∧ validU r.den = true := by
  unfold validQ at h; simp only [Bool.and_eq_true] at h; exact h.1
theorem encQ_take {r : Raw} (h1 : Lb r.mag) (h2 : Lb r.den) (h : validQ r = true) : encQ (qv r) = ⟨decide (zv ⟨r.neg, r.mag⟩ < 0), toL (zv ⟨r.neg, r.mag⟩).natAbs, toL (nv r.den)⟩ := by
  obtain ⟨hz, hd⟩ := validQ_parts h
  have e := encZ_zv (z := ⟨r.neg, r.mag⟩) h1 hz
  have e1 : decide (zv ⟨r.neg, r.mag⟩ < 0) = r.neg := congrArg RawI.neg e
  have e2 : toL (zv ⟨r.neg, r.mag⟩).natAbs = r.mag := congrArg RawI.mag e
  rw [encQ_qv h1 h2 h, e1, e2, nv_of_valid hd, toL_lv h2 hd]
theorem r03_Valid (p : RA) (r : Raw) (hm : Lb r.mag) (hd : Lb r.den) (hml : r.mag.length ≤ 274877906942) (hdl : r.den.length ≤ 274877906942) : Spec Tryz.prog 69 #[ratV p r] [fRat p r] (ι := Unit) (fun y => .bool (validQ r)) (fun y => True) (fun y => []) := by
 refine Spec.of_body _ (fn := Tryz.f69) k_ rfl k_ (fun X w0 => ?_)
 refine J.fact (φ := r.mag.length ≤ 140737488355328 ∧ r.den.length ≤ 140737488355328) (fun w h => by have h1 := (h _ (.head _)).1.1; have h2 := (h _ (.head _)).2.1; omega) (fun hl1 => ?_)
 refine J.sreg ?_
 refine RN.new (fun b => pt b) (.cells (ratC p r) 40 (0, 0)) k_ k_ (fun w => by kernel_rfl) (fun b2 => ?_)
 refine RN.bq (no 1) [1] [] 2 [(1, pt b2)] k_ ?_
 refine RN.fin k_ ?_
 refine J.seq ?_
 refine J.sreg ?_
 refine RN.bq [none, some 0] [1, 4] [b2, b2] 2 [(1, pt b2), (4, intV p.mag (⟨r.neg, r.mag⟩ : RawI))] k_ ?_
 refine RN.also (fU p.mag r.mag) (fun w h => (h _ (.head _)).1) ?_
 refine RN.call (r02_Valid p.mag ⟨r.neg, r.mag⟩) [0] k_ k_ k_ rfl (fun y3 _ => ?_)
 refine RN.bq (no 2) [1, 7] [] 5 [(1, pt b2), (7, .bool (!(validZ (⟨r.neg, r.mag⟩ : RawI))))] k_ ?_
 refine RN.split 7 (!(validZ (⟨r.neg, r.mag⟩ : RawI))) k_ (fun c4 => ?_) (fun c4 => ?_)
 ·refine RN.bq (no 10) [1, 17] [] 15 [(1, pt b2), (17, .bool true)] k_ ?_
  refine RN.fin k_ ?_
  refine J.condT k_ ?_
  refine J.sreg ?_
  refine RN.bq (no 1) [2] [] 1 [(2, .bool false)] k_ ?_
  refine RN.fin k_ ?_
  have e_1 : (validQ r) = false := by first | (simp_all [validQ, toL_eq1, nv_of_valid, lv]; done) | ((have hv := validZ_mag (z := ⟨r.neg, r.mag⟩) (by simpa using c4)); (have hd1 : lv r.den = 1 → r.den = [1] := (fun h => (by rw [← toL_lv hd (by simpa using c6), h, toL_1]))); simp_all [validQ, toL_eq1, nv_of_valid, lv]; intro _ h; simp [h] at c10)
  refine J.ret (KR.next (KR.ret (v := .bool false) (()) [none] [] [] k_ v1_ (trivial) v1_))
 ·refine RN.bq [none, some 0] [1, 7, 9] [b2] 7 [(1, pt b2), (7, .bool false), (9, sl (p.den) (r.den).length)] k_ ?_
  refine RN.also (fU (p.den) (r.den)) (fun w h => (h _ (.tail _ ((.head _)))).2) ?_
  refine RN.call (r01_Valid (p.den) (r.den)) [0] k_ k_ k_ rfl (fun y5 _ => ?_)
  refine RN.bq (no 3) [1, 13] [] 11 [(1, pt b2), (13, .bool (!(validU (r.den))))] k_ ?_
  refine RN.split 13 (!(validU (r.den))) k_ (fun c6 => ?_) (fun c6 => ?_)
  ·refine RN.bq (no 4) [1, 17] [] 15 [(1, pt b2), (17, .bool true)] k_ ?_
   refine RN.fin k_ ?_
   refine J.condT k_ ?_
   refine J.sreg ?_
   refine RN.bq (no 1) [2] [] 1 [(2, .bool false)] k_ ?_
   refine RN.fin k_ ?_
   have e_1 : (validQ r) = false := by first | (simp_all [validQ, toL_eq1, nv_of_valid, lv]; done) | ((have hv := validZ_mag (z := ⟨r.neg, r.mag⟩) (by simpa using c4)); (have hd1 : lv r.den = 1 → r.den = [1] := (fun h => (by rw [← toL_lv hd (by simpa using c6), h, toL_1]))); simp_all [validQ, toL_eq1, nv_of_valid, lv]; intro _ h; simp [h] at c10)
   refine J.ret (KR.next (KR.ret (v := .bool false) (()) [none] [] [] k_ v1_ (trivial) v1_))
  ·refine RN.bq [none, some 0] [1, 13, 15] [b2] 13 [(1, pt b2), (13, .bool false), (15, sl (p.den) (r.den).length)] k_ ?_
   refine RN.call (r03_one (p.den) (r.den)) [0] k_ k_ k_ rfl (fun y7 _ => ?_)
   refine RN.bq (no 1) [1, 17] [] 15 [(1, pt b2), (17, .bool (decide ((r.den) = [1])))] k_ ?_
   refine RN.fin k_ ?_
   refine J.cond (decide ((r.den) = [1])) k_ (fun c8 => ?_) (fun c8 => ?_)
   ·replace c8 := of_decide_eq_true c8
    refine J.sreg ?_
    refine RN.bq (no 1) [2] [] 1 [(2, .bool false)] k_ ?_
    refine RN.fin k_ ?_
    have e_1 : (validQ r) = false := by first | (simp_all [validQ, toL_eq1, nv_of_valid, lv]; done) | ((have hv := validZ_mag (z := ⟨r.neg, r.mag⟩) (by simpa using c4)); (have hd1 : lv r.den = 1 → r.den = [1] := (fun h => (by rw [← toL_lv hd (by simpa using c6), h, toL_1]))); simp_all [validQ, toL_eq1, nv_of_valid, lv]; intro _ h; simp [h] at c10)
    refine J.ret (KR.next (KR.ret (v := .bool false) (()) [none] [] [] k_ v1_ (trivial) v1_))
   ·replace c8 := of_decide_eq_false c8
    refine J.skip ?_
    refine KN.next ?_
    refine J.sreg ?_
    refine RN.bq [none, some 0, none, none, none] [1, 22] [b2] 5 [(1, pt b2), (22, .bool (((((r.den).length : Nat) : Int) : Int) == 0))] k_ ?_
    refine RN.split 22 (((((r.den).length : Nat) : Int) : Int) == 0) k_ (fun c9 => ?_) (fun c9 => ?_)
    ·replace c9 := eq_of_beq c9
     refine RN.bq (no 16) [2] [] 21 [(2, .bool true)] k_ ?_
     refine RN.fin k_ ?_
     have e_1 : (validQ r) = true := by first | (simp_all [validQ, toL_eq1, nv_of_valid, lv]; done) | ((have hv := validZ_mag (z := ⟨r.neg, r.mag⟩) (by simpa using c4)); (have hd1 : lv r.den = 1 → r.den = [1] := (fun h => (by rw [← toL_lv hd (by simpa using c6), h, toL_1]))); simp_all [validQ, toL_eq1, nv_of_valid, lv]; intro _ h; simp [h] at c10)
     refine J.ret (KR.ret (v := .bool true) (()) [none] [] [] k_ v1_ (trivial) v1_)
    ·replace c9 := ne_of_beq_false c9
     refine RN.bq [none, none, some 0, none, none, none] [1, 22, 28] [b2] 11 [(1, pt b2), (22, .bool false), (28, .bool (decide (((r.mag.length : Nat) : Int) > 0)))] k_ ?_
     refine RN.split 28 (decide (((r.mag.length : Nat) : Int) > 0)) k_ (fun c10 => ?_) (fun c10 => ?_)
     ·replace c10 := of_decide_eq_true c10
      refine RN.bq [none, none, some 0, none, some 0] [22, 28, 31, 33] [b2, b2] 16 [(22, .bool false), (28, .bool true), (31, sl p.mag r.mag.length), (33, sl (p.den) (r.den).length)] k_ ?_
      refine RN.call (r01_Gcd p.mag r.mag (p.den) (r.den) y_ y_ y_ y_) [1, 0] k_ k_ k_ rfl (fun y11 _ => ?_)
      refine RN.call (r03_one y11 (toL (Nat.gcd (nv r.mag) (nv (r.den))))) [0] k_ k_ k_ rfl (fun y12 _ => ?_)
      refine RN.bq (no 3) [2] [] 21 [(2, .bool (decide ((toL (Nat.gcd (nv r.mag) (nv (r.den)))) = [1])))] k_ ?_
      refine RN.fin k_ ?_
      have e_1 : (validQ r) = (decide ((toL (Nat.gcd (nv r.mag) (nv (r.den)))) = [1])) := by first | (simp_all [validQ, toL_eq1, nv_of_valid, lv]; done) | ((have hv := validZ_mag (z := ⟨r.neg, r.mag⟩) (by simpa using c4)); (have hd1 : lv r.den = 1 → r.den = [1] := (fun h => (by rw [← toL_lv hd (by simpa using c6), h, toL_1]))); simp_all [validQ, toL_eq1, nv_of_valid, lv]; intro _ h; simp [h] at c10)
      refine J.ret (KR.ret (v := .bool (decide ((toL (Nat.gcd (nv r.mag) (nv (r.den)))) = [1]))) (()) [none] [] [] k_ v1_ (trivial) v1_)
     ·replace c10 := of_decide_eq_false c10
      refine RN.bq (no 10) [2] [] 21 [(2, .bool false)] k_ ?_
      refine RN.fin k_ ?_
      have e_1 : (validQ r) = false := by first | (simp_all [validQ, toL_eq1, nv_of_valid, lv]; done) | ((have hv := validZ_mag (z := ⟨r.neg, r.mag⟩) (by simpa using c4)); (have hd1 : lv r.den = 1 → r.den = [1] := (fun h => (by rw [← toL_lv hd (by simpa using c6), h, toL_1]))); simp_all [validQ, toL_eq1, nv_of_valid, lv]; intro _ h; simp [h] at c10)
      refine J.ret (KR.ret (v := .bool false) (()) [none] [] [] k_ v1_ (trivial) v1_)
theorem r03_Take (p : RA) (r : Raw) (hr : RQ 268435456 r) : Spec Tryz.prog 34 #[ratV p r] [fRat p r] (ι := RA) (fun y => ratV y (encQ (qv r))) (fun y => True) (fun y => [fRat y (encQ (qv r))]) := by
 refine Spec.of_body _ (fn := Tryz.f34) k_ rfl k_ (fun X w0 => ?_)
 refine J.fact (φ := r.mag.length ≤ 140737488355328 ∧ r.den.length ≤ 140737488355328) (fun w h => by have h1 := (h _ (.head _)).1.1; have h2 := (h _ (.head _)).2.1; omega) (fun hl1 => ?_)
 obtain ⟨hm, hd, hml, hdl, hq⟩ := hr
 refine J.sreg ?_
 refine RN.new (fun b => pt b) (.cells (ratC p r) 40 (0, 0)) k_ k_ (fun w => by kernel_rfl) (fun b2 => ?_)
 refine RN.new (fun b => pt b) (.cells (ratC (⟨saNil, saNil⟩ : RA) (⟨false, ([] : List Nat), ([] : List Nat)⟩ : Raw)) 40 (0, 0)) k_ k_ (fun w => by kernel_rfl) (fun b3 => ?_)
 refine RN.fin k_ ?_
 refine J.seq ?_
 refine J.sreg ?_
 refine RN.bq [some 1] [1, 2, 3] [b2, b2, b2] 1 [(1, pt b2), (2, pt b3), (3, ratV p r)] k_ ?_
 refine RN.call (r03_Valid p r y_ y_ y_ y_) [0] k_ k_ k_ rfl (fun y4 _ => ?_)
 refine RN.bq (no 1) [1, 2, 5] [] 3 [(1, pt b2), (2, pt b3), (5, .bool (!(validQ r)))] k_ ?_
 refine RN.fin k_ ?_
 refine J.cond (!(validQ r)) k_ (fun c5 => ?_) (fun c5 => ?_)
 ·refine J.sreg ?_
  refine RN.bs [none, some 0] [2] [b3, b3, b3] 2 [(2, pt b3)] ([(b3, .cells (ratC (⟨saNil, saNil⟩ : RA) (⟨false, ([] : List Nat), ([] : List Nat)⟩ : Raw)) 40 (0, 0)), (b2, .cells (ratC p r) 40 (0, 0))]) k_ ?_
  refine RN.fin k_ ?_
  have e_1 : (encQ (qv r)) = (⟨false, ([] : List Nat), ([] : List Nat)⟩ : Raw) := by exact encQ_qv_f (by simpa using ‹(!validQ r) = true›)
  have e_2 : (toL (((qv r).num).natAbs)) = ([] : List Nat) := congrArg Raw.mag e_1
  have e_3 : (toD ((qv r).den)) = ([] : List Nat) := congrArg Raw.den e_1
  refine J.also (fRat (⟨saNil, saNil⟩ : RA) (⟨false, ([] : List Nat), ([] : List Nat)⟩ : Raw)) (fun w h => ⟨fU_nil w, fU_nil w⟩) ?_
  refine J.ret (KR.next (KR.ret (v := ratV (⟨saNil, saNil⟩ : RA) (⟨false, ([] : List Nat), ([] : List Nat)⟩ : Raw)) (⟨saNil, saNil⟩) [some 0] [0] [b3, b3, b3] k_ (by first | rfl | (rw [e_1]; done) | (simp only [e_1]; done) | (rw [e_2, e_3]; done) | (rw [e_1, e_2, e_3]; rfl) | (simp only [e_1, e_2, e_3]; done) | (simp only [e_1, e_2, e_3]; rfl)) (trivial) (by first | rfl | (rw [e_1]; done) | (simp only [e_1]; done) | (rw [e_2, e_3]; done) | (rw [e_1, e_2, e_3]; rfl) | (simp only [e_1, e_2, e_3]; done) | (simp only [e_1, e_2, e_3]; rfl))))
 ·refine J.skip ?_
  refine KN.next ?_
  refine J.seq ?_
  refine J.regD k_ [7] ?_
  refine RD.bq [(0, none), (1, some 1), (3, none), (4, some 1)] [2, 8, 11] [b2, b2, b2] [(2, pt b3), (8, intV p.mag (⟨r.neg, r.mag⟩ : RawI)), (11, sl (p.den) (r.den).length)] k_ k_ ?_
  refine RD.also (fU p.mag r.mag) (fun w h => (h _ (.head _)).1) k_ ?_
  refine RD.call (i := 2) (r02_Take p.mag ⟨r.neg, r.mag⟩ y_ y_) [0] k_ k_ k_ k_ k_ rfl (fun y6 _ => ?_)
  refine RD.also (fU (p.den) (r.den)) (fun w h => (h _ (.tail _ ((.tail _ ((.head _)))))).2) k_ ?_
  refine RD.call (i := 5) (r01_Take (p.den) (r.den) y_ y_) [0] k_ k_ k_ k_ k_ rfl (fun y7 _ => ?_)
  refine RD.bq (nl [6]) [2, 13] [] [(2, pt b3), (13, ratV (⟨y6, y7⟩ : RA) (⟨decide ((zv (⟨r.neg, r.mag⟩ : RawI)) < 0), toL ((zv (⟨r.neg, r.mag⟩ : RawI)).natAbs), toL (nv (r.den))⟩ : Raw))] k_ k_ ?_
  refine RD.last (i := 7) (some 0) [2] [b3, b3, b3] k_ k_ k_ (l' := [(2, pt b3)]) (M' := [(b3, .cells (ratC (⟨y6, y7⟩ : RA) (⟨decide ((zv (⟨r.neg, r.mag⟩ : RawI)) < 0), toL ((zv (⟨r.neg, r.mag⟩ : RawI)).natAbs), toL (nv (r.den))⟩ : Raw)) 40 (0, 0)), (b2, .cells (ratC p r) 40 (0, 0))]) k_ ?_
  refine RD.done k_ ?_
  refine KN.next ?_
  have e_1 : (encQ (qv r)) = (⟨decide ((zv (⟨r.neg, r.mag⟩ : RawI)) < 0), toL ((zv (⟨r.neg, r.mag⟩ : RawI)).natAbs), toL (nv (r.den))⟩ : Raw) := by exact encQ_take hm hd (by simpa using ‹(!validQ r) = false›)
  have e_2 : (toL (((qv r).num).natAbs)) = (toL ((zv (⟨r.neg, r.mag⟩ : RawI)).natAbs)) := congrArg Raw.mag e_1
  have e_3 : (toD ((qv r).den)) = (toL (nv (r.den))) := congrArg Raw.den e_1
  refine J.also (fRat (⟨y6, y7⟩ : RA) (⟨decide ((zv (⟨r.neg, r.mag⟩ : RawI)) < 0), toL ((zv (⟨r.neg, r.mag⟩ : RawI)).natAbs), toL (nv (r.den))⟩ : Raw)) (fun w h => ⟨(h _ (.tail _ ((.tail _ ((.head _)))))), (h _ (.head _))⟩) ?_
  refine J.ret (KR.ret (v := ratV (⟨y6, y7⟩ : RA) (⟨decide ((zv (⟨r.neg, r.mag⟩ : RawI)) < 0), toL ((zv (⟨r.neg, r.mag⟩ : RawI)).natAbs), toL (nv (r.den))⟩ : Raw)) (⟨y6, y7⟩) [some 0] [0] [b3, b3, b3] k_ (by first | rfl | (rw [e_1]; done) | (simp only [e_1]; done) | (rw [e_2, e_3]; done) | (rw [e_1, e_2, e_3]; rfl) | (simp only [e_1, e_2, e_3]; done) | (simp only [e_1, e_2, e_3]; rfl)) (trivial) (by first | rfl | (rw [e_1]; done) | (simp only [e_1]; done) | (rw [e_2, e_3]; done) | (rw [e_1, e_2, e_3]; rfl) | (simp only [e_1, e_2, e_3]; done) | (simp only [e_1, e_2, e_3]; rfl)))
theorem neg_div {n d : Int} (h : d < 0) : (n : Rat) / (d : Rat) = ((-n : Int) : Rat) / ((-d : Int) : Rat) := by
  rw [← mk_neg h, ← mk_pos (by omega : 0 < -d), Int.natAbs_neg]
theorem over_pos {n d : Int} (hd : 0 < d) : encQ ((n : Rat) / (d : Rat)) = ⟨decide (n / ((Nat.gcd n.natAbs d.natAbs : Nat) : Int) < 0), toL (n / ((Nat.gcd n.natAbs d.natAbs : Nat) : Int)).natAbs, toD (d / ((Nat.gcd n.natAbs d.natAbs : Nat) : Int)).natAbs⟩ := by
  have h0 : d.natAbs ≠ 0 := by omega
  have hg : 0 < Nat.gcd n.natAbs d.natAbs := Nat.gcd_pos_of_pos_right _ (Nat.pos_of_ne_zero h0)
  obtain ⟨e1, e2⟩ := low_num (n := n) h0
  rw [← mk_pos hd]
  show (⟨decide ((mkRat n d.natAbs).num < 0), toL (mkRat n d.natAbs).num.natAbs, toD (mkRat n d.natAbs).den⟩ : Raw) = _
  rw [e1, e2]
  have e3 : (d / ((Nat.gcd n.natAbs d.natAbs : Nat) : Int)).natAbs = d.natAbs / Nat.gcd n.natAbs d.natAbs := by
    have hdv : ((Nat.gcd n.natAbs d.natAbs : Nat) : Int) ∣ d := Int.ofNat_dvd_left.2 (Nat.gcd_dvd_right _ _)
    rw [Int.natAbs_ediv_of_dvd hdv]; rfl
  rw [e3]
theorem y_r03_over {p : Prop} (h : p := by first | assumption | exact Lb_toL _ | omega | (simp; done) | first | (simp; omega) | (simp; done)) : p := h
theorem r03_over (s : SA) (n : Int) (t : SA) (d : Int) (hd : d ≠ 0) (hln : (toL (n.natAbs)).length ≤ 137438953472) (hld : (toL (d.natAbs)).length ≤ 137438953472) : Spec Tryz.prog 35 #[intV s (encZ n), intV t (encZ d)] [fU s (toL (n.natAbs)), fU t (toL (d.natAbs))] (ι := RA) (fun y => ratV y (encQ (((n : Int) : Rat) / ((d : Int) : Rat)))) (fun y => True) (fun y => [fRat y (encQ (((n : Int) : Rat) / ((d : Int) : Rat)))]) := by
 refine Spec.of_body _ (fn := Tryz.f35) k_ rfl k_ (fun X w0 => ?_)
 refine J.fact (φ := (toL (n.natAbs)).length ≤ 140737488355328) (fun w h => by have := (h _ (.head _)).1; omega) (fun hl1 => ?_)
 refine J.fact (φ := (toL (d.natAbs)).length ≤ 140737488355328) (fun w h => by have := (h _ (.tail _ ((.head _)))).1; omega) (fun hl2 => ?_)
 have hgl := length_toL_mono (Nat.gcd_le_right n.natAbs (show 0 < d.natAbs by omega))
 refine J.sreg ?_
 refine RN.new (fun b => pt b) (.cells #[.bool (decide (n < 0)), sl s (toL (n.natAbs)).length] 38 (0, 0)) k_ k_ (fun w => by kernel_rfl) (fun b3 => ?_)
 refine RN.new (fun b => pt b) (.cells #[.bool (decide (d < 0)), sl t (toL (d.natAbs)).length] 38 (0, 0)) k_ k_ (fun w => by kernel_rfl) (fun b4 => ?_)
 refine RN.new (fun b => pt b) (.cells (ratC (⟨saNil, saNil⟩ : RA) (⟨false, ([] : List Nat), ([] : List Nat)⟩ : Raw)) 40 (0, 0)) k_ k_ (fun w => by kernel_rfl) (fun b5 => ?_)
 refine RN.fin k_ ?_
 refine J.seq ?_
 refine J.sreg ?_
 refine RN.bq [some 1] [2, 3, 4, 12] [b4, b4] 1 [(2, pt b3), (3, pt b4), (4, pt b5), (12, intV t (encZ d))] k_ ?_
 refine RN.call (r02_Sign_c t d y_r03_over) [1] k_ k_ k_ rfl (fun y6 _ => ?_)
 refine RN.bq (no 1) [2, 3, 4, 14] [] 3 [(2, pt b3), (3, pt b4), (4, pt b5), (14, .bool (decide ((Int.sign d) < 0)))] k_ ?_
 refine RN.fin k_ ?_
 refine J.cond (decide ((Int.sign d) < 0)) k_ (fun c7 => ?_) (fun c7 => ?_)
 ·replace c7 := of_decide_eq_true c7
  have hs := sign_lt0 c7
  refine J.regD k_ [4, 5] ?_
  refine RD.bq [(0, some 2), (2, some 1)] [2, 3, 4, 15, 17] [b4, b4, b3, b3] [(2, pt b3), (3, pt b4), (4, pt b5), (15, intV s (encZ n)), (17, intV t (encZ d))] k_ k_ ?_
  refine RD.call (i := 1) (r02_Neg_c s n y_r03_over) [0] k_ k_ k_ k_ k_ rfl (fun y8 _ => ?_)
  refine RD.call (i := 3) (r02_Neg_c t d y_r03_over) [2] k_ k_ k_ k_ k_ rfl (fun y9 _ => ?_)
  refine RD.last (i := 4) (some 2) [2, 3, 4, 18] [b3, b3] k_ k_ k_ (l' := [(2, pt b3), (3, pt b4), (4, pt b5), (18, intV y9 (encZ (-d)))]) (M' := [(b5, .cells (ratC (⟨saNil, saNil⟩ : RA) (⟨false, ([] : List Nat), ([] : List Nat)⟩ : Raw)) 40 (0, 0)), (b4, .cells #[.bool (decide (d < 0)), sl t (toL (d.natAbs)).length] 38 (0, 0)), (b3, .cells #[.bool (decide ((-n) < 0)), sl y8 (toL ((-n).natAbs)).length] 38 (0, 0))]) k_ ?_
  refine RD.last (i := 5) (some 1) [2, 3, 4] [b4, b4] k_ k_ k_ (l' := [(2, pt b3), (3, pt b4), (4, pt b5)]) (M' := [(b5, .cells (ratC (⟨saNil, saNil⟩ : RA) (⟨false, ([] : List Nat), ([] : List Nat)⟩ : Raw)) 40 (0, 0)), (b4, .cells #[.bool (decide ((-d) < 0)), sl y9 (toL ((-d).natAbs)).length] 38 (0, 0)), (b3, .cells #[.bool (decide ((-n) < 0)), sl y8 (toL ((-n).natAbs)).length] 38 (0, 0))]) k_ ?_
  refine RD.done k_ ?_
  refine KN.next ?_
  refine J.sreg ?_
  refine RN.bq [some 2, some 1] [2, 3, 4, 19, 20] [b4, b4, b3, b3] 2 [(2, pt b3), (3, pt b4), (4, pt b5), (19, intV y8 (encZ (-n))), (20, intV y9 (encZ (-d)))] k_ ?_
  refine RN.call (r02_Gcd_c y8 (-n) y9 (-d) y_r03_over y_r03_over) [1, 0] k_ k_ k_ rfl (fun y10 _ => ?_)
  refine RN.bq (no 1) [2, 3, 4, 22] [] 4 [(2, pt b3), (3, pt b4), (4, pt b5), (22, intV y10 (encZ ((Nat.gcd ((-n).natAbs) ((-d).natAbs) : Nat) : Int)))] k_ ?_
  refine RN.new (fun b => pt b) (.cells #[.bool false, sl saNil ([] : List Nat).length] 38 (0, 0)) k_ k_ (fun w => by kernel_rfl) (fun b11 => ?_)
  refine RN.bs [some 0] [2, 3, 4, 5] [b11, b11] 6 [(2, pt b3), (3, pt b4), (4, pt b5), (5, pt b11)] ([(b11, .cells #[.bool false, sl y10 (toL (Nat.gcd ((-n).natAbs) ((-d).natAbs))).length] 38 (0, 0)), (b5, .cells (ratC (⟨saNil, saNil⟩ : RA) (⟨false, ([] : List Nat), ([] : List Nat)⟩ : Raw)) 40 (0, 0)), (b4, .cells #[.bool (decide ((-d) < 0)), sl y9 (toL ((-d).natAbs)).length] 38 (0, 0)), (b3, .cells #[.bool (decide ((-n) < 0)), sl y8 (toL ((-n).natAbs)).length] 38 (0, 0))]) k_ ?_
  refine RN.fs k_ ?_
  refine RN.bq [some 3, some 0] [3, 4, 5, 24, 25] [b11, b11, b3, b3] 2 [(3, pt b4), (4, pt b5), (5, pt b11), (24, intV y8 (encZ (-n))), (25, intV y10 (encZ ((Nat.gcd ((-n).natAbs) ((-d).natAbs) : Nat) : Int)))] k_ ?_
  refine RN.call (r02_Div_c y8 (-n) y10 ((Nat.gcd ((-n).natAbs) ((-d).natAbs) : Nat) : Int) y_r03_over y_r03_over) [2, 0] k_ k_ k_ rfl (fun y12 _ => ?_)
  refine RN.bq (no 4) [3, 4, 5, 27, 28, 29] [] 7 [(3, pt b4), (4, pt b5), (5, pt b11), (27, intV y12.1 (encZ ((-n) / ((Nat.gcd ((-n).natAbs) ((-d).natAbs) : Nat) : Int)))), (28, intV y12.2 (encZ (if ((Nat.gcd ((-n).natAbs) ((-d).natAbs) : Nat) : Int) = 0 then 0 else (-n) % ((Nat.gcd ((-n).natAbs) ((-d).natAbs) : Nat) : Int)))), (29, .bool (decide (((Nat.gcd ((-n).natAbs) ((-d).natAbs) : Nat) : Int) ≠ 0)))] k_ ?_
  refine RN.new (fun b => pt b) (.cells #[.bool false, sl saNil ([] : List Nat).length] 38 (0, 0)) k_ k_ (fun w => by kernel_rfl) (fun b13 => ?_)
  refine RN.new (fun b => pt b) (.cells #[.bool false, sl saNil ([] : List Nat).length] 38 (0, 0)) k_ k_ (fun w => by kernel_rfl) (fun b14 => ?_)
  refine RN.bs [some 1, some 0, none] [3, 4, 5, 6] [b14, b14, b13, b13] 12 [(3, pt b4), (4, pt b5), (5, pt b11), (6, pt b13)] ([(b14, .cells #[.bool (decide ((if ((Nat.gcd ((-n).natAbs) ((-d).natAbs) : Nat) : Int) = 0 then 0 else (-n) % ((Nat.gcd ((-n).natAbs) ((-d).natAbs) : Nat) : Int)) < 0)), sl y12.2 (toL ((if ((Nat.gcd ((-n).natAbs) ((-d).natAbs) : Nat) : Int) = 0 then 0 else (-n) % ((Nat.gcd ((-n).natAbs) ((-d).natAbs) : Nat) : Int)).natAbs)).length] 38 (0, 0)), (b13, .cells #[.bool (decide (((-n) / ((Nat.gcd ((-n).natAbs) ((-d).natAbs) : Nat) : Int)) < 0)), sl y12.1 (toL (((-n) / ((Nat.gcd ((-n).natAbs) ((-d).natAbs) : Nat) : Int)).natAbs)).length] 38 (0, 0)), (b11, .cells #[.bool false, sl y10 (toL (Nat.gcd ((-n).natAbs) ((-d).natAbs))).length] 38 (0, 0)), (b5, .cells (ratC (⟨saNil, saNil⟩ : RA) (⟨false, ([] : List Nat), ([] : List Nat)⟩ : Raw)) 40 (0, 0)), (b4, .cells #[.bool (decide ((-d) < 0)), sl y9 (toL ((-d).natAbs)).length] 38 (0, 0)), (b3, .cells #[.bool (decide ((-n) < 0)), sl y8 (toL ((-n).natAbs)).length] 38 (0, 0))]) k_ ?_
  refine RN.fs k_ ?_
  refine RN.bq [some 4, some 2] [4, 6, 31, 32] [b11, b11, b4, b4] 2 [(4, pt b5), (6, pt b13), (31, intV y9 (encZ (-d))), (32, intV y10 (encZ ((Nat.gcd ((-n).natAbs) ((-d).natAbs) : Nat) : Int)))] k_ ?_
  refine RN.call (r02_Div_c y9 (-d) y10 ((Nat.gcd ((-n).natAbs) ((-d).natAbs) : Nat) : Int) y_r03_over y_r03_over) [3, 2] k_ k_ k_ rfl (fun y15 _ => ?_)
  refine RN.bq (no 4) [4, 6, 34, 35, 36] [] 7 [(4, pt b5), (6, pt b13), (34, intV y15.1 (encZ ((-d) / ((Nat.gcd ((-n).natAbs) ((-d).natAbs) : Nat) : Int)))), (35, intV y15.2 (encZ (if ((Nat.gcd ((-n).natAbs) ((-d).natAbs) : Nat) : Int) = 0 then 0 else (-d) % ((Nat.gcd ((-n).natAbs) ((-d).natAbs) : Nat) : Int)))), (36, .bool (decide (((Nat.gcd ((-n).natAbs) ((-d).natAbs) : Nat) : Int) ≠ 0)))] k_ ?_
  refine RN.new (fun b => pt b) (.cells #[.bool false, sl saNil ([] : List Nat).length] 38 (0, 0)) k_ k_ (fun w => by kernel_rfl) (fun b16 => ?_)
  refine RN.new (fun b => pt b) (.cells #[.bool false, sl saNil ([] : List Nat).length] 38 (0, 0)) k_ k_ (fun w => by kernel_rfl) (fun b17 => ?_)
  refine RN.bs [some 1, some 0, none] [4, 6, 9] [b17, b17, b16, b16] 12 [(4, pt b5), (6, pt b13), (9, pt b16)] ([(b17, .cells #[.bool (decide ((if ((Nat.gcd ((-n).natAbs) ((-d).natAbs) : Nat) : Int) = 0 then 0 else (-d) % ((Nat.gcd ((-n).natAbs) ((-d).natAbs) : Nat) : Int)) < 0)), sl y15.2 (toL ((if ((Nat.gcd ((-n).natAbs) ((-d).natAbs) : Nat) : Int) = 0 then 0 else (-d) % ((Nat.gcd ((-n).natAbs) ((-d).natAbs) : Nat) : Int)).natAbs)).length] 38 (0, 0)), (b16, .cells #[.bool (decide (((-d) / ((Nat.gcd ((-n).natAbs) ((-d).natAbs) : Nat) : Int)) < 0)), sl y15.1 (toL (((-d) / ((Nat.gcd ((-n).natAbs) ((-d).natAbs) : Nat) : Int)).natAbs)).length] 38 (0, 0)), (b14, .cells #[.bool (decide ((if ((Nat.gcd ((-n).natAbs) ((-d).natAbs) : Nat) : Int) = 0 then 0 else (-n) % ((Nat.gcd ((-n).natAbs) ((-d).natAbs) : Nat) : Int)) < 0)), sl y12.2 (toL ((if ((Nat.gcd ((-n).natAbs) ((-d).natAbs) : Nat) : Int) = 0 then 0 else (-n) % ((Nat.gcd ((-n).natAbs) ((-d).natAbs) : Nat) : Int)).natAbs)).length] 38 (0, 0)), (b13, .cells #[.bool (decide (((-n) / ((Nat.gcd ((-n).natAbs) ((-d).natAbs) : Nat) : Int)) < 0)), sl y12.1 (toL (((-n) / ((Nat.gcd ((-n).natAbs) ((-d).natAbs) : Nat) : Int)).natAbs)).length] 38 (0, 0)), (b11, .cells #[.bool false, sl y10 (toL (Nat.gcd ((-n).natAbs) ((-d).natAbs))).length] 38 (0, 0)), (b5, .cells (ratC (⟨saNil, saNil⟩ : RA) (⟨false, ([] : List Nat), ([] : List Nat)⟩ : Raw)) 40 (0, 0)), (b4, .cells #[.bool (decide ((-d) < 0)), sl y9 (toL ((-d).natAbs)).length] 38 (0, 0)), (b3, .cells #[.bool (decide ((-n) < 0)), sl y8 (toL ((-n).natAbs)).length] 38 (0, 0))]) k_ ?_
  refine RN.fin k_ ?_
  refine J.seq ?_
  refine J.sreg ?_
  refine RN.bq [none, some 1] [4, 6, 9, 38] [b16] 2 [(4, pt b5), (6, pt b13), (9, pt b16), (38, sl y15.1 (toL (((-d) / ((Nat.gcd ((-n).natAbs) ((-d).natAbs) : Nat) : Int)).natAbs)).length)] k_ ?_
  refine RN.call (r03_one y15.1 (toL (((-d) / ((Nat.gcd ((-n).natAbs) ((-d).natAbs) : Nat) : Int)).natAbs))) [0] k_ k_ k_ rfl (fun y18 _ => ?_)
  refine RN.fin k_ ?_
  refine J.cond (decide ((toL (((-d) / ((Nat.gcd ((-n).natAbs) ((-d).natAbs) : Nat) : Int)).natAbs)) = [1])) k_ (fun c19 => ?_) (fun c19 => ?_)
  ·replace c19 := of_decide_eq_true c19
   have ho := toL_eq1.1 c19
   refine J.regN ?_
   refine RN.bs [none, some 1] [4, 6, 9] [b16] 2 [(4, pt b5), (6, pt b13), (9, pt b16)] ([(b17, .cells #[.bool (decide ((if ((Nat.gcd ((-n).natAbs) ((-d).natAbs) : Nat) : Int) = 0 then 0 else (-d) % ((Nat.gcd ((-n).natAbs) ((-d).natAbs) : Nat) : Int)) < 0)), sl y15.2 (toL ((if ((Nat.gcd ((-n).natAbs) ((-d).natAbs) : Nat) : Int) = 0 then 0 else (-d) % ((Nat.gcd ((-n).natAbs) ((-d).natAbs) : Nat) : Int)).natAbs)).length] 38 (0, 0)), (b16, .cells #[.bool (decide (((-d) / ((Nat.gcd ((-n).natAbs) ((-d).natAbs) : Nat) : Int)) < 0)), sl saNil ([] : List Nat).length] 38 (0, 0)), (b14, .cells #[.bool (decide ((if ((Nat.gcd ((-n).natAbs) ((-d).natAbs) : Nat) : Int) = 0 then 0 else (-n) % ((Nat.gcd ((-n).natAbs) ((-d).natAbs) : Nat) : Int)) < 0)), sl y12.2 (toL ((if ((Nat.gcd ((-n).natAbs) ((-d).natAbs) : Nat) : Int) = 0 then 0 else (-n) % ((Nat.gcd ((-n).natAbs) ((-d).natAbs) : Nat) : Int)).natAbs)).length] 38 (0, 0)), (b13, .cells #[.bool (decide (((-n) / ((Nat.gcd ((-n).natAbs) ((-d).natAbs) : Nat) : Int)) < 0)), sl y12.1 (toL (((-n) / ((Nat.gcd ((-n).natAbs) ((-d).natAbs) : Nat) : Int)).natAbs)).length] 38 (0, 0)), (b11, .cells #[.bool false, sl y10 (toL (Nat.gcd ((-n).natAbs) ((-d).natAbs))).length] 38 (0, 0)), (b5, .cells (ratC (⟨saNil, saNil⟩ : RA) (⟨false, ([] : List Nat), ([] : List Nat)⟩ : Raw)) 40 (0, 0)), (b4, .cells #[.bool (decide ((-d) < 0)), sl y9 (toL ((-d).natAbs)).length] 38 (0, 0)), (b3, .cells #[.bool (decide ((-n) < 0)), sl y8 (toL ((-n).natAbs)).length] 38 (0, 0))]) k_ ?_
   refine RN.fs k_ ?_
   refine RN.bs [some 3, none, some 1, none, some 5] [4] [b5, b5, b5, b16, b13, b13] 5 [(4, pt b5)] ([(b17, .cells #[.bool (decide ((if ((Nat.gcd ((-n).natAbs) ((-d).natAbs) : Nat) : Int) = 0 then 0 else (-d) % ((Nat.gcd ((-n).natAbs) ((-d).natAbs) : Nat) : Int)) < 0)), sl y15.2 (toL ((if ((Nat.gcd ((-n).natAbs) ((-d).natAbs) : Nat) : Int) = 0 then 0 else (-d) % ((Nat.gcd ((-n).natAbs) ((-d).natAbs) : Nat) : Int)).natAbs)).length] 38 (0, 0)), (b16, .cells #[.bool (decide (((-d) / ((Nat.gcd ((-n).natAbs) ((-d).natAbs) : Nat) : Int)) < 0)), sl saNil ([] : List Nat).length] 38 (0, 0)), (b14, .cells #[.bool (decide ((if ((Nat.gcd ((-n).natAbs) ((-d).natAbs) : Nat) : Int) = 0 then 0 else (-n) % ((Nat.gcd ((-n).natAbs) ((-d).natAbs) : Nat) : Int)) < 0)), sl y12.2 (toL ((if ((Nat.gcd ((-n).natAbs) ((-d).natAbs) : Nat) : Int) = 0 then 0 else (-n) % ((Nat.gcd ((-n).natAbs) ((-d).natAbs) : Nat) : Int)).natAbs)).length] 38 (0, 0)), (b13, .cells #[.bool (decide (((-n) / ((Nat.gcd ((-n).natAbs) ((-d).natAbs) : Nat) : Int)) < 0)), sl y12.1 (toL (((-n) / ((Nat.gcd ((-n).natAbs) ((-d).natAbs) : Nat) : Int)).natAbs)).length] 38 (0, 0)), (b11, .cells #[.bool false, sl y10 (toL (Nat.gcd ((-n).natAbs) ((-d).natAbs))).length] 38 (0, 0)), (b5, .cells (ratC (⟨y12.1, saNil⟩ : RA) (⟨decide (((-n) / ((Nat.gcd ((-n).natAbs) ((-d).natAbs) : Nat) : Int)) < 0), toL (((-n) / ((Nat.gcd ((-n).natAbs) ((-d).natAbs) : Nat) : Int)).natAbs), ([] : List Nat)⟩ : Raw)) 40 (0, 0)), (b4, .cells #[.bool (decide ((-d) < 0)), sl y9 (toL ((-d).natAbs)).length] 38 (0, 0)), (b3, .cells #[.bool (decide ((-n) < 0)), sl y8 (toL ((-n).natAbs)).length] 38 (0, 0))]) k_ ?_
   refine RN.fin k_ ?_
   have e_1 : (encQ (((n : Int) : Rat) / ((d : Int) : Rat))) = (⟨decide (((-n) / ((Nat.gcd ((-n).natAbs) ((-d).natAbs) : Nat) : Int)) < 0), toL (((-n) / ((Nat.gcd ((-n).natAbs) ((-d).natAbs) : Nat) : Int)).natAbs), ([] : List Nat)⟩ : Raw) := by rw [neg_div hs, over_pos (by omega), ho, toD_one]
   have e_2 : (toL (((((n : Int) : Rat) / ((d : Int) : Rat)).num).natAbs)) = (toL (((-n) / ((Nat.gcd ((-n).natAbs) ((-d).natAbs) : Nat) : Int)).natAbs)) := congrArg Raw.mag e_1
   have e_3 : (toD ((((n : Int) : Rat) / ((d : Int) : Rat)).den)) = ([] : List Nat) := congrArg Raw.den e_1
   refine J.also (fRat (⟨y12.1, saNil⟩ : RA) (⟨decide (((-n) / ((Nat.gcd ((-n).natAbs) ((-d).natAbs) : Nat) : Int)) < 0), toL (((-n) / ((Nat.gcd ((-n).natAbs) ((-d).natAbs) : Nat) : Int)).natAbs), ([] : List Nat)⟩ : Raw)) (fun w h => ⟨(h _ (.tail _ ((.tail _ ((.head _)))))), fU_nil w⟩) ?_
   refine J.ret (KR.ret (v := ratV (⟨y12.1, saNil⟩ : RA) (⟨decide (((-n) / ((Nat.gcd ((-n).natAbs) ((-d).natAbs) : Nat) : Int)) < 0), toL (((-n) / ((Nat.gcd ((-n).natAbs) ((-d).natAbs) : Nat) : Int)).natAbs), ([] : List Nat)⟩ : Raw)) (⟨y12.1, saNil⟩) [some 5] [0] [b5, b5, b5] k_ (by first | rfl | (rw [e_1]; done) | (simp only [e_1]; done) | (rw [e_2, e_3]; done) | (rw [e_1, e_2, e_3]; rfl) | (simp only [e_1, e_2, e_3]; done) | (simp only [e_1, e_2, e_3]; rfl)) (trivial) (by first | rfl | (rw [e_1]; done) | (simp only [e_1]; done) | (rw [e_2, e_3]; done) | (rw [e_1, e_2, e_3]; rfl) | (simp only [e_1, e_2, e_3]; done) | (simp only [e_1, e_2, e_3]; rfl)))
  ·replace c19 := of_decide_eq_false c19
   have ho := mt toL_eq1.2 c19
   refine J.skip ?_
   refine KN.next ?_
   refine J.sreg ?_
   refine RN.bs [some 3, none, some 1, none, some 5] [4] [b5, b5, b5, b16, b13, b13] 5 [(4, pt b5)] ([(b17, .cells #[.bool (decide ((if ((Nat.gcd ((-n).natAbs) ((-d).natAbs) : Nat) : Int) = 0 then 0 else (-d) % ((Nat.gcd ((-n).natAbs) ((-d).natAbs) : Nat) : Int)) < 0)), sl y15.2 (toL ((if ((Nat.gcd ((-n).natAbs) ((-d).natAbs) : Nat) : Int) = 0 then 0 else (-d) % ((Nat.gcd ((-n).natAbs) ((-d).natAbs) : Nat) : Int)).natAbs)).length] 38 (0, 0)), (b16, .cells #[.bool (decide (((-d) / ((Nat.gcd ((-n).natAbs) ((-d).natAbs) : Nat) : Int)) < 0)), sl y15.1 (toL (((-d) / ((Nat.gcd ((-n).natAbs) ((-d).natAbs) : Nat) : Int)).natAbs)).length] 38 (0, 0)), (b14, .cells #[.bool (decide ((if ((Nat.gcd ((-n).natAbs) ((-d).natAbs) : Nat) : Int) = 0 then 0 else (-n) % ((Nat.gcd ((-n).natAbs) ((-d).natAbs) : Nat) : Int)) < 0)), sl y12.2 (toL ((if ((Nat.gcd ((-n).natAbs) ((-d).natAbs) : Nat) : Int) = 0 then 0 else (-n) % ((Nat.gcd ((-n).natAbs) ((-d).natAbs) : Nat) : Int)).natAbs)).length] 38 (0, 0)), (b13, .cells #[.bool (decide (((-n) / ((Nat.gcd ((-n).natAbs) ((-d).natAbs) : Nat) : Int)) < 0)), sl y12.1 (toL (((-n) / ((Nat.gcd ((-n).natAbs) ((-d).natAbs) : Nat) : Int)).natAbs)).length] 38 (0, 0)), (b11, .cells #[.bool false, sl y10 (toL (Nat.gcd ((-n).natAbs) ((-d).natAbs))).length] 38 (0, 0)), (b5, .cells (ratC (⟨y12.1, y15.1⟩ : RA) (⟨decide (((-n) / ((Nat.gcd ((-n).natAbs) ((-d).natAbs) : Nat) : Int)) < 0), toL (((-n) / ((Nat.gcd ((-n).natAbs) ((-d).natAbs) : Nat) : Int)).natAbs), toL (((-d) / ((Nat.gcd ((-n).natAbs) ((-d).natAbs) : Nat) : Int)).natAbs)⟩ : Raw)) 40 (0, 0)), (b4, .cells #[.bool (decide ((-d) < 0)), sl y9 (toL ((-d).natAbs)).length] 38 (0, 0)), (b3, .cells #[.bool (decide ((-n) < 0)), sl y8 (toL ((-n).natAbs)).length] 38 (0, 0))]) k_ ?_
   refine RN.fin k_ ?_
   have e_1 : (encQ (((n : Int) : Rat) / ((d : Int) : Rat))) = (⟨decide (((-n) / ((Nat.gcd ((-n).natAbs) ((-d).natAbs) : Nat) : Int)) < 0), toL (((-n) / ((Nat.gcd ((-n).natAbs) ((-d).natAbs) : Nat) : Int)).natAbs), toL (((-d) / ((Nat.gcd ((-n).natAbs) ((-d).natAbs) : Nat) : Int)).natAbs)⟩ : Raw) := by rw [neg_div hs, over_pos (by omega), toD_ne ho]
   have e_2 : (toL (((((n : Int) : Rat) / ((d : Int) : Rat)).num).natAbs)) = (toL (((-n) / ((Nat.gcd ((-n).natAbs) ((-d).natAbs) : Nat) : Int)).natAbs)) := congrArg Raw.mag e_1
   have e_3 : (toD ((((n : Int) : Rat) / ((d : Int) : Rat)).den)) = (toL (((-d) / ((Nat.gcd ((-n).natAbs) ((-d).natAbs) : Nat) : Int)).natAbs)) := congrArg Raw.den e_1
   refine J.also (fRat (⟨y12.1, y15.1⟩ : RA) (⟨decide (((-n) / ((Nat.gcd ((-n).natAbs) ((-d).natAbs) : Nat) : Int)) < 0), toL (((-n) / ((Nat.gcd ((-n).natAbs) ((-d).natAbs) : Nat) : Int)).natAbs), toL (((-d) / ((Nat.gcd ((-n).natAbs) ((-d).natAbs) : Nat) : Int)).natAbs)⟩ : Raw)) (fun w h => ⟨(h _ (.tail _ ((.tail _ ((.head _)))))), (h _ (.head _))⟩) ?_
   refine J.ret (KR.ret (v := ratV (⟨y12.1, y15.1⟩ : RA) (⟨decide (((-n) / ((Nat.gcd ((-n).natAbs) ((-d).natAbs) : Nat) : Int)) < 0), toL (((-n) / ((Nat.gcd ((-n).natAbs) ((-d).natAbs) : Nat) : Int)).natAbs), toL (((-d) / ((Nat.gcd ((-n).natAbs) ((-d).natAbs) : Nat) : Int)).natAbs)⟩ : Raw)) (⟨y12.1, y15.1⟩) [some 5] [0] [b5, b5, b5] k_ (by first | rfl | (rw [e_1]; done) | (simp only [e_1]; done) | (rw [e_2, e_3]; done) | (rw [e_1, e_2, e_3]; rfl) | (simp only [e_1, e_2, e_3]; done) | (simp only [e_1, e_2, e_3]; rfl)) (trivial) (by first | rfl | (rw [e_1]; done) | (simp only [e_1]; done) | (rw [e_2, e_3]; done) | (rw [e_1, e_2, e_3]; rfl) | (simp only [e_1, e_2, e_3]; done) | (simp only [e_1, e_2, e_3]; rfl)))
 ·replace c7 := of_decide_eq_false c7
  have hs := sign_nlt0 c7 hd
  refine J.skip ?_
  refine KN.next ?_
  refine J.sreg ?_
  refine RN.bq [some 2, some 1] [2, 3, 4, 19, 20] [b4, b4, b3, b3] 2 [(2, pt b3), (3, pt b4), (4, pt b5), (19, intV s (encZ n)), (20, intV t (encZ d))] k_ ?_
  refine RN.call (r02_Gcd_c s n t d y_r03_over y_r03_over) [0, 1] k_ k_ k_ rfl (fun y20 _ => ?_)
  refine RN.bq (no 1) [2, 3, 4, 22] [] 4 [(2, pt b3), (3, pt b4), (4, pt b5), (22, intV y20 (encZ ((Nat.gcd (n.natAbs) (d.natAbs) : Nat) : Int)))] k_ ?_
  refine RN.new (fun b => pt b) (.cells #[.bool false, sl saNil ([] : List Nat).length] 38 (0, 0)) k_ k_ (fun w => by kernel_rfl) (fun b21 => ?_)
  refine RN.bs [some 0] [2, 3, 4, 5] [b21, b21] 6 [(2, pt b3), (3, pt b4), (4, pt b5), (5, pt b21)] ([(b21, .cells #[.bool false, sl y20 (toL (Nat.gcd (n.natAbs) (d.natAbs))).length] 38 (0, 0)), (b5, .cells (ratC (⟨saNil, saNil⟩ : RA) (⟨false, ([] : List Nat), ([] : List Nat)⟩ : Raw)) 40 (0, 0)), (b4, .cells #[.bool (decide (d < 0)), sl t (toL (d.natAbs)).length] 38 (0, 0)), (b3, .cells #[.bool (decide (n < 0)), sl s (toL (n.natAbs)).length] 38 (0, 0))]) k_ ?_
  refine RN.fs k_ ?_
  refine RN.bq [some 3, some 0] [3, 4, 5, 24, 25] [b21, b21, b3, b3] 2 [(3, pt b4), (4, pt b5), (5, pt b21), (24, intV s (encZ n)), (25, intV y20 (encZ ((Nat.gcd (n.natAbs) (d.natAbs) : Nat) : Int)))] k_ ?_
  refine RN.call (r02_Div_c s n y20 ((Nat.gcd (n.natAbs) (d.natAbs) : Nat) : Int) y_r03_over y_r03_over) [1, 0] k_ k_ k_ rfl (fun y22 _ => ?_)
  refine RN.bq (no 4) [3, 4, 5, 27, 28, 29] [] 7 [(3, pt b4), (4, pt b5), (5, pt b21), (27, intV y22.1 (encZ (n / ((Nat.gcd (n.natAbs) (d.natAbs) : Nat) : Int)))), (28, intV y22.2 (encZ (if ((Nat.gcd (n.natAbs) (d.natAbs) : Nat) : Int) = 0 then 0 else n % ((Nat.gcd (n.natAbs) (d.natAbs) : Nat) : Int)))), (29, .bool (decide (((Nat.gcd (n.natAbs) (d.natAbs) : Nat) : Int) ≠ 0)))] k_ ?_
  refine RN.new (fun b => pt b) (.cells #[.bool false, sl saNil ([] : List Nat).length] 38 (0, 0)) k_ k_ (fun w => by kernel_rfl) (fun b23 => ?_)
  refine RN.new (fun b => pt b) (.cells #[.bool false, sl saNil ([] : List Nat).length] 38 (0, 0)) k_ k_ (fun w => by kernel_rfl) (fun b24 => ?_)
  refine RN.bs [some 1, some 0, none] [3, 4, 5, 6] [b24, b24, b23, b23] 12 [(3, pt b4), (4, pt b5), (5, pt b21), (6, pt b23)] ([(b24, .cells #[.bool (decide ((if ((Nat.gcd (n.natAbs) (d.natAbs) : Nat) : Int) = 0 then 0 else n % ((Nat.gcd (n.natAbs) (d.natAbs) : Nat) : Int)) < 0)), sl y22.2 (toL ((if ((Nat.gcd (n.natAbs) (d.natAbs) : Nat) : Int) = 0 then 0 else n % ((Nat.gcd (n.natAbs) (d.natAbs) : Nat) : Int)).natAbs)).length] 38 (0, 0)), (b23, .cells #[.bool (decide ((n / ((Nat.gcd (n.natAbs) (d.natAbs) : Nat) : Int)) < 0)), sl y22.1 (toL ((n / ((Nat.gcd (n.natAbs) (d.natAbs) : Nat) : Int)).natAbs)).length] 38 (0, 0)), (b21, .cells #[.bool false, sl y20 (toL (Nat.gcd (n.natAbs) (d.natAbs))).length] 38 (0, 0)), (b5, .cells (ratC (⟨saNil, saNil⟩ : RA) (⟨false, ([] : List Nat), ([] : List Nat)⟩ : Raw)) 40 (0, 0)), (b4, .cells #[.bool (decide (d < 0)), sl t (toL (d.natAbs)).length] 38 (0, 0)), (b3, .cells #[.bool (decide (n < 0)), sl s (toL (n.natAbs)).length] 38 (0, 0))]) k_ ?_
  refine RN.fs k_ ?_
  refine RN.bq [some 4, some 2] [4, 6, 31, 32] [b21, b21, b4, b4] 2 [(4, pt b5), (6, pt b23), (31, intV t (encZ d)), (32, intV y20 (encZ ((Nat.gcd (n.natAbs) (d.natAbs) : Nat) : Int)))] k_ ?_
  refine RN.call (r02_Div_c t d y20 ((Nat.gcd (n.natAbs) (d.natAbs) : Nat) : Int) y_r03_over y_r03_over) [4, 2] k_ k_ k_ rfl (fun y25 _ => ?_)
  refine RN.bq (no 4) [4, 6, 34, 35, 36] [] 7 [(4, pt b5), (6, pt b23), (34, intV y25.1 (encZ (d / ((Nat.gcd (n.natAbs) (d.natAbs) : Nat) : Int)))), (35, intV y25.2 (encZ (if ((Nat.gcd (n.natAbs) (d.natAbs) : Nat) : Int) = 0 then 0 else d % ((Nat.gcd (n.natAbs) (d.natAbs) : Nat) : Int)))), (36, .bool (decide (((Nat.gcd (n.natAbs) (d.natAbs) : Nat) : Int) ≠ 0)))] k_ ?_
  refine RN.new (fun b => pt b) (.cells #[.bool false, sl saNil ([] : List Nat).length] 38 (0, 0)) k_ k_ (fun w => by kernel_rfl) (fun b26 => ?_)
  refine RN.new (fun b => pt b) (.cells #[.bool false, sl saNil ([] : List Nat).length] 38 (0, 0)) k_ k_ (fun w => by kernel_rfl) (fun b27 => ?_)
  refine RN.bs [some 1, some 0, none] [4, 6, 9] [b27, b27, b26, b26] 12 [(4, pt b5), (6, pt b23), (9, pt b26)] ([(b27, .cells #[.bool (decide ((if ((Nat.gcd (n.natAbs) (d.natAbs) : Nat) : Int) = 0 then 0 else d % ((Nat.gcd (n.natAbs) (d.natAbs) : Nat) : Int)) < 0)), sl y25.2 (toL ((if ((Nat.gcd (n.natAbs) (d.natAbs) : Nat) : Int) = 0 then 0 else d % ((Nat.gcd (n.natAbs) (d.natAbs) : Nat) : Int)).natAbs)).length] 38 (0, 0)), (b26, .cells #[.bool (decide ((d / ((Nat.gcd (n.natAbs) (d.natAbs) : Nat) : Int)) < 0)), sl y25.1 (toL ((d / ((Nat.gcd (n.natAbs) (d.natAbs) : Nat) : Int)).natAbs)).length] 38 (0, 0)), (b24, .cells #[.bool (decide ((if ((Nat.gcd (n.natAbs) (d.natAbs) : Nat) : Int) = 0 then 0 else n % ((Nat.gcd (n.natAbs) (d.natAbs) : Nat) : Int)) < 0)), sl y22.2 (toL ((if ((Nat.gcd (n.natAbs) (d.natAbs) : Nat) : Int) = 0 then 0 else n % ((Nat.gcd (n.natAbs) (d.natAbs) : Nat) : Int)).natAbs)).length] 38 (0, 0)), (b23, .cells #[.bool (decide ((n / ((Nat.gcd (n.natAbs) (d.natAbs) : Nat) : Int)) < 0)), sl y22.1 (toL ((n / ((Nat.gcd (n.natAbs) (d.natAbs) : Nat) : Int)).natAbs)).length] 38 (0, 0)), (b21, .cells #[.bool false, sl y20 (toL (Nat.gcd (n.natAbs) (d.natAbs))).length] 38 (0, 0)), (b5, .cells (ratC (⟨saNil, saNil⟩ : RA) (⟨false, ([] : List Nat), ([] : List Nat)⟩ : Raw)) 40 (0, 0)), (b4, .cells #[.bool (decide (d < 0)), sl t (toL (d.natAbs)).length] 38 (0, 0)), (b3, .cells #[.bool (decide (n < 0)), sl s (toL (n.natAbs)).length] 38 (0, 0))]) k_ ?_
  refine RN.fin k_ ?_
  refine J.seq ?_
  refine J.sreg ?_
  refine RN.bq [none, some 1] [4, 6, 9, 38] [b26] 2 [(4, pt b5), (6, pt b23), (9, pt b26), (38, sl y25.1 (toL ((d / ((Nat.gcd (n.natAbs) (d.natAbs) : Nat) : Int)).natAbs)).length)] k_ ?_
  refine RN.call (r03_one y25.1 (toL ((d / ((Nat.gcd (n.natAbs) (d.natAbs) : Nat) : Int)).natAbs))) [0] k_ k_ k_ rfl (fun y28 _ => ?_)
  refine RN.fin k_ ?_
  refine J.cond (decide ((toL ((d / ((Nat.gcd (n.natAbs) (d.natAbs) : Nat) : Int)).natAbs)) = [1])) k_ (fun c29 => ?_) (fun c29 => ?_)
  ·replace c29 := of_decide_eq_true c29
   have ho := toL_eq1.1 c29
   refine J.regN ?_
   refine RN.bs [none, some 1] [4, 6, 9] [b26] 2 [(4, pt b5), (6, pt b23), (9, pt b26)] ([(b27, .cells #[.bool (decide ((if ((Nat.gcd (n.natAbs) (d.natAbs) : Nat) : Int) = 0 then 0 else d % ((Nat.gcd (n.natAbs) (d.natAbs) : Nat) : Int)) < 0)), sl y25.2 (toL ((if ((Nat.gcd (n.natAbs) (d.natAbs) : Nat) : Int) = 0 then 0 else d % ((Nat.gcd (n.natAbs) (d.natAbs) : Nat) : Int)).natAbs)).length] 38 (0, 0)), (b26, .cells #[.bool (decide ((d / ((Nat.gcd (n.natAbs) (d.natAbs) : Nat) : Int)) < 0)), sl saNil ([] : List Nat).length] 38 (0, 0)), (b24, .cells #[.bool (decide ((if ((Nat.gcd (n.natAbs) (d.natAbs) : Nat) : Int) = 0 then 0 else n % ((Nat.gcd (n.natAbs) (d.natAbs) : Nat) : Int)) < 0)), sl y22.2 (toL ((if ((Nat.gcd (n.natAbs) (d.natAbs) : Nat) : Int) = 0 then 0 else n % ((Nat.gcd (n.natAbs) (d.natAbs) : Nat) : Int)).natAbs)).length] 38 (0, 0)), (b23, .cells #[.bool (decide ((n / ((Nat.gcd (n.natAbs) (d.natAbs) : Nat) : Int)) < 0)), sl y22.1 (toL ((n / ((Nat.gcd (n.natAbs) (d.natAbs) : Nat) : Int)).natAbs)).length] 38 (0, 0)), (b21, .cells #[.bool false, sl y20 (toL (Nat.gcd (n.natAbs) (d.natAbs))).length] 38 (0, 0)), (b5, .cells (ratC (⟨saNil, saNil⟩ : RA) (⟨false, ([] : List Nat), ([] : List Nat)⟩ : Raw)) 40 (0, 0)), (b4, .cells #[.bool (decide (d < 0)), sl t (toL (d.natAbs)).length] 38 (0, 0)), (b3, .cells #[.bool (decide (n < 0)), sl s (toL (n.natAbs)).length] 38 (0, 0))]) k_ ?_
   refine RN.fs k_ ?_
   refine RN.bs [some 3, none, some 1, none, some 5] [4] [b5, b5, b5, b26, b23, b23] 5 [(4, pt b5)] ([(b27, .cells #[.bool (decide ((if ((Nat.gcd (n.natAbs) (d.natAbs) : Nat) : Int) = 0 then 0 else d % ((Nat.gcd (n.natAbs) (d.natAbs) : Nat) : Int)) < 0)), sl y25.2 (toL ((if ((Nat.gcd (n.natAbs) (d.natAbs) : Nat) : Int) = 0 then 0 else d % ((Nat.gcd (n.natAbs) (d.natAbs) : Nat) : Int)).natAbs)).length] 38 (0, 0)), (b26, .cells #[.bool (decide ((d / ((Nat.gcd (n.natAbs) (d.natAbs) : Nat) : Int)) < 0)), sl saNil ([] : List Nat).length] 38 (0, 0)), (b24, .cells #[.bool (decide ((if ((Nat.gcd (n.natAbs) (d.natAbs) : Nat) : Int) = 0 then 0 else n % ((Nat.gcd (n.natAbs) (d.natAbs) : Nat) : Int)) < 0)), sl y22.2 (toL ((if ((Nat.gcd (n.natAbs) (d.natAbs) : Nat) : Int) = 0 then 0 else n % ((Nat.gcd (n.natAbs) (d.natAbs) : Nat) : Int)).natAbs)).length] 38 (0, 0)), (b23, .cells #[.bool (decide ((n / ((Nat.gcd (n.natAbs) (d.natAbs) : Nat) : Int)) < 0)), sl y22.1 (toL ((n / ((Nat.gcd (n.natAbs) (d.natAbs) : Nat) : Int)).natAbs)).length] 38 (0, 0)), (b21, .cells #[.bool false, sl y20 (toL (Nat.gcd (n.natAbs) (d.natAbs))).length] 38 (0, 0)), (b5, .cells (ratC (⟨y22.1, saNil⟩ : RA) (⟨decide ((n / ((Nat.gcd (n.natAbs) (d.natAbs) : Nat) : Int)) < 0), toL ((n / ((Nat.gcd (n.natAbs) (d.natAbs) : Nat) : Int)).natAbs), ([] : List Nat)⟩ : Raw)) 40 (0, 0)), (b4, .cells #[.bool (decide (d < 0)), sl t (toL (d.natAbs)).length] 38 (0, 0)), (b3, .cells #[.bool (decide (n < 0)), sl s (toL (n.natAbs)).length] 38 (0, 0))]) k_ ?_
   refine RN.fin k_ ?_
   have e_1 : (encQ (((n : Int) : Rat) / ((d : Int) : Rat))) = (⟨decide ((n / ((Nat.gcd (n.natAbs) (d.natAbs) : Nat) : Int)) < 0), toL ((n / ((Nat.gcd (n.natAbs) (d.natAbs) : Nat) : Int)).natAbs), ([] : List Nat)⟩ : Raw) := by rw [over_pos hs, ho, toD_one]
   have e_2 : (toL (((((n : Int) : Rat) / ((d : Int) : Rat)).num).natAbs)) = (toL ((n / ((Nat.gcd (n.natAbs) (d.natAbs) : Nat) : Int)).natAbs)) := congrArg Raw.mag e_1
   have e_3 : (toD ((((n : Int) : Rat) / ((d : Int) : Rat)).den)) = ([] : List Nat) := congrArg Raw.den e_1
   refine J.also (fRat (⟨y22.1, saNil⟩ : RA) (⟨decide ((n / ((Nat.gcd (n.natAbs) (d.natAbs) : Nat) : Int)) < 0), toL ((n / ((Nat.gcd (n.natAbs) (d.natAbs) : Nat) : Int)).natAbs), ([] : List Nat)⟩ : Raw)) (fun w h => ⟨(h _ (.tail _ ((.tail _ ((.head _)))))), fU_nil w⟩) ?_
   refine J.ret (KR.ret (v := ratV (⟨y22.1, saNil⟩ : RA) (⟨decide ((n / ((Nat.gcd (n.natAbs) (d.natAbs) : Nat) : Int)) < 0), toL ((n / ((Nat.gcd (n.natAbs) (d.natAbs) : Nat) : Int)).natAbs), ([] : List Nat)⟩ : Raw)) (⟨y22.1, saNil⟩) [some 5] [0] [b5, b5, b5] k_ (by first | rfl | (rw [e_1]; done) | (simp only [e_1]; done) | (rw [e_2, e_3]; done) | (rw [e_1, e_2, e_3]; rfl) | (simp only [e_1, e_2, e_3]; done) | (simp only [e_1, e_2, e_3]; rfl)) (trivial) (by first | rfl | (rw [e_1]; done) | (simp only [e_1]; done) | (rw [e_2, e_3]; done) | (rw [e_1, e_2, e_3]; rfl) | (simp only [e_1, e_2, e_3]; done) | (simp only [e_1, e_2, e_3]; rfl)))
  ·replace c29 := of_decide_eq_false c29
   have ho := mt toL_eq1.2 c29
   refine J.skip ?_
   refine KN.next ?_
   refine J.sreg ?_
   refine RN.bs [some 3, none, some 1, none, some 5] [4] [b5, b5, b5, b26, b23, b23] 5 [(4, pt b5)] ([(b27, .cells #[.bool (decide ((if ((Nat.gcd (n.natAbs) (d.natAbs) : Nat) : Int) = 0 then 0 else d % ((Nat.gcd (n.natAbs) (d.natAbs) : Nat) : Int)) < 0)), sl y25.2 (toL ((if ((Nat.gcd (n.natAbs) (d.natAbs) : Nat) : Int) = 0 then 0 else d % ((Nat.gcd (n.natAbs) (d.natAbs) : Nat) : Int)).natAbs)).length] 38 (0, 0)), (b26, .cells #[.bool (decide ((d / ((Nat.gcd (n.natAbs) (d.natAbs) : Nat) : Int)) < 0)), sl y25.1 (toL ((d / ((Nat.gcd (n.natAbs) (d.natAbs) : Nat) : Int)).natAbs)).length] 38 (0, 0)), (b24, .cells #[.bool (decide ((if ((Nat.gcd (n.natAbs) (d.natAbs) : Nat) : Int) = 0 then 0 else n % ((Nat.gcd (n.natAbs) (d.natAbs) : Nat) : Int)) < 0)), sl y22.2 (toL ((if ((Nat.gcd (n.natAbs) (d.natAbs) : Nat) : Int) = 0 then 0 else n % ((Nat.gcd (n.natAbs) (d.natAbs) : Nat) : Int)).natAbs)).length] 38 (0, 0)), (b23, .cells #[.bool (decide ((n / ((Nat.gcd (n.natAbs) (d.natAbs) : Nat) : Int)) < 0)), sl y22.1 (toL ((n / ((Nat.gcd (n.natAbs) (d.natAbs) : Nat) : Int)).natAbs)).length] 38 (0, 0)), (b21, .cells #[.bool false, sl y20 (toL (Nat.gcd (n.natAbs) (d.natAbs))).length] 38 (0, 0)), (b5, .cells (ratC (⟨y22.1, y25.1⟩ : RA) (⟨decide ((n / ((Nat.gcd (n.natAbs) (d.natAbs) : Nat) : Int)) < 0), toL ((n / ((Nat.gcd (n.natAbs) (d.natAbs) : Nat) : Int)).natAbs), toL ((d / ((Nat.gcd (n.natAbs) (d.natAbs) : Nat) : Int)).natAbs)⟩ : Raw)) 40 (0, 0)), (b4, .cells #[.bool (decide (d < 0)), sl t (toL (d.natAbs)).length] 38 (0, 0)), (b3, .cells #[.bool (decide (n < 0)), sl s (toL (n.natAbs)).length] 38 (0, 0))]) k_ ?_
   refine RN.fin k_ ?_
   have e_1 : (encQ (((n : Int) : Rat) / ((d : Int) : Rat))) = (⟨decide ((n / ((Nat.gcd (n.natAbs) (d.natAbs) : Nat) : Int)) < 0), toL ((n / ((Nat.gcd (n.natAbs) (d.natAbs) : Nat) : Int)).natAbs), toL ((d / ((Nat.gcd (n.natAbs) (d.natAbs) : Nat) : Int)).natAbs)⟩ : Raw) := by rw [over_pos hs, toD_ne ho]
   have e_2 : (toL (((((n : Int) : Rat) / ((d : Int) : Rat)).num).natAbs)) = (toL ((n / ((Nat.gcd (n.natAbs) (d.natAbs) : Nat) : Int)).natAbs)) := congrArg Raw.mag e_1
   have e_3 : (toD ((((n : Int) : Rat) / ((d : Int) : Rat)).den)) = (toL ((d / ((Nat.gcd (n.natAbs) (d.natAbs) : Nat) : Int)).natAbs)) := congrArg Raw.den e_1
   refine J.also (fRat (⟨y22.1, y25.1⟩ : RA) (⟨decide ((n / ((Nat.gcd (n.natAbs) (d.natAbs) : Nat) : Int)) < 0), toL ((n / ((Nat.gcd (n.natAbs) (d.natAbs) : Nat) : Int)).natAbs), toL ((d / ((Nat.gcd (n.natAbs) (d.natAbs) : Nat) : Int)).natAbs)⟩ : Raw)) (fun w h => ⟨(h _ (.tail _ ((.tail _ ((.head _)))))), (h _ (.head _))⟩) ?_
   refine J.ret (KR.ret (v := ratV (⟨y22.1, y25.1⟩ : RA) (⟨decide ((n / ((Nat.gcd (n.natAbs) (d.natAbs) : Nat) : Int)) < 0), toL ((n / ((Nat.gcd (n.natAbs) (d.natAbs) : Nat) : Int)).natAbs), toL ((d / ((Nat.gcd (n.natAbs) (d.natAbs) : Nat) : Int)).natAbs)⟩ : Raw)) (⟨y22.1, y25.1⟩) [some 5] [0] [b5, b5, b5] k_ (by first | rfl | (rw [e_1]; done) | (simp only [e_1]; done) | (rw [e_2, e_3]; done) | (rw [e_1, e_2, e_3]; rfl) | (simp only [e_1, e_2, e_3]; done) | (simp only [e_1, e_2, e_3]; rfl)) (trivial) (by first | rfl | (rw [e_1]; done) | (simp only [e_1]; done) | (rw [e_2, e_3]; done) | (rw [e_1, e_2, e_3]; rfl) | (simp only [e_1, e_2, e_3]; done) | (simp only [e_1, e_2, e_3]; rfl)))
end Go.Proofs.YtbiifkfbkaejlaaGreat.E
namespace Go.Proofs.YtbiifkfbkaejlaaGreat.E
open Go Go.RowKit
set_option linter.unusedVariables false
set_option linter.unusedSimpArgs false
theorem fRat_zero : ∀ w, fRat ⟨saNil, saNil⟩ (encQ 0) w := by rw [encQ_zero]; exact fun w => ⟨fU_nil w, fU_nil w⟩
theorem num0 : toL (Rat.num 0).natAbs = [] := toL_zero
theorem zneg0 : decide (Rat.num 0 < 0) = false := by decide
theorem zden0 : toD (Rat.den 0) = [] := rfl
theorem add_parts (x y : Rat) : (((x.num * ((y.den : Nat) : Int) + y.num * ((x.den : Nat) : Int) : Int)) : Rat) / ((((x.den : Nat) : Int) * ((y.den : Nat) : Int) : Int) : Rat) = x + y := by
  rw [Rat.add_def', Rat.mkRat_eq_div]; rfl
theorem mul_parts (x y : Rat) : ((x.num * y.num : Int) : Rat) / ((((x.den : Nat) : Int) * ((y.den : Nat) : Int) : Int) : Rat) = x * y := by
  rw [Rat.mul_def', Rat.mkRat_eq_div]; rfl
theorem den_mul_ne' (x y : Rat) : ((x.den : Nat) : Int) * ((y.den : Nat) : Int) ≠ 0 := by
  have h1 := x.den_nz; have h2 := y.den_nz
  exact Int.mul_ne_zero (by omega) (by omega)
theorem num_lt0 {q : Rat} : q.num < 0 ↔ q < 0 := by
  have := Rat.num_nonneg (q := q)
  rw [← Rat.not_le, ← this]; omega
theorem sign_lt {q : Rat} : Int.sign q.num < 0 ↔ q < 0 := by
  rw [← num_lt0]; exact ⟨sign_lt0, fun h => by rw [Int.sign_eq_neg_one_of_neg h]; decide⟩
theorem sub_lt0 {x y : Rat} : x - y < 0 ↔ x < y := by
  rw [← Rat.not_le, ← Rat.le_iff_sub_nonneg, Rat.not_le]
theorem sub_sign_lt {x y : Rat} : Int.sign (x - y).num < 0 ↔ x < y := by rw [sign_lt, sub_lt0]
def absQ (q : Rat) : Rat := if q < 0 then -q else q
theorem r03_FromInt (v : Int) (h1 : -9223372036854775808 ≤ v) (h2 : v < 9223372036854775808) : Spec Tryz.prog 24 #[.int .i64 v] [] (ι := RA) (fun y => ratV y (encQ ((v : Int) : Rat))) (fun y => True) (fun y => [fRat y (encQ ((v : Int) : Rat))]) := by
 refine Spec.of_body _ (fn := Tryz.f24) k_ rfl k_ (fun X w0 => ?_)
 refine J.sreg ?_
 refine RN.new (fun b => pt b) (.cells (ratC (⟨saNil, saNil⟩ : RA) (⟨false, ([] : List Nat), ([] : List Nat)⟩ : Raw)) 40 (0, 0)) k_ k_ (fun w => by kernel_rfl) (fun b1 => ?_)
 refine RN.fs k_ ?_
 refine RN.bq (no 1) [2, 3] [] 1 [(2, pt b1), (3, .int .i64 v)] k_ ?_
 refine RN.call (r02_FromInt v y_ y_) [] k_ k_ k_ rfl (fun y2 _ => ?_)
 refine RN.bs [none, some 0] [2] [b1, b1, b1] 4 [(2, pt b1)] ([(b1, .cells (ratC (⟨y2, saNil⟩ : RA) (⟨decide (v < 0), toL (v.natAbs), ([] : List Nat)⟩ : Raw)) 40 (0, 0))]) k_ ?_
 refine RN.fin k_ ?_
 have e_1 : (encQ ((v : Int) : Rat)) = (⟨decide (v < 0), toL (v.natAbs), ([] : List Nat)⟩ : Raw) := by rfl
 have e_2 : (toL ((((v : Int) : Rat).num).natAbs)) = (toL (v.natAbs)) := congrArg Raw.mag e_1
 have e_3 : (toD (((v : Int) : Rat).den)) = ([] : List Nat) := congrArg Raw.den e_1
 refine J.also (fRat (⟨y2, saNil⟩ : RA) (⟨decide (v < 0), toL (v.natAbs), ([] : List Nat)⟩ : Raw)) (fun w h => ⟨(h _ (.head _)), fU_nil w⟩) ?_
 refine J.ret (KR.ret (v := ratV (⟨y2, saNil⟩ : RA) (⟨decide (v < 0), toL (v.natAbs), ([] : List Nat)⟩ : Raw)) (⟨y2, saNil⟩) [some 0] [0] [b1, b1, b1] k_ (by first | rfl | (rw [e_1]; done) | (simp only [e_1]; done) | (rw [e_2, e_3]; done) | (rw [e_1, e_2, e_3]; rfl) | (simp only [e_1, e_2, e_3]; done) | (simp only [e_1, e_2, e_3]; rfl)) (trivial) (by first | rfl | (rw [e_1]; done) | (simp only [e_1]; done) | (rw [e_2, e_3]; done) | (rw [e_1, e_2, e_3]; rfl) | (simp only [e_1, e_2, e_3]; done) | (simp only [e_1, e_2, e_3]; rfl)))
theorem r03_Sign (p : RA) (r : Raw) (hr : RQ 268435456 r) : Spec Tryz.prog 18 #[ratV p r] [fRat p r] (ι := Unit) (fun y => .int .i64 (Int.sign ((qv r).num))) (fun y => True) (fun y => []) := by
 refine Spec.of_body _ (fn := Tryz.f18) k_ rfl k_ (fun X w0 => ?_)
 refine J.fact (φ := r.mag.length ≤ 140737488355328 ∧ r.den.length ≤ 140737488355328) (fun w h => by have h1 := (h _ (.head _)).1.1; have h2 := (h _ (.head _)).2.1; omega) (fun hl1 => ?_)
 have hq1 := hr.2.2.2.2.1
 refine J.sreg ?_
 refine RN.new (fun b => pt b) (.cells (ratC p r) 40 (0, 0)) k_ k_ (fun w => by kernel_rfl) (fun b2 => ?_)
 refine RN.bq (no 1) [1] [] 2 [(1, pt b2)] k_ ?_
 refine RN.fs k_ ?_
 refine RN.bq [some 0] [3] [b2, b2, b2] 1 [(3, ratV p r)] k_ ?_
 refine RN.call (r03_Take p r y_) [0] k_ k_ k_ rfl (fun y3 _ => ?_)
 refine RN.bq (no 1) [5] [] 3 [(5, intV y3.mag (encZ ((qv r).num)))] k_ ?_
 refine RN.also (fU y3.mag (toL (((qv r).num).natAbs))) (fun w h => (h _ (.head _)).1) ?_
 refine RN.call (r02_Sign_c y3.mag ((qv r).num) y_) [0] k_ k_ k_ rfl (fun y4 _ => ?_)
 refine RN.bq (no 1) [2] [] 5 [(2, .int .i64 (Int.sign ((qv r).num)))] k_ ?_
 refine RN.fin k_ ?_
 refine J.ret (KR.ret (v := .int .i64 (Int.sign ((qv r).num))) (()) [none] [] [] k_ rfl (trivial) rfl)
theorem r03_Sign_c (p : RA) (r' : Rat) (hr : Q 268435456 r') : Spec Tryz.prog 18 #[ratV p (encQ r')] [fRat p (encQ r')] (ι := Unit) (fun y => .int .i64 (Int.sign (r'.num))) (fun y => True) (fun y => []) := by
  have H := r03_Sign p (encQ r') (RQ_enc hr)
  first | exact H | (simp only [qv_encQ, validQ_encQ] at H; exact H)
theorem r03_Neg (p : RA) (r : Raw) (hr : RQ 268435456 r) : Spec Tryz.prog 45 #[ratV p r] [fRat p r] (ι := RA) (fun y => ratV y (encQ (-(qv r)))) (fun y => True) (fun y => [fRat y (encQ (-(qv r)))]) := by
 refine Spec.of_body _ (fn := Tryz.f45) k_ rfl k_ (fun X w0 => ?_)
 refine J.fact (φ := r.mag.length ≤ 140737488355328 ∧ r.den.length ≤ 140737488355328) (fun w h => by have h1 := (h _ (.head _)).1.1; have h2 := (h _ (.head _)).2.1; omega) (fun hl1 => ?_)
 have hq1 := hr.2.2.2.2.1
 refine J.sreg ?_
 refine RN.new (fun b => pt b) (.cells (ratC p r) 40 (0, 0)) k_ k_ (fun w => by kernel_rfl) (fun b2 => ?_)
 refine RN.new (fun b => pt b) (.cells (ratC (⟨saNil, saNil⟩ : RA) (⟨false, ([] : List Nat), ([] : List Nat)⟩ : Raw)) 40 (0, 0)) k_ k_ (fun w => by kernel_rfl) (fun b3 => ?_)
 refine RN.fs k_ ?_
 refine RN.bq [some 1] [1, 2, 3] [b2, b2, b2] 1 [(1, pt b2), (2, pt b3), (3, ratV p r)] k_ ?_
 refine RN.call (r03_Take p r y_) [0] k_ k_ k_ rfl (fun y4 _ => ?_)
 refine RN.bs [some 1] [1, 2] [b2, b2, b2] 3 [(1, pt b2), (2, pt b3)] ([(b3, .cells (ratC (⟨saNil, saNil⟩ : RA) (⟨false, ([] : List Nat), ([] : List Nat)⟩ : Raw)) 40 (0, 0)), (b2, .cells (ratC y4 (encQ (qv r))) 40 (0, 0))]) k_ ?_
 refine RN.fin k_ ?_
 refine J.seq ?_
 refine J.regD k_ [6] ?_
 refine RD.bq [(0, none), (1, some 1), (3, none), (4, some 1)] [2, 6, 9] [b2, b2, b2] [(2, pt b3), (6, intV y4.mag (encZ ((qv r).num))), (9, sl (y4.den) (toD ((qv r).den)).length)] k_ k_ ?_
 refine RD.also (fU y4.mag (toL (((qv r).num).natAbs))) (fun w h => (h _ (.head _)).1) k_ ?_
 refine RD.call (i := 2) (r02_Neg_c y4.mag ((qv r).num) y_) [0] k_ k_ k_ k_ k_ rfl (fun y5 _ => ?_)
 refine RD.bq (nl [5]) [2, 10] [] [(2, pt b3), (10, ratV (⟨y5, y4.den⟩ : RA) (⟨decide ((-((qv r).num)) < 0), toL ((-((qv r).num)).natAbs), toD ((qv r).den)⟩ : Raw))] k_ k_ ?_
 refine RD.last (i := 6) (some 0) [2] [b3, b3, b3] k_ k_ k_ (l' := [(2, pt b3)]) (M' := [(b3, .cells (ratC (⟨y5, y4.den⟩ : RA) (⟨decide ((-((qv r).num)) < 0), toL ((-((qv r).num)).natAbs), toD ((qv r).den)⟩ : Raw)) 40 (0, 0)), (b2, .cells (ratC y4 (encQ (qv r))) 40 (0, 0))]) k_ ?_
 refine RD.done k_ ?_
 refine KN.next ?_
 have e_1 : (encQ (-(qv r))) = (⟨decide ((-((qv r).num)) < 0), toL ((-((qv r).num)).natAbs), toD ((qv r).den)⟩ : Raw) := by rw [encQ_neg]
 have e_2 : (toL (((-(qv r)).num).natAbs)) = (toL ((-((qv r).num)).natAbs)) := congrArg Raw.mag e_1
 have e_3 : (toD ((-(qv r)).den)) = (toD ((qv r).den)) := congrArg Raw.den e_1
 refine J.also (fRat (⟨y5, y4.den⟩ : RA) (⟨decide ((-((qv r).num)) < 0), toL ((-((qv r).num)).natAbs), toD ((qv r).den)⟩ : Raw)) (fun w h => ⟨(h _ (.head _)), (h _ (.tail _ ((.tail _ ((.head _)))))).2⟩) ?_
 refine J.ret (KR.ret (v := ratV (⟨y5, y4.den⟩ : RA) (⟨decide ((-((qv r).num)) < 0), toL ((-((qv r).num)).natAbs), toD ((qv r).den)⟩ : Raw)) (⟨y5, y4.den⟩) [some 0] [0] [b3, b3, b3] k_ (by first | rfl | (rw [e_1]; done) | (simp only [e_1]; done) | (rw [e_2, e_3]; done) | (rw [e_1, e_2, e_3]; rfl) | (simp only [e_1, e_2, e_3]; done) | (simp only [e_1, e_2, e_3]; rfl)) (trivial) (by first | rfl | (rw [e_1]; done) | (simp only [e_1]; done) | (rw [e_2, e_3]; done) | (rw [e_1, e_2, e_3]; rfl) | (simp only [e_1, e_2, e_3]; done) | (simp only [e_1, e_2, e_3]; rfl)))
theorem y_r03_Add {p : Prop} (h : p := by first | assumption | exact Lb_toL _ | omega | (simp; done) | first | exact den_mul_ne' _ _ | exact Q.le ‹_› (by decide) | (simp; done) | (simp; omega) | (rw [Int.natAbs_natCast]; omega)) : p := h
theorem r03_Add (p : RA) (r : Raw) (u : RA) (t : Raw) (hr : RQ 268435456 r) (ht : RQ 268435456 t) : Spec Tryz.prog 9 #[ratV p r, ratV u t] [fRat p r, fRat u t] (ι := RA) (fun y => ratV y (encQ ((qv r) + (qv t)))) (fun y => True) (fun y => [fRat y (encQ ((qv r) + (qv t)))]) := by
 refine Spec.of_body _ (fn := Tryz.f9) k_ rfl k_ (fun X w0 => ?_)
 refine J.fact (φ := r.mag.length ≤ 140737488355328 ∧ r.den.length ≤ 140737488355328) (fun w h => by have h1 := (h _ (.head _)).1.1; have h2 := (h _ (.head _)).2.1; omega) (fun hl1 => ?_)
 refine J.fact (φ := t.mag.length ≤ 140737488355328 ∧ t.den.length ≤ 140737488355328) (fun w h => by have h1 := (h _ (.tail _ ((.head _)))).1.1; have h2 := (h _ (.tail _ ((.head _)))).2.1; omega) (fun hl2 => ?_)
 have hq := hr.2.2.2.2
 have hu := ht.2.2.2.2
 have hq1 := hq.1
 have hq2 := hq.2
 have hu1 := hu.1
 have hu2 := hu.2
 have hqb := hq.le (by decide : 268435456 ≤ 1099511627776)
 have hub := hu.le (by decide : 268435456 ≤ 1099511627776)
 have z1 := zlen_mulN (qv r).num (qv t).den
 have z2 := zlen_mulN (qv t).num (qv r).den
 have z3 := zlen_mulN ((qv r).den : Int) (qv t).den
 have z4 := zlen_add (k := 1073741824) (by omega : (toL ((qv r).num * ((qv t).den : Int)).natAbs).length ≤ 1073741824) (by omega : (toL ((qv t).num * ((qv r).den : Int)).natAbs).length ≤ 1073741824)
 have z5 := zlen_mul (qv r).num (qv t).num
 have z6 := zlen_mul ((qv r).den : Int) (qv t).num
 rw [Int.natAbs_natCast] at z3 z6
 refine J.sreg ?_
 refine RN.new (fun b => pt b) (.cells (ratC p r) 40 (0, 0)) k_ k_ (fun w => by kernel_rfl) (fun b3 => ?_)
 refine RN.new (fun b => pt b) (.cells (ratC u t) 40 (0, 0)) k_ k_ (fun w => by kernel_rfl) (fun b4 => ?_)
 refine RN.new (fun b => pt b) (.cells (ratC (⟨saNil, saNil⟩ : RA) (⟨false, ([] : List Nat), ([] : List Nat)⟩ : Raw)) 40 (0, 0)) k_ k_ (fun w => by kernel_rfl) (fun b5 => ?_)
 refine RN.fin k_ ?_
 refine J.seq ?_
 refine J.regD k_ [4, 5] ?_
 refine RD.bq [(0, some 2), (2, some 1)] [2, 3, 4, 5, 7] [b4, b4, b4, b3, b3, b3] [(2, pt b3), (3, pt b4), (4, pt b5), (5, ratV p r), (7, ratV u t)] k_ k_ ?_
 refine RD.call (i := 1) (r03_Take p r y_r03_Add) [0] k_ k_ k_ k_ k_ rfl (fun y6 _ => ?_)
 refine RD.call (i := 3) (r03_Take u t y_r03_Add) [2] k_ k_ k_ k_ k_ rfl (fun y7 _ => ?_)
 refine RD.last (i := 4) (some 2) [2, 3, 4, 8] [b3, b3, b3] k_ k_ k_ (l' := [(2, pt b3), (3, pt b4), (4, pt b5), (8, ratV y7 (encQ (qv t)))]) (M' := [(b5, .cells (ratC (⟨saNil, saNil⟩ : RA) (⟨false, ([] : List Nat), ([] : List Nat)⟩ : Raw)) 40 (0, 0)), (b4, .cells (ratC u t) 40 (0, 0)), (b3, .cells (ratC y6 (encQ (qv r))) 40 (0, 0))]) k_ ?_
 refine RD.last (i := 5) (some 1) [2, 3, 4] [b4, b4, b4] k_ k_ k_ (l' := [(2, pt b3), (3, pt b4), (4, pt b5)]) (M' := [(b5, .cells (ratC (⟨saNil, saNil⟩ : RA) (⟨false, ([] : List Nat), ([] : List Nat)⟩ : Raw)) 40 (0, 0)), (b4, .cells (ratC y7 (encQ (qv t))) 40 (0, 0)), (b3, .cells (ratC y6 (encQ (qv r))) 40 (0, 0))]) k_ ?_
 refine RD.done k_ ?_
 refine KN.next ?_
 refine J.seq ?_
 refine J.regD k_ [17] ?_
 refine RD.bq [(0, none), (1, some 2), (2, some 1), (5, none), (6, some 1), (7, some 2), (11, some 2), (13, some 1)] [4, 10, 11, 15, 16, 20, 22] [b4, b4, b4, b3, b3, b3, b3, b3, b3, b4, b4, b4, b4, b4, b3, b3] [(4, pt b5), (10, intV y6.mag (encZ ((qv r).num))), (11, ratV y7 (encQ (qv t))), (15, intV y7.mag (encZ ((qv t).num))), (16, ratV y6 (encQ (qv r))), (20, ratV y6 (encQ (qv r))), (22, ratV y7 (encQ (qv t)))] k_ k_ ?_
 refine RD.call (i := 3) (r03_Den y7 (qv t) y_r03_Add) [0] k_ k_ k_ k_ k_ rfl (fun y8 _ => ?_)
 refine RD.also (fU y6.mag (toL (((qv r).num).natAbs))) (fun w h => (h _ (.tail _ ((.tail _ ((.head _)))))).1) k_ ?_
 refine RD.call (i := 4) (r02_Mul_c y6.mag ((qv r).num) y8 (((qv t).den : Nat) : Int) y_r03_Add y_r03_Add) [0, 1] k_ k_ k_ k_ k_ rfl (fun y9 _ => ?_)
 refine RD.call (i := 8) (r03_Den y6 (qv r) y_r03_Add) [4] k_ k_ k_ k_ k_ rfl (fun y10 _ => ?_)
 refine RD.also (fU y7.mag (toL (((qv t).num).natAbs))) (fun w h => (h _ (.tail _ ((.tail _ ((.tail _ ((.tail _ ((.head _)))))))))).1) k_ ?_
 refine RD.call (i := 9) (r02_Mul_c y7.mag ((qv t).num) y10 (((qv r).den : Nat) : Int) y_r03_Add y_r03_Add) [0, 1] k_ k_ k_ k_ k_ rfl (fun y11 _ => ?_)
 refine RD.call (i := 10) (r02_Add_c y9 (((qv r).num) * (((qv t).den : Nat) : Int)) y11 (((qv t).num) * (((qv r).den : Nat) : Int)) y_r03_Add y_r03_Add) [3, 0] k_ k_ k_ k_ k_ rfl (fun y12 _ => ?_)
 refine RD.call (i := 12) (r03_Den y6 (qv r) y_r03_Add) [8] k_ k_ k_ k_ k_ rfl (fun y13 _ => ?_)
 refine RD.call (i := 14) (r03_Den y7 (qv t) y_r03_Add) [8] k_ k_ k_ k_ k_ rfl (fun y14 _ => ?_)
 refine RD.call (i := 15) (r02_Mul_c y13 (((qv r).den : Nat) : Int) y14 (((qv t).den : Nat) : Int) y_r03_Add y_r03_Add) [1, 0] k_ k_ k_ k_ k_ rfl (fun y15 _ => ?_)
 refine RD.call (i := 16) (r03_over y12 ((((qv r).num) * (((qv t).den : Nat) : Int)) + (((qv t).num) * (((qv r).den : Nat) : Int))) y15 ((((qv r).den : Nat) : Int) * (((qv t).den : Nat) : Int)) y_r03_Add y_r03_Add y_r03_Add) [3, 0] k_ k_ k_ k_ k_ rfl (fun y16 _ => ?_)
 refine RD.last (i := 17) (some 0) [4] [b5, b5, b5] k_ k_ k_ (l' := [(4, pt b5)]) (M' := [(b5, .cells (ratC y16 (encQ (((((((qv r).num) * (((qv t).den : Nat) : Int)) + (((qv t).num) * (((qv r).den : Nat) : Int))) : Int) : Rat) / ((((((qv r).den : Nat) : Int) * (((qv t).den : Nat) : Int)) : Int) : Rat)))) 40 (0, 0)), (b4, .cells (ratC y7 (encQ (qv t))) 40 (0, 0)), (b3, .cells (ratC y6 (encQ (qv r))) 40 (0, 0))]) k_ ?_
 refine RD.done k_ ?_
 refine KN.next ?_
 have e_1 : (encQ ((qv r) + (qv t))) = (encQ (((((((qv r).num) * (((qv t).den : Nat) : Int)) + (((qv t).num) * (((qv r).den : Nat) : Int))) : Int) : Rat) / ((((((qv r).den : Nat) : Int) * (((qv t).den : Nat) : Int)) : Int) : Rat))) := by rw [add_parts]
 refine J.ret (KR.ret (v := ratV y16 (encQ (((((((qv r).num) * (((qv t).den : Nat) : Int)) + (((qv t).num) * (((qv r).den : Nat) : Int))) : Int) : Rat) / ((((((qv r).den : Nat) : Int) * (((qv t).den : Nat) : Int)) : Int) : Rat)))) (y16) [some 0] [0] [b5, b5, b5] k_ v1_ (trivial) v1_)
theorem r03_Add_c (p : RA) (r' : Rat) (u : RA) (t' : Rat) (hr : Q 268435456 r') (ht : Q 268435456 t') : Spec Tryz.prog 9 #[ratV p (encQ r'), ratV u (encQ t')] [fRat p (encQ r'), fRat u (encQ t')] (ι := RA) (fun y => ratV y (encQ (r' + t'))) (fun y => True) (fun y => [fRat y (encQ (r' + t'))]) := by
  have H := r03_Add p (encQ r') u (encQ t') (RQ_enc hr) (RQ_enc ht)
  first | exact H | (simp only [qv_encQ, validQ_encQ] at H; exact H)
theorem r03_Add_c2 (p : RA) (r : Raw) (u : RA) (t' : Rat) (hr : RQ 268435456 r) (ht : Q 268435456 t') : Spec Tryz.prog 9 #[ratV p r, ratV u (encQ t')] [fRat p r, fRat u (encQ t')] (ι := RA) (fun y => ratV y (encQ ((qv r) + t'))) (fun y => True) (fun y => [fRat y (encQ ((qv r) + t'))]) := by
  have H := r03_Add p r u (encQ t') (by first | exact hr | simpa only [qv_encQ] using hr) (RQ_enc ht)
  first | exact H | (simp only [qv_encQ, validQ_encQ] at H; exact H)
theorem y_r03_Mul {p : Prop} (h : p := by first | assumption | exact Lb_toL _ | omega | (simp; done) | first | exact den_mul_ne' _ _ | exact Q.le ‹_› (by decide) | (simp; done) | (simp; omega) | (rw [Int.natAbs_natCast]; omega)) : p := h
theorem r03_Mul (p : RA) (r : Raw) (u : RA) (t : Raw) (hr : RQ 268435456 r) (ht : RQ 268435456 t) : Spec Tryz.prog 10 #[ratV p r, ratV u t] [fRat p r, fRat u t] (ι := RA) (fun y => ratV y (encQ ((qv r) * (qv t)))) (fun y => True) (fun y => [fRat y (encQ ((qv r) * (qv t)))]) := by
 refine Spec.of_body _ (fn := Tryz.f10) k_ rfl k_ (fun X w0 => ?_)
 refine J.fact (φ := r.mag.length ≤ 140737488355328 ∧ r.den.length ≤ 140737488355328) (fun w h => by have h1 := (h _ (.head _)).1.1; have h2 := (h _ (.head _)).2.1; omega) (fun hl1 => ?_)
 refine J.fact (φ := t.mag.length ≤ 140737488355328 ∧ t.den.length ≤ 140737488355328) (fun w h => by have h1 := (h _ (.tail _ ((.head _)))).1.1; have h2 := (h _ (.tail _ ((.head _)))).2.1; omega) (fun hl2 => ?_)
 have hq := hr.2.2.2.2
 have hu := ht.2.2.2.2
 have hq1 := hq.1
 have hq2 := hq.2
 have hu1 := hu.1
 have hu2 := hu.2
 have hqb := hq.le (by decide : 268435456 ≤ 1099511627776)
 have hub := hu.le (by decide : 268435456 ≤ 1099511627776)
 have z1 := zlen_mulN (qv r).num (qv t).den
 have z2 := zlen_mulN (qv t).num (qv r).den
 have z3 := zlen_mulN ((qv r).den : Int) (qv t).den
 have z4 := zlen_add (k := 1073741824) (by omega : (toL ((qv r).num * ((qv t).den : Int)).natAbs).length ≤ 1073741824) (by omega : (toL ((qv t).num * ((qv r).den : Int)).natAbs).length ≤ 1073741824)
 have z5 := zlen_mul (qv r).num (qv t).num
 have z6 := zlen_mul ((qv r).den : Int) (qv t).num
 rw [Int.natAbs_natCast] at z3 z6
 refine J.sreg ?_
 refine RN.new (fun b => pt b) (.cells (ratC p r) 40 (0, 0)) k_ k_ (fun w => by kernel_rfl) (fun b3 => ?_)
 refine RN.new (fun b => pt b) (.cells (ratC u t) 40 (0, 0)) k_ k_ (fun w => by kernel_rfl) (fun b4 => ?_)
 refine RN.new (fun b => pt b) (.cells (ratC (⟨saNil, saNil⟩ : RA) (⟨false, ([] : List Nat), ([] : List Nat)⟩ : Raw)) 40 (0, 0)) k_ k_ (fun w => by kernel_rfl) (fun b5 => ?_)
 refine RN.fin k_ ?_
 refine J.seq ?_
 refine J.regD k_ [4, 5] ?_
 refine RD.bq [(0, some 2), (2, some 1)] [2, 3, 4, 5, 7] [b4, b4, b4, b3, b3, b3] [(2, pt b3), (3, pt b4), (4, pt b5), (5, ratV p r), (7, ratV u t)] k_ k_ ?_
 refine RD.call (i := 1) (r03_Take p r y_r03_Mul) [0] k_ k_ k_ k_ k_ rfl (fun y6 _ => ?_)
 refine RD.call (i := 3) (r03_Take u t y_r03_Mul) [2] k_ k_ k_ k_ k_ rfl (fun y7 _ => ?_)
 refine RD.last (i := 4) (some 2) [2, 3, 4, 8] [b3, b3, b3] k_ k_ k_ (l' := [(2, pt b3), (3, pt b4), (4, pt b5), (8, ratV y7 (encQ (qv t)))]) (M' := [(b5, .cells (ratC (⟨saNil, saNil⟩ : RA) (⟨false, ([] : List Nat), ([] : List Nat)⟩ : Raw)) 40 (0, 0)), (b4, .cells (ratC u t) 40 (0, 0)), (b3, .cells (ratC y6 (encQ (qv r))) 40 (0, 0))]) k_ ?_
 refine RD.last (i := 5) (some 1) [2, 3, 4] [b4, b4, b4] k_ k_ k_ (l' := [(2, pt b3), (3, pt b4), (4, pt b5)]) (M' := [(b5, .cells (ratC (⟨saNil, saNil⟩ : RA) (⟨false, ([] : List Nat), ([] : List Nat)⟩ : Raw)) 40 (0, 0)), (b4, .cells (ratC y7 (encQ (qv t))) 40 (0, 0)), (b3, .cells (ratC y6 (encQ (qv r))) 40 (0, 0))]) k_ ?_
 refine RD.done k_ ?_
 refine KN.next ?_
 refine J.seq ?_
 refine J.regD k_ [11] ?_
 refine RD.bq [(0, none), (1, some 2), (2, none), (3, some 1), (5, some 2), (7, some 1)] [4, 10, 12, 14, 16] [b4, b4, b4, b3, b3, b3, b4, b4, b3, b3] [(4, pt b5), (10, intV y6.mag (encZ ((qv r).num))), (12, intV y7.mag (encZ ((qv t).num))), (14, ratV y6 (encQ (qv r))), (16, ratV y7 (encQ (qv t)))] k_ k_ ?_
 refine RD.also (fU y6.mag (toL (((qv r).num).natAbs))) (fun w h => (h _ (.tail _ ((.head _)))).1) k_ ?_
 refine RD.also (fU y7.mag (toL (((qv t).num).natAbs))) (fun w h => (h _ (.tail _ ((.head _)))).1) k_ ?_
 refine RD.call (i := 4) (r02_Mul_c y6.mag ((qv r).num) y7.mag ((qv t).num) y_r03_Mul y_r03_Mul) [1, 0] k_ k_ k_ k_ k_ rfl (fun y8 _ => ?_)
 refine RD.call (i := 6) (r03_Den y6 (qv r) y_r03_Mul) [4] k_ k_ k_ k_ k_ rfl (fun y9 _ => ?_)
 refine RD.call (i := 8) (r03_Den y7 (qv t) y_r03_Mul) [4] k_ k_ k_ k_ k_ rfl (fun y10 _ => ?_)
 refine RD.call (i := 9) (r02_Mul_c y9 (((qv r).den : Nat) : Int) y10 (((qv t).den : Nat) : Int) y_r03_Mul y_r03_Mul) [1, 0] k_ k_ k_ k_ k_ rfl (fun y11 _ => ?_)
 refine RD.call (i := 10) (r03_over y8 (((qv r).num) * ((qv t).num)) y11 ((((qv r).den : Nat) : Int) * (((qv t).den : Nat) : Int)) y_r03_Mul y_r03_Mul y_r03_Mul) [3, 0] k_ k_ k_ k_ k_ rfl (fun y12 _ => ?_)
 refine RD.last (i := 11) (some 0) [4] [b5, b5, b5] k_ k_ k_ (l' := [(4, pt b5)]) (M' := [(b5, .cells (ratC y12 (encQ ((((((qv r).num) * ((qv t).num)) : Int) : Rat) / ((((((qv r).den : Nat) : Int) * (((qv t).den : Nat) : Int)) : Int) : Rat)))) 40 (0, 0)), (b4, .cells (ratC y7 (encQ (qv t))) 40 (0, 0)), (b3, .cells (ratC y6 (encQ (qv r))) 40 (0, 0))]) k_ ?_
 refine RD.done k_ ?_
 refine KN.next ?_
 have e_1 : (encQ ((qv r) * (qv t))) = (encQ ((((((qv r).num) * ((qv t).num)) : Int) : Rat) / ((((((qv r).den : Nat) : Int) * (((qv t).den : Nat) : Int)) : Int) : Rat))) := by rw [mul_parts]
 refine J.ret (KR.ret (v := ratV y12 (encQ ((((((qv r).num) * ((qv t).num)) : Int) : Rat) / ((((((qv r).den : Nat) : Int) * (((qv t).den : Nat) : Int)) : Int) : Rat)))) (y12) [some 0] [0] [b5, b5, b5] k_ v1_ (trivial) v1_)
theorem r03_Mul_c (p : RA) (r' : Rat) (u : RA) (t' : Rat) (hr : Q 268435456 r') (ht : Q 268435456 t') : Spec Tryz.prog 10 #[ratV p (encQ r'), ratV u (encQ t')] [fRat p (encQ r'), fRat u (encQ t')] (ι := RA) (fun y => ratV y (encQ (r' * t'))) (fun y => True) (fun y => [fRat y (encQ (r' * t'))]) := by
  have H := r03_Mul p (encQ r') u (encQ t') (RQ_enc hr) (RQ_enc ht)
  first | exact H | (simp only [qv_encQ, validQ_encQ] at H; exact H)
theorem y_r03_Sub {p : Prop} (h : p := by first | assumption | exact Lb_toL _ | omega | (simp; done) | exact hu.neg) : p := h
theorem r03_Sub (p : RA) (r : Raw) (u : RA) (t : Raw) (hr : RQ 268435456 r) (ht : RQ 268435456 t) : Spec Tryz.prog 40 #[ratV p r, ratV u t] [fRat p r, fRat u t] (ι := RA) (fun y => ratV y (encQ ((qv r) - (qv t)))) (fun y => True) (fun y => [fRat y (encQ ((qv r) - (qv t)))]) := by
 refine Spec.of_body _ (fn := Tryz.f40) k_ rfl k_ (fun X w0 => ?_)
 refine J.fact (φ := r.mag.length ≤ 140737488355328 ∧ r.den.length ≤ 140737488355328) (fun w h => by have h1 := (h _ (.head _)).1.1; have h2 := (h _ (.head _)).2.1; omega) (fun hl1 => ?_)
 refine J.fact (φ := t.mag.length ≤ 140737488355328 ∧ t.den.length ≤ 140737488355328) (fun w h => by have h1 := (h _ (.tail _ ((.head _)))).1.1; have h2 := (h _ (.tail _ ((.head _)))).2.1; omega) (fun hl2 => ?_)
 have hq := hr.2.2.2.2
 have hu := ht.2.2.2.2
 have hq1 := hq.1
 have hq2 := hq.2
 have hu1 := hu.1
 have hu2 := hu.2
 have hqb := hq.le (by decide : 268435456 ≤ 1099511627776)
 have hub := hu.le (by decide : 268435456 ≤ 1099511627776)
 refine J.sreg ?_
 refine RN.new (fun b => pt b) (.cells (ratC p r) 40 (0, 0)) k_ k_ (fun w => by kernel_rfl) (fun b3 => ?_)
 refine RN.new (fun b => pt b) (.cells (ratC u t) 40 (0, 0)) k_ k_ (fun w => by kernel_rfl) (fun b4 => ?_)
 refine RN.new (fun b => pt b) (.cells (ratC (⟨saNil, saNil⟩ : RA) (⟨false, ([] : List Nat), ([] : List Nat)⟩ : Raw)) 40 (0, 0)) k_ k_ (fun w => by kernel_rfl) (fun b5 => ?_)
 refine RN.fin k_ ?_
 refine J.seq ?_
 refine J.regD k_ [4] ?_
 refine RD.bq [(0, some 2), (1, some 1)] [4, 5, 6] [b4, b4, b4, b3, b3, b3] [(4, pt b5), (5, ratV p r), (6, ratV u t)] k_ k_ ?_
 refine RD.call (i := 2) (r03_Neg u t y_r03_Sub) [1] k_ k_ k_ k_ k_ rfl (fun y6 _ => ?_)
 refine RD.call (i := 3) (r03_Add_c2 p r y6 (-(qv t)) y_r03_Sub y_r03_Sub) [1, 0] k_ k_ k_ k_ k_ rfl (fun y7 _ => ?_)
 refine RD.last (i := 4) (some 0) [4] [b5, b5, b5] k_ k_ k_ (l' := [(4, pt b5)]) (M' := [(b5, .cells (ratC y7 (encQ ((qv r) + (-(qv t))))) 40 (0, 0)), (b4, .cells (ratC u t) 40 (0, 0)), (b3, .cells (ratC p r) 40 (0, 0))]) k_ ?_
 refine RD.done k_ ?_
 refine KN.next ?_
 have e_1 : (encQ ((qv r) - (qv t))) = (encQ ((qv r) + (-(qv t)))) := by rw [Rat.sub_eq_add_neg]
 refine J.ret (KR.ret (v := ratV y7 (encQ ((qv r) + (-(qv t))))) (y7) [some 0] [0] [b5, b5, b5] k_ v1_ (trivial) v1_)
theorem r03_Sub_c (p : RA) (r' : Rat) (u : RA) (t' : Rat) (hr : Q 268435456 r') (ht : Q 268435456 t') : Spec Tryz.prog 40 #[ratV p (encQ r'), ratV u (encQ t')] [fRat p (encQ r'), fRat u (encQ t')] (ι := RA) (fun y => ratV y (encQ (r' - t'))) (fun y => True) (fun y => [fRat y (encQ (r' - t'))]) := by
  have H := r03_Sub p (encQ r') u (encQ t') (RQ_enc hr) (RQ_enc ht)
  first | exact H | (simp only [qv_encQ, validQ_encQ] at H; exact H)
theorem r03_Same (p : RA) (r : Raw) (u : RA) (t : Raw) : Spec Tryz.prog 23 #[ratV p r, ratV u t] [fRat p r, fRat u t] (ι := Unit) (fun y => .bool (decide (r = t))) (fun y => True) (fun y => []) := by
 refine Spec.of_body _ (fn := Tryz.f23) k_ rfl k_ (fun X w0 => ?_)
 refine J.fact (φ := r.mag.length ≤ 140737488355328 ∧ r.den.length ≤ 140737488355328) (fun w h => by have h1 := (h _ (.head _)).1.1; have h2 := (h _ (.head _)).2.1; omega) (fun hl1 => ?_)
 refine J.fact (φ := t.mag.length ≤ 140737488355328 ∧ t.den.length ≤ 140737488355328) (fun w h => by have h1 := (h _ (.tail _ ((.head _)))).1.1; have h2 := (h _ (.tail _ ((.head _)))).2.1; omega) (fun hl2 => ?_)
 refine J.sreg ?_
 refine RN.new (fun b => pt b) (.cells (ratC p r) 40 (0, 0)) k_ k_ (fun w => by kernel_rfl) (fun b3 => ?_)
 refine RN.new (fun b => pt b) (.cells (ratC u t) 40 (0, 0)) k_ k_ (fun w => by kernel_rfl) (fun b4 => ?_)
 refine RN.bq (no 1) [2, 3] [] 3 [(2, pt b3), (3, pt b4)] k_ ?_
 refine RN.fs k_ ?_
 refine RN.bq [none, some 1, none, some 0] [2, 3, 6, 8] [b4, b4, b3, b3] 4 [(2, pt b3), (3, pt b4), (6, intV p.mag (⟨r.neg, r.mag⟩ : RawI)), (8, intV u.mag (⟨t.neg, t.mag⟩ : RawI))] k_ ?_
 refine RN.also (fU p.mag r.mag) (fun w h => (h _ (.head _)).1) ?_
 refine RN.also (fU u.mag t.mag) (fun w h => (h _ (.tail _ ((.tail _ ((.head _)))))).1) ?_
 refine RN.call (r02_Same p.mag ⟨r.neg, r.mag⟩ u.mag ⟨t.neg, t.mag⟩) [1, 0] k_ k_ k_ rfl (fun y5 _ => ?_)
 refine RN.bq (no 1) [2, 3, 10] [] 6 [(2, pt b3), (3, pt b4), (10, .bool (decide ((⟨r.neg, r.mag⟩ : RawI) = (⟨t.neg, t.mag⟩ : RawI))))] k_ ?_
 refine RN.split 10 (decide ((⟨r.neg, r.mag⟩ : RawI) = (⟨t.neg, t.mag⟩ : RawI))) k_ (fun c6 => ?_) (fun c6 => ?_)
 ·replace c6 := of_decide_eq_true c6
  refine RN.bq [none, some 1, none, some 0] [10, 12, 14] [b4, b3] 10 [(10, .bool true), (12, sl (p.den) (r.den).length), (14, sl (u.den) (t.den).length)] k_ ?_
  refine RN.also (fU (p.den) (r.den)) (fun w h => (h _ (.tail _ ((.tail _ ((.head _)))))).2) ?_
  refine RN.also (fU (u.den) (t.den)) (fun w h => (h _ (.tail _ ((.tail _ ((.tail _ ((.tail _ ((.head _)))))))))).2) ?_
  refine RN.call (r01_Same (p.den) (r.den) (u.den) (t.den)) [1, 0] k_ k_ k_ rfl (fun y7 _ => ?_)
  refine RN.bq (no 2) [4] [] 13 [(4, .bool (decide ((r.den) = (t.den))))] k_ ?_
  refine RN.fin k_ ?_
  have e_1 : (decide (r = t)) = (decide ((r.den) = (t.den))) := by rcases r with ⟨a, b, c⟩; rcases t with ⟨d, e, f⟩; simp_all
  refine J.ret (KR.ret (v := .bool (decide ((r.den) = (t.den)))) (()) [none] [] [] k_ v1_ (trivial) v1_)
 ·replace c6 := of_decide_eq_false c6
  refine RN.bq (no 7) [4] [] 13 [(4, .bool false)] k_ ?_
  refine RN.fin k_ ?_
  have e_1 : (decide (r = t)) = false := by rcases r with ⟨a, b, c⟩; rcases t with ⟨d, e, f⟩; simp_all
  refine J.ret (KR.ret (v := .bool false) (()) [none] [] [] k_ v1_ (trivial) v1_)
theorem r03_Abs (p : RA) (r : Raw) (hr : RQ 268435456 r) : Spec Tryz.prog 17 #[ratV p r] [fRat p r] (ι := RA) (fun y => ratV y (encQ (absQ (qv r)))) (fun y => True) (fun y => [fRat y (encQ (absQ (qv r)))]) := by
 refine Spec.of_body _ (fn := Tryz.f17) k_ rfl k_ (fun X w0 => ?_)
 refine J.fact (φ := r.mag.length ≤ 140737488355328 ∧ r.den.length ≤ 140737488355328) (fun w h => by have h1 := (h _ (.head _)).1.1; have h2 := (h _ (.head _)).2.1; omega) (fun hl1 => ?_)
 refine J.sreg ?_
 refine RN.new (fun b => pt b) (.cells (ratC p r) 40 (0, 0)) k_ k_ (fun w => by kernel_rfl) (fun b2 => ?_)
 refine RN.new (fun b => pt b) (.cells (ratC (⟨saNil, saNil⟩ : RA) (⟨false, ([] : List Nat), ([] : List Nat)⟩ : Raw)) 40 (0, 0)) k_ k_ (fun w => by kernel_rfl) (fun b3 => ?_)
 refine RN.fin k_ ?_
 refine J.seq ?_
 refine J.sreg ?_
 refine RN.bq [some 1] [1, 2, 3] [b2, b2, b2] 1 [(1, pt b2), (2, pt b3), (3, ratV p r)] k_ ?_
 refine RN.call (r03_Sign p r y_) [0] k_ k_ k_ rfl (fun y4 _ => ?_)
 refine RN.bq (no 1) [1, 2, 5] [] 3 [(1, pt b2), (2, pt b3), (5, .bool (decide ((Int.sign ((qv r).num)) < 0)))] k_ ?_
 refine RN.fin k_ ?_
 refine J.cond (decide ((Int.sign ((qv r).num)) < 0)) k_ (fun c5 => ?_) (fun c5 => ?_)
 ·replace c5 := of_decide_eq_true c5
  refine J.sreg ?_
  refine RN.bq [some 1] [2, 6] [b2, b2, b2] 1 [(2, pt b3), (6, ratV p r)] k_ ?_
  refine RN.call (r03_Neg p r y_) [0] k_ k_ k_ rfl (fun y6 _ => ?_)
  refine RN.bs [some 0] [2] [b3, b3, b3] 3 [(2, pt b3)] ([(b3, .cells (ratC y6 (encQ (-(qv r)))) 40 (0, 0)), (b2, .cells (ratC p r) 40 (0, 0))]) k_ ?_
  refine RN.fin k_ ?_
  have e_1 : (encQ (absQ (qv r))) = (encQ (-(qv r))) := by rw [absQ, if_pos (sign_lt.1 ‹_›)]
  refine J.ret (KR.next (KR.ret (v := ratV y6 (encQ (-(qv r)))) (y6) [some 0] [0] [b3, b3, b3] k_ v1_ (trivial) v1_))
 ·replace c5 := of_decide_eq_false c5
  refine J.skip ?_
  refine KN.next ?_
  refine J.sreg ?_
  refine RN.bq [some 1] [2, 8] [b2, b2, b2] 1 [(2, pt b3), (8, ratV p r)] k_ ?_
  refine RN.call (r03_Take p r y_) [0] k_ k_ k_ rfl (fun y7 _ => ?_)
  refine RN.bs [some 0] [2] [b3, b3, b3] 3 [(2, pt b3)] ([(b3, .cells (ratC y7 (encQ (qv r))) 40 (0, 0)), (b2, .cells (ratC p r) 40 (0, 0))]) k_ ?_
  refine RN.fin k_ ?_
  have e_1 : (encQ (absQ (qv r))) = (encQ (qv r)) := by rw [absQ, if_neg (mt sign_lt.2 ‹_›)]
  refine J.ret (KR.ret (v := ratV y7 (encQ (qv r))) (y7) [some 0] [0] [b3, b3, b3] k_ v1_ (trivial) v1_)
theorem r03_Abs_c (p : RA) (r' : Rat) (hr : Q 268435456 r') : Spec Tryz.prog 17 #[ratV p (encQ r')] [fRat p (encQ r')] (ι := RA) (fun y => ratV y (encQ (absQ r'))) (fun y => True) (fun y => [fRat y (encQ (absQ r'))]) := by
  have H := r03_Abs p (encQ r') (RQ_enc hr)
  first | exact H | (simp only [qv_encQ, validQ_encQ] at H; exact H)
theorem r03_Compare (p : RA) (r : Raw) (u : RA) (t : Raw) (hr : RQ 268435456 r) (ht : RQ 268435456 t) (hs : Q 268435456 ((qv r) - (qv t))) : Spec Tryz.prog 44 #[ratV p r, ratV u t] [fRat p r, fRat u t] (ι := Unit) (fun y => .int .i64 (Int.sign (((qv r) - (qv t)).num))) (fun y => True) (fun y => []) := by
 refine Spec.of_body _ (fn := Tryz.f44) k_ rfl k_ (fun X w0 => ?_)
 refine J.fact (φ := r.mag.length ≤ 140737488355328 ∧ r.den.length ≤ 140737488355328) (fun w h => by have h1 := (h _ (.head _)).1.1; have h2 := (h _ (.head _)).2.1; omega) (fun hl1 => ?_)
 refine J.fact (φ := t.mag.length ≤ 140737488355328 ∧ t.den.length ≤ 140737488355328) (fun w h => by have h1 := (h _ (.tail _ ((.head _)))).1.1; have h2 := (h _ (.tail _ ((.head _)))).2.1; omega) (fun hl2 => ?_)
 refine J.sreg ?_
 refine RN.new (fun b => pt b) (.cells (ratC p r) 40 (0, 0)) k_ k_ (fun w => by kernel_rfl) (fun b3 => ?_)
 refine RN.new (fun b => pt b) (.cells (ratC u t) 40 (0, 0)) k_ k_ (fun w => by kernel_rfl) (fun b4 => ?_)
 refine RN.bq (no 1) [2, 3] [] 3 [(2, pt b3), (3, pt b4)] k_ ?_
 refine RN.fs k_ ?_
 refine RN.bq [some 1, some 0] [5, 6] [b4, b4, b4, b3, b3, b3] 2 [(5, ratV p r), (6, ratV u t)] k_ ?_
 refine RN.call (r03_Sub p r u t y_ y_) [0, 1] k_ k_ k_ rfl (fun y5 _ => ?_)
 refine RN.call (r03_Sign_c y5 ((qv r) - (qv t)) y_) [0] k_ k_ k_ rfl (fun y6 _ => ?_)
 refine RN.bq (no 1) [4] [] 5 [(4, .int .i64 (Int.sign (((qv r) - (qv t)).num)))] k_ ?_
 refine RN.fin k_ ?_
 refine J.ret (KR.ret (v := .int .i64 (Int.sign (((qv r) - (qv t)).num))) (()) [none] [] [] k_ rfl (trivial) rfl)
theorem r03_Less (p : RA) (r : Raw) (u : RA) (t : Raw) (hr : RQ 268435456 r) (ht : RQ 268435456 t) (hs : Q 268435456 ((qv r) - (qv t))) : Spec Tryz.prog 16 #[ratV p r, ratV u t] [fRat p r, fRat u t] (ι := Unit) (fun y => .bool (decide ((qv r) < (qv t)))) (fun y => True) (fun y => []) := by
 refine Spec.of_body _ (fn := Tryz.f16) k_ rfl k_ (fun X w0 => ?_)
 refine J.fact (φ := r.mag.length ≤ 140737488355328 ∧ r.den.length ≤ 140737488355328) (fun w h => by have h1 := (h _ (.head _)).1.1; have h2 := (h _ (.head _)).2.1; omega) (fun hl1 => ?_)
 refine J.fact (φ := t.mag.length ≤ 140737488355328 ∧ t.den.length ≤ 140737488355328) (fun w h => by have h1 := (h _ (.tail _ ((.head _)))).1.1; have h2 := (h _ (.tail _ ((.head _)))).2.1; omega) (fun hl2 => ?_)
 refine J.sreg ?_
 refine RN.new (fun b => pt b) (.cells (ratC p r) 40 (0, 0)) k_ k_ (fun w => by kernel_rfl) (fun b3 => ?_)
 refine RN.new (fun b => pt b) (.cells (ratC u t) 40 (0, 0)) k_ k_ (fun w => by kernel_rfl) (fun b4 => ?_)
 refine RN.bq (no 1) [2, 3] [] 3 [(2, pt b3), (3, pt b4)] k_ ?_
 refine RN.fs k_ ?_
 refine RN.bq [some 1, some 0] [5, 6] [b4, b4, b4, b3, b3, b3] 2 [(5, ratV p r), (6, ratV u t)] k_ ?_
 refine RN.call (r03_Compare p r u t y_ y_ y_) [0, 1] k_ k_ k_ rfl (fun y5 _ => ?_)
 refine RN.bq (no 2) [4] [] 5 [(4, .bool (decide ((Int.sign (((qv r) - (qv t)).num)) < 0)))] k_ ?_
 refine RN.fin k_ ?_
 have e_1 : (decide ((qv r) < (qv t))) = (decide ((Int.sign (((qv r) - (qv t)).num)) < 0)) := by rw [decide_eq_decide, sub_sign_lt]
 refine J.ret (KR.ret (v := .bool (decide ((Int.sign (((qv r) - (qv t)).num)) < 0))) (()) [none] [] [] k_ v1_ (trivial) v1_)
theorem r03_Less_c (p : RA) (r' : Rat) (u : RA) (t' : Rat) (hr : Q 268435456 r') (ht : Q 268435456 t') (hs : Q 268435456 (r' - t')) : Spec Tryz.prog 16 #[ratV p (encQ r'), ratV u (encQ t')] [fRat p (encQ r'), fRat u (encQ t')] (ι := Unit) (fun y => .bool (decide (r' < t'))) (fun y => True) (fun y => []) := by
  have H := r03_Less p (encQ r') u (encQ t') (RQ_enc hr) (RQ_enc ht) (by first | exact hs | simpa only [qv_encQ, qv_encQ] using hs)
  first | exact H | (simp only [qv_encQ, validQ_encQ] at H; exact H)
theorem r03_Fraction (a : Int) (b : Int) (ha1 : -9223372036854775808 ≤ a) (ha2 : a < 9223372036854775808) (hb1 : -9223372036854775808 ≤ b) (hb2 : b < 9223372036854775808) (hb0 : b ≠ 0) : Spec Tryz.prog 12 #[.int .i64 a, .int .i64 b] [] (ι := RA) (fun y => ratV y (encQ (((a : Int) : Rat) / ((b : Int) : Rat)))) (fun y => True) (fun y => [fRat y (encQ (((a : Int) : Rat) / ((b : Int) : Rat)))]) := by
 refine Spec.of_body _ (fn := Tryz.f12) k_ rfl k_ (fun X w0 => ?_)
 have hla : (toL a.natAbs).length ≤ 2 := u64_len.2 (by omega)
 have hlb : (toL b.natAbs).length ≤ 2 := u64_len.2 (by omega)
 refine J.sreg ?_
 refine RN.new (fun b => pt b) (.cells (ratC (⟨saNil, saNil⟩ : RA) (⟨false, ([] : List Nat), ([] : List Nat)⟩ : Raw)) 40 (0, 0)) k_ k_ (fun w => by kernel_rfl) (fun b1 => ?_)
 refine RN.fs k_ ?_
 refine RN.bq (no 1) [1, 4, 5] [] 1 [(1, .int .i64 b), (4, pt b1), (5, .int .i64 a)] k_ ?_
 refine RN.call (r02_FromInt a y_ y_) [] k_ k_ k_ rfl (fun y2 _ => ?_)
 refine RN.bq (no 1) [4, 6, 7] [] 3 [(4, pt b1), (6, intV y2 (encZ a)), (7, .int .i64 b)] k_ ?_
 refine RN.call (r02_FromInt b y_ y_) [] k_ k_ k_ rfl (fun y3 _ => ?_)
 refine RN.call (r03_over y2 a y3 b y_ y_ y_) [1, 0] k_ k_ k_ rfl (fun y4 _ => ?_)
 refine RN.bs [some 0] [4] [b1, b1, b1] 6 [(4, pt b1)] ([(b1, .cells (ratC y4 (encQ (((a : Int) : Rat) / ((b : Int) : Rat)))) 40 (0, 0))]) k_ ?_
 refine RN.fin k_ ?_
 refine J.ret (KR.ret (v := ratV y4 (encQ (((a : Int) : Rat) / ((b : Int) : Rat)))) (y4) [some 0] [0] [b1, b1, b1] k_ rfl (trivial) rfl)
end Go.Proofs.YtbiifkfbkaejlaaGreat.E
namespace Go.Proofs.YtbiifkfbkaejlaaGreat.E
open Go Go.RowKit
set_option linter.unusedVariables false
set_option linter.unusedSimpArgs false
def loQ (a b : Rat) : Rat := if b < a then 0 else a
def hiQ (a b : Rat) : Rat := if b < a then 0 else b
theorem loQ_t {a b : Rat} (h : b < a) : loQ a b = 0 := if_pos h
theorem loQ_f {a b : Rat} (h : ¬ b < a) : loQ a b = a := if_neg h
theorem hiQ_t {a b : Rat} (h : b < a) : hiQ a b = 0 := if_pos h
theorem hiQ_f {a b : Rat} (h : ¬ b < a) : hiQ a b = b := if_neg h
theorem y_r04_Take {p : Prop} (h : p := by first | assumption | exact Lb_toL _ | omega | (simp; done) | exact hs) : p := h
theorem r04_Take (p : RA) (r : Raw) (u : RA) (t : Raw) (hr : RQ 268435456 r) (ht : RQ 268435456 t) (hs : Q 268435456 ((qv t) - (qv r))) : Spec Tryz.prog 39 #[.agg (ivC p r u t)] [fRat p r, fRat u t] (ι := RA × RA) (fun y => .agg (ivC y.1 (encQ (loQ (qv r) (qv t))) y.2 (encQ (hiQ (qv r) (qv t))))) (fun y => True) (fun y => [fRat y.1 (encQ (loQ (qv r) (qv t))), fRat y.2 (encQ (hiQ (qv r) (qv t)))]) := by
 refine Spec.of_body _ (fn := Tryz.f39) k_ rfl k_ (fun X w0 => ?_)
 refine J.fact (φ := r.mag.length ≤ 140737488355328 ∧ r.den.length ≤ 140737488355328) (fun w h => by have h1 := (h _ (.head _)).1.1; have h2 := (h _ (.head _)).2.1; omega) (fun hl1 => ?_)
 refine J.fact (φ := t.mag.length ≤ 140737488355328 ∧ t.den.length ≤ 140737488355328) (fun w h => by have h1 := (h _ (.tail _ ((.head _)))).1.1; have h2 := (h _ (.tail _ ((.head _)))).2.1; omega) (fun hl2 => ?_)
 refine J.sreg ?_
 refine RN.new (fun b => pt b) (.cells (ivC p r u t) 43 (0, 0)) k_ k_ (fun w => by kernel_rfl) (fun b3 => ?_)
 refine RN.new (fun b => pt b) (.cells (ivC (⟨saNil, saNil⟩ : RA) (⟨false, ([] : List Nat), ([] : List Nat)⟩ : Raw) (⟨saNil, saNil⟩ : RA) (⟨false, ([] : List Nat), ([] : List Nat)⟩ : Raw)) 43 (0, 0)) k_ k_ (fun w => by kernel_rfl) (fun b4 => ?_)
 refine RN.fin k_ ?_
 refine J.seq ?_
 refine J.sreg ?_
 refine RN.bq [none, some 1, none, some 1] [1, 2, 4, 6] [b3, b3, b3, b3, b3, b3] 4 [(1, pt b3), (2, pt b4), (4, ratV u t), (6, ratV p r)] k_ ?_
 refine RN.call (r03_Less u t p r y_r04_Take y_r04_Take y_r04_Take) [1, 0] k_ k_ k_ rfl (fun y5 _ => ?_)
 refine RN.fin k_ ?_
 refine J.cond (decide ((qv t) < (qv r))) k_ (fun c6 => ?_) (fun c6 => ?_)
 ·replace c6 := of_decide_eq_true c6
  refine J.sreg ?_
  refine RN.bs [none, some 0] [2] [b4, b4, b4, b4, b4, b4] 2 [(2, pt b4)] ([(b4, .cells (ivC (⟨saNil, saNil⟩ : RA) (⟨false, ([] : List Nat), ([] : List Nat)⟩ : Raw) (⟨saNil, saNil⟩ : RA) (⟨false, ([] : List Nat), ([] : List Nat)⟩ : Raw)) 43 (0, 0)), (b3, .cells (ivC p r u t) 43 (0, 0))]) k_ ?_
  refine RN.fin k_ ?_
  have e_1 : (loQ (qv r) (qv t)) = (0 : Rat) := by first | exact loQ_t ‹_› | exact hiQ_t ‹_›
  have e_2 : (hiQ (qv r) (qv t)) = (0 : Rat) := by first | exact loQ_t ‹_› | exact hiQ_t ‹_›
  refine J.also (fRat (⟨saNil, saNil⟩ : RA) (⟨false, ([] : List Nat), ([] : List Nat)⟩ : Raw)) (fun w h => ⟨fU_nil w, fU_nil w⟩) ?_
  refine J.ret (KR.next (KR.ret (v := .agg (ivC (⟨saNil, saNil⟩ : RA) (⟨false, ([] : List Nat), ([] : List Nat)⟩ : Raw) (⟨saNil, saNil⟩ : RA) (⟨false, ([] : List Nat), ([] : List Nat)⟩ : Raw))) (⟨⟨saNil, saNil⟩, ⟨saNil, saNil⟩⟩) [some 0] [0, 0] [b4, b4, b4, b4, b4, b4] k_ v2_ (trivial) v2_))
 ·replace c6 := of_decide_eq_false c6
  refine J.skip ?_
  refine KN.next ?_
  refine J.seq ?_
  refine J.regD k_ [7] ?_
  refine RD.bq [(0, none), (1, some 1), (3, none), (4, some 1)] [2, 10, 13] [b3, b3, b3, b3, b3, b3] [(2, pt b4), (10, ratV p r), (13, ratV u t)] k_ k_ ?_
  refine RD.call (i := 2) (r03_Take p r y_r04_Take) [0] k_ k_ k_ k_ k_ rfl (fun y7 _ => ?_)
  refine RD.call (i := 5) (r03_Take u t y_r04_Take) [2] k_ k_ k_ k_ k_ rfl (fun y8 _ => ?_)
  refine RD.bq (nl [6]) [2, 15] [] [(2, pt b4), (15, .agg (ivC y7 (encQ (qv r)) y8 (encQ (qv t))))] k_ k_ ?_
  refine RD.last (i := 7) (some 0) [2] [b4, b4, b4, b4, b4, b4] k_ k_ k_ (l' := [(2, pt b4)]) (M' := [(b4, .cells (ivC y7 (encQ (qv r)) y8 (encQ (qv t))) 43 (0, 0)), (b3, .cells (ivC p r u t) 43 (0, 0))]) k_ ?_
  refine RD.done k_ ?_
  refine KN.next ?_
  have e_1 : (loQ (qv r) (qv t) : Rat) = (qv r : Rat) := by first | exact loQ_f ‹_› | exact hiQ_f ‹_›
  have e_2 : (hiQ (qv r) (qv t) : Rat) = (qv t : Rat) := by first | exact loQ_f ‹_› | exact hiQ_f ‹_›
  refine J.ret (KR.ret (v := .agg (ivC y7 (encQ (qv r)) y8 (encQ (qv t)))) (⟨y7, y8⟩) [some 0] [1, 0] [b4, b4, b4, b4, b4, b4] k_ v2_ (trivial) v2_)
theorem r04_Take_c (p : RA) (r' : Rat) (u : RA) (t' : Rat) (hr : Q 268435456 r') (ht : Q 268435456 t') (hs : Q 268435456 (t' - r')) : Spec Tryz.prog 39 #[.agg (ivC p (encQ r') u (encQ t'))] [fRat p (encQ r'), fRat u (encQ t')] (ι := RA × RA) (fun y => .agg (ivC y.1 (encQ (loQ r' t')) y.2 (encQ (hiQ r' t')))) (fun y => True) (fun y => [fRat y.1 (encQ (loQ r' t')), fRat y.2 (encQ (hiQ r' t'))]) := by
  have H := r04_Take p (encQ r') u (encQ t') (RQ_enc hr) (RQ_enc ht) (by first | exact hs | simpa only [qv_encQ, qv_encQ] using hs)
  first | exact H | (simp only [qv_encQ, validQ_encQ] at H; exact H)
theorem Q_0 {k : Nat} (h : 1 ≤ k) : Q k (0 : Rat) := Q.le ⟨by decide +kernel, by decide +kernel⟩ h
theorem Q_loQ {a b : Rat} (h : Q 268435456 a) : Q 268435456 (loQ a b) := by unfold loQ; split; exact Q_0 (by decide); exact h
theorem Q_hiQ {a b : Rat} (h : Q 268435456 b) : Q 268435456 (hiQ a b) := by unfold hiQ; split; exact Q_0 (by decide); exact h
theorem y_r04_Width {p : Prop} (h : p := by first | assumption | exact Lb_toL _ | omega | (simp; done) | first | exact hs | exact Q_loQ hr.2.2.2.2 | exact Q_hiQ ht.2.2.2.2) : p := h
theorem r04_Width (p : RA) (r : Raw) (u : RA) (t : Raw) (hr : RQ 268435456 r) (ht : RQ 268435456 t) (hs : Q 268435456 ((qv t) - (qv r))) : Spec Tryz.prog 11 #[.agg (ivC p r u t)] [fRat p r, fRat u t] (ι := RA) (fun y => ratV y (encQ (hiQ (qv r) (qv t) - loQ (qv r) (qv t)))) (fun y => True) (fun y => [fRat y (encQ (hiQ (qv r) (qv t) - loQ (qv r) (qv t)))]) := by
 refine Spec.of_body _ (fn := Tryz.f11) k_ rfl k_ (fun X w0 => ?_)
 refine J.fact (φ := r.mag.length ≤ 140737488355328 ∧ r.den.length ≤ 140737488355328) (fun w h => by have h1 := (h _ (.head _)).1.1; have h2 := (h _ (.head _)).2.1; omega) (fun hl1 => ?_)
 refine J.fact (φ := t.mag.length ≤ 140737488355328 ∧ t.den.length ≤ 140737488355328) (fun w h => by have h1 := (h _ (.tail _ ((.head _)))).1.1; have h2 := (h _ (.tail _ ((.head _)))).2.1; omega) (fun hl2 => ?_)
 refine J.sreg ?_
 refine RN.new (fun b => pt b) (.cells (ivC p r u t) 43 (0, 0)) k_ k_ (fun w => by kernel_rfl) (fun b3 => ?_)
 refine RN.new (fun b => pt b) (.cells (ratC (⟨saNil, saNil⟩ : RA) (⟨false, ([] : List Nat), ([] : List Nat)⟩ : Raw)) 40 (0, 0)) k_ k_ (fun w => by kernel_rfl) (fun b4 => ?_)
 refine RN.fs k_ ?_
 refine RN.bq [some 1] [1, 2, 3] [b3, b3, b3, b3, b3, b3] 1 [(1, pt b3), (2, pt b4), (3, .agg (ivC p r u t))] k_ ?_
 refine RN.call (r04_Take p r u t y_r04_Width y_r04_Width y_r04_Width) [0, 1] k_ k_ k_ rfl (fun y5 _ => ?_)
 refine RN.bs [some 1] [1, 2] [b3, b3, b3, b3, b3, b3] 3 [(1, pt b3), (2, pt b4)] ([(b4, .cells (ratC (⟨saNil, saNil⟩ : RA) (⟨false, ([] : List Nat), ([] : List Nat)⟩ : Raw)) 40 (0, 0)), (b3, .cells (ivC y5.1 (encQ (loQ (qv r) (qv t))) y5.2 (encQ (hiQ (qv r) (qv t)))) 43 (0, 0))]) k_ ?_
 refine RN.fs k_ ?_
 refine RN.bq [none, some 1, none, some 1] [2, 6, 8] [b3, b3, b3, b3, b3, b3] 4 [(2, pt b4), (6, ratV y5.2 (encQ (hiQ (qv r) (qv t)))), (8, ratV y5.1 (encQ (loQ (qv r) (qv t))))] k_ ?_
 refine RN.call (r03_Sub_c y5.2 (hiQ (qv r) (qv t)) y5.1 (loQ (qv r) (qv t)) y_r04_Width y_r04_Width) [1, 0] k_ k_ k_ rfl (fun y6 _ => ?_)
 refine RN.bs [some 0] [2] [b4, b4, b4] 6 [(2, pt b4)] ([(b4, .cells (ratC y6 (encQ ((hiQ (qv r) (qv t)) - (loQ (qv r) (qv t))))) 40 (0, 0)), (b3, .cells (ivC y5.1 (encQ (loQ (qv r) (qv t))) y5.2 (encQ (hiQ (qv r) (qv t)))) 43 (0, 0))]) k_ ?_
 refine RN.fin k_ ?_
 have e_1 : (encQ (hiQ (qv r) (qv t) - loQ (qv r) (qv t))) = (encQ ((hiQ (qv r) (qv t)) - (loQ (qv r) (qv t)))) := by first | rfl | simp [*]
 refine J.ret (KR.ret (v := ratV y6 (encQ ((hiQ (qv r) (qv t)) - (loQ (qv r) (qv t))))) (y6) [some 0] [0] [b4, b4, b4] k_ v1_ (trivial) v1_)
theorem r04_Width_c (p : RA) (r' : Rat) (u : RA) (t' : Rat) (hr : Q 268435456 r') (ht : Q 268435456 t') (hs : Q 268435456 (t' - r')) : Spec Tryz.prog 11 #[.agg (ivC p (encQ r') u (encQ t'))] [fRat p (encQ r'), fRat u (encQ t')] (ι := RA) (fun y => ratV y (encQ (hiQ r' t' - loQ r' t'))) (fun y => True) (fun y => [fRat y (encQ (hiQ r' t' - loQ r' t'))]) := by
  have H := r04_Width p (encQ r') u (encQ t') (RQ_enc hr) (RQ_enc ht) (by first | exact hs | simpa only [qv_encQ, qv_encQ] using hs)
  first | exact H | (simp only [qv_encQ, validQ_encQ] at H; exact H)
end Go.Proofs.YtbiifkfbkaejlaaGreat.E
/- Appending ints and numbers to a slice of the call's own. -/
namespace Go.Proofs.YtbiifkfbkaejlaaGreat.E
open Go Go.RowKit
set_option linter.unusedVariables false
section
variable {P : Program} {ops : Array Oper} {n : Nat} {X : Nat → Prop} {w0 : World} {D : Nat → Prop} {l l' l1 : Slots} {M M' : List Blk} {F F' : List Fact} {Q : Exit → Act → World → Prop}
/-- A slice of ints that is read. -/
theorem q_iidx {i t m : Nat} {x ix : Operand} {K : IntKind} {i0 : Int} {s : SA} {xs : List Int} (j : Nat) (hF : pick F [j] = [fI s xs]) (hop : (opOf ops i).op = .indexAddr t x ix) (hx : rho l x = sl s xs.length) (hix : rho l ix = .int K i0)
    {e : Nat} (ht : P.underlying t = some (.slice e)) (hs : (P.info? e).map (·.size) = some 1) (hi : i0 = (m : Nat)) (hm : m < xs.length) :
    ∀ w, Now M F w → (execOp (rho l) (opOf ops i)).run P w = .ok (.value (.pointer (some (s.ad.add m)))) w := by
  intro w hw
  have := q_idx (M := M) (F := F) s.ad hop hx hix ht hs hi hm (fun w hw => ((hw.nowP hF (fI s xs) (by simp)).2 m hm).1) w hw
  rw [this, Nat.mul_one]
theorem q_iload {i T m : Nat} {x : Operand} {s : SA} {xs : List Int} (j : Nat) (hF : pick F [j] = [fI s xs]) (hop : (opOf ops i).op = .load T x) (hx : rho l x = .pointer (some (s.ad.add m)))
    (hT : (P.underlying T).map (fun d => match d with | .struct _ | .array _ _ => true | _ => false) = some false) (hm : m < xs.length) :
    ∀ w, Now M F w → (execOp (rho l) (opOf ops i)).run P w = .ok (.value (.int .i64 (xs.getD m 0))) w :=
  q_load hop hx hT (fun w hw => ((hw.nowP hF (fI s xs) (by simp)).2 m hm).2.2)
/-! elements of a slice of ints that the call has grown -/
theorem madeCells_rat (m : Nat) : madeCells #[.bool false, .slice none 0 0, .slice none 0 0] (m * 3) = encR (List.replicate m pr0) := by
  apply Array.ext
  · rw [encR_size, List.length_replicate]; simp [madeCells]
  · intro i h1 h2
    have hi : i < m * 3 := by rw [encR_size, List.length_replicate] at h2; exact h2
    have h3 : i / 3 < m := by omega
    have h4 : i % 3 < 3 := Nat.mod_lt _ (by decide)
    have h5 := encR_get (ps := List.replicate m pr0) (m := i / 3) (j := i % 3) (by simpa using h3) h4
    rw [show i / 3 * 3 + i % 3 = i from by omega] at h5
    have e : (List.replicate m pr0).getD (i / 3) pr0 = pr0 := by simp [List.getD_eq_getElem?_getD, h3]
    rw [e] at h5
    have h6 : (encR (List.replicate m pr0))[i]? = some (encR (List.replicate m pr0))[i] := by simp [h2]
    rw [h6] at h5
    have h7 : (madeCells #[.bool false, .slice none 0 0, .slice none 0 0] (m * 3))[i]? = some ((madeCells #[.bool false, .slice none 0 0, .slice none 0 0] (m * 3))[i]) := by simp [h1]
    apply Option.some.inj
    rw [h5, ← h7]
    have h8 : (madeCells #[.bool false, .slice none 0 0, .slice none 0 0] (m * 3))[i]? = some ((#[.bool false, .slice none 0 0, .slice none 0 0] : Array Value)[i % 3]!) := by
      unfold madeCells
      rw [Array.getElem?_map, Array.getElem?_range, if_pos hi]; rfl
    rw [h8]
    generalize i % 3 = j at *
    match j, h4 with
    | 0, _ => rfl
    | 1, _ => rfl
    | 2, _ => rfl
/-- make([]Rat, n). -/
theorem q_make3 {i t e by_ m : Nat} {v : Value} {K K' : IntKind} {x y : Operand} {n1 n2 : Int} (hop : (opOf ops i).op = .makeSlice t x y) (hx : rho l x = .int K n1) (hy : rho l y = .int K' n2) (hn1 : n1 = (m : Nat)) (hn2 : n2 = (m : Nat))
    (ht : P.underlying t = some (.slice e)) (hs : (P.info? e).map (fun i => (i.size, i.bytes, i.zero)) = some (3, by_, some v)) (hv : v.cells = #[.bool false, .slice none 0 0, .slice none 0 0]) (hn : by_ * m ≤ 281474976710656) (h63 : m ≤ 281474976710656) (w : World) :
    (execOp (rho l) (opOf ops i)).run P w = .ok (.value (.slice (some ⟨w.heap.size, 0, none⟩) m m)) (w.alloc (.cells (encR (List.replicate m pr0)) e (0, 0))) := by
  obtain ⟨inf, hi, hsz⟩ := Option.map_eq_some_iff.1 hs
  simp only [Prod.mk.injEq] at hsz
  obtain ⟨h1, h2, h3⟩ := hsz
  have hb : (inf.bytes : Int) * (m : Int) ≤ 281474976710656 := by
    rw [h2, ← Int.natCast_mul]; omega
  have := run_make (P := P) w t e inf v ht hi h3 K K' (m : Nat) (m : Nat) (by omega) (Int.le_refl _) hb (by omega)
  rw [h1, hv] at this
  simp only [Int.toNat_natCast] at this
  rw [madeCells_rat] at this
  unfold execOp
  simp only [hop, hx, hy, hn1, hn2]
  exact run_v this
theorem allRat_rep (m : Nat) (w : World) : allRat (List.replicate m pr0) w := fun p hp => by
  obtain rfl := List.eq_of_mem_replicate hp
  exact ⟨fU_nil w, fU_nil w⟩
theorem sl_len {s : SA} {a b : Nat} (h : a = b) : sl s a = sl s b := by rw [h]
theorem KN.shareG {go : Option GB} {cs : Array Value} {e : Nat} (M1 M2 : List Blk) (hM : M = M1 ++ (glM go cs e ++ M2)) (q : Fact) (hq : ∀ w, (∀ m ∈ glM go cs e, fBlk m.1 m.2 w) → (∀ p ∈ F, p w) → q w) (r : KN n X w0 D Q l (M1 ++ M2) (q :: F)) : KN n X w0 D Q l M F :=
  fun a w hs => r a w ⟨hs.defers, hs.size, hs.tmps, by
    have h := hs.mem.shareG hM
    refine ⟨h.frm, h.blk, h.own, h.nodup, h.xs, fun p hp => ?_⟩
    rcases List.mem_cons.1 hp with rfl | hp
    · exact fun w' ho => hq w' (h.facts _ List.mem_cons_self w' ho) (fun p hp => h.facts p (List.mem_cons_of_mem _ hp) w' ho)
    · exact h.facts p (List.mem_cons_of_mem _ hp)⟩
end
end Go.Proofs.YtbiifkfbkaejlaaGreat.E
namespace Go.Proofs.YtbiifkfbkaejlaaGreat.E
open Go Go.RowKit
set_option linter.unusedVariables false
set_option linter.unusedSimpArgs false
theorem tmod_b' {k : Int} : -61 < Int.tmod k 61 ∧ Int.tmod k 61 < 61 := by
  rw [Int.tmod_eq_emod]
  split <;> omega
theorem tmod_b {k n : Int} (hn : 0 < n) : -n < Int.tmod k n ∧ Int.tmod k n < n := by
  have h1 := Int.emod_nonneg k (by omega : n ≠ 0)
  have h2 := Int.emod_lt_of_pos k hn
  rw [Int.tmod_eq_emod]
  split <;> omega
theorem td61 {v : Int} (h1 : -9223372036854775808 ≤ v) (h2 : v < 9223372036854775808) : -9223372036854775808 ≤ Int.tdiv v 61 ∧ Int.tdiv v 61 < 9223372036854775808 := by
  have h := Int.tdiv_mul_add_tmod v 61
  have hb := tmod_b' (k := v)
  omega
theorem tmod_neg {k n : Int} (hn : 0 < n) (h : Int.tmod k n < 0) : Int.tmod k n + n = k % n := by
  rw [Int.tmod_eq_emod] at *
  have h1 := Int.emod_nonneg k (by omega : n ≠ 0)
  split at h
  · omega
  · rename_i h2
    rw [if_neg h2]
    omega
theorem tmod_nn {k n : Int} (hn : 0 < n) (h : ¬ Int.tmod k n < 0) : Int.tmod k n = k % n := by
  rw [Int.tmod_eq_emod] at *
  have h1 := Int.emod_lt_of_pos k hn
  split at h
  · rename_i h2; rw [if_pos h2]; omega
  · omega
theorem emod_b {k n : Int} (hn : 0 < n) : 0 ≤ k % n ∧ k % n < n := ⟨Int.emod_nonneg k (by omega), Int.emod_lt_of_pos k hn⟩
def numQ (v : Int) : Rat := ((v % 61 - 30 : Int) : Rat) / ((1 + (Int.tdiv v 61) % 4 : Int) : Rat)
theorem made_Mod (k : Int) (n : Int) (hn : 0 < n) (hn2 : n ≤ 4611686018427387904) : Spec Tryz.prog 13 #[.int .i64 k, .int .i64 n] [] (ι := Unit) (fun y => .int .i64 (k % n)) (fun y => True) (fun y => []) := by
 refine Spec.of_body _ (fn := Tryz.f13) k_ rfl k_ (fun X w0 => ?_)
 have hb := tmod_b (k := k) hn
 refine J.sreg ?_
 refine RN.bq (no 1) [0, 1] [] 1 [(0, .int .i64 k), (1, .int .i64 n)] k_ ?_
 refine RN.fs k_ ?_
 refine RN.bq (no 2) [1, 6, 7] [] 2 [(1, .int .i64 n), (6, .int .i64 k), (7, .int .i64 n)] k_ ?_
 refine RN.val _ k_ k_ (q_rem (T := 3) (T' := 3) (x := (.tmp 6)) (y := (.tmp 7)) (k := .i64) (a := k) (b := n) k_ k_ k_ (by omega)) ?_
 refine RN.bq (no 1) [1, 5] [] 4 [(1, .int .i64 n), (5, .int .i64 (Int.tmod k n))] k_ ?_
 refine RN.fin k_ ?_
 refine J.seq ?_
 refine J.sreg ?_
 refine RN.bq (no 2) [1, 5, 10] [] 2 [(1, .int .i64 n), (5, .int .i64 (Int.tmod k n)), (10, .bool (decide ((Int.tmod k n) < 0)))] k_ ?_
 refine RN.fin k_ ?_
 refine J.cond (decide ((Int.tmod k n) < 0)) k_ (fun c1 => ?_) (fun c1 => ?_)
 ·replace c1 := of_decide_eq_true c1
  refine J.regN ?_
  refine RN.bq (no 3) [13] [] 3 [(13, .int .i64 (IntKind.i64.wrap ((Int.tmod k n) + n)))] k_ ?_
  rw [show IntKind.i64.wrap ((Int.tmod k n) + n) = ((Int.tmod k n) + n) from by rw [IntKind.wrap_i64]; omega]
  refine RN.bq (no 1) [5] [] 4 [(5, .int .i64 ((Int.tmod k n) + n))] k_ ?_
  refine RN.fs k_ ?_
  refine RN.bq (no 2) [4] [] 2 [(4, .int .i64 ((Int.tmod k n) + n))] k_ ?_
  refine RN.fin k_ ?_
  have e_1 : (k % n : Int) = ((Int.tmod k n) + n : Int) := by first | exact (tmod_neg hn ‹_›).symm | exact (tmod_nn hn ‹_›).symm | exact tmod_neg hn ‹_› | exact tmod_nn hn ‹_›
  refine J.ret (KR.ret (v := .int .i64 ((Int.tmod k n) + n)) (()) [none] [] [] k_ v1_ (trivial) v1_)
 ·replace c1 := of_decide_eq_false c1
  refine J.skip ?_
  refine KN.next ?_
  refine J.sreg ?_
  refine RN.bq (no 2) [4] [] 2 [(4, .int .i64 (Int.tmod k n))] k_ ?_
  refine RN.fin k_ ?_
  have e_1 : (k % n : Int) = (Int.tmod k n : Int) := by first | exact (tmod_neg hn ‹_›).symm | exact (tmod_nn hn ‹_›).symm | exact tmod_neg hn ‹_› | exact tmod_nn hn ‹_›
  refine J.ret (KR.ret (v := .int .i64 (Int.tmod k n)) (()) [none] [] [] k_ v1_ (trivial) v1_)
theorem made_Number (v : Int) (h1 : -9223372036854775808 ≤ v) (h2 : v < 9223372036854775808) : Spec Tryz.prog 31 #[.int .i64 v] [] (ι := RA) (fun y => ratV y (encQ (numQ v))) (fun y => True) (fun y => [fRat y (encQ (numQ v))]) := by
 refine Spec.of_body _ (fn := Tryz.f31) k_ rfl k_ (fun X w0 => ?_)
 have h61 := emod_b (k := v) (n := 61) (by decide)
 have h4 := emod_b (k := Int.tdiv v 61) (n := 4) (by decide)
 refine J.sreg ?_
 refine RN.new (fun b => pt b) (.cells (ratC (⟨saNil, saNil⟩ : RA) (⟨false, ([] : List Nat), ([] : List Nat)⟩ : Raw)) 40 (0, 0)) k_ k_ (fun w => by kernel_rfl) (fun b1 => ?_)
 refine RN.fs k_ ?_
 refine RN.bq (no 1) [0, 2, 3] [] 1 [(0, .int .i64 v), (2, pt b1), (3, .int .i64 v)] k_ ?_
 refine RN.call (made_Mod v 61 y_ y_) [] k_ k_ k_ rfl (fun y2 _ => ?_)
 refine RN.bq (no 1) [0, 2, 5] [] 3 [(0, .int .i64 v), (2, pt b1), (5, .int .i64 (IntKind.i64.wrap ((v % 61) - 30)))] k_ ?_
 rw [show IntKind.i64.wrap ((v % 61) - 30) = ((v % 61) - 30) from by rw [IntKind.wrap_i64]; omega]
 refine RN.bq (no 2) [2, 5, 7] [] 5 [(2, pt b1), (5, .int .i64 ((v % 61) - 30)), (7, .int .i64 (IntKind.i64.wrap (Int.tdiv v 61)))] k_ ?_
 rw [show (IntKind.i64.wrap (Int.tdiv v 61)) = Int.tdiv v 61 from by have hb := td61 h1 h2; rw [IntKind.wrap_i64] <;> omega]
 refine RN.call (made_Mod (Int.tdiv v 61) 4 y_ y_) [] k_ k_ k_ rfl (fun y3 _ => ?_)
 refine RN.bq (no 1) [2, 5, 9] [] 7 [(2, pt b1), (5, .int .i64 ((v % 61) - 30)), (9, .int .i64 (IntKind.i64.wrap (1 + ((Int.tdiv v 61) % 4))))] k_ ?_
 rw [show IntKind.i64.wrap (1 + ((Int.tdiv v 61) % 4)) = (1 + ((Int.tdiv v 61) % 4)) from by rw [IntKind.wrap_i64]; omega]
 refine RN.call (r03_Fraction ((v % 61) - 30) (1 + ((Int.tdiv v 61) % 4)) y_ y_ y_ y_ y_) [] k_ k_ k_ rfl (fun y4 _ => ?_)
 refine RN.bs [some 0] [2] [b1, b1, b1] 9 [(2, pt b1)] ([(b1, .cells (ratC y4 (encQ (((((v % 61) - 30) : Int) : Rat) / (((1 + ((Int.tdiv v 61) % 4)) : Int) : Rat)))) 40 (0, 0))]) k_ ?_
 refine RN.fin k_ ?_
 have e_1 : (encQ (numQ v)) = (encQ (((((v % 61) - 30) : Int) : Rat) / (((1 + ((Int.tdiv v 61) % 4)) : Int) : Rat))) := by rfl
 refine J.ret (KR.ret (v := ratV y4 (encQ (((((v % 61) - 30) : Int) : Rat) / (((1 + ((Int.tdiv v 61) % 4)) : Int) : Rat)))) (y4) [some 0] [0] [b1, b1, b1] k_ v1_ (trivial) v1_)
theorem getI_mem {xs : List Int} {i : Nat} (h : i < xs.length) : xs.getD i 0 ∈ xs := by
  rw [List.getD_eq_getElem?_getD, List.getElem?_eq_getElem h]; exact List.getElem_mem h
theorem getI_ge {xs : List Int} {i : Nat} (h : xs.length ≤ i) : xs.getD i 0 = 0 := by simp [List.getD_eq_getElem?_getD, List.getElem?_eq_none h]
theorem made_At (s : SA) (xs : List Int) (i : Nat) : Spec Tryz.prog 14 #[sl s xs.length, .int .i64 ((i : Nat) : Int)] [fI s xs] (ι := Unit) (fun y => .int .i64 (xs.getD i 0)) (fun y => True) (fun y => []) := by
 refine Spec.of_body _ (fn := Tryz.f14) k_ rfl k_ (fun X w0 => ?_)
 refine J.fact (φ := xs.length ≤ 140737488355328) (fun w h => by have := (h _ (.head _)).1; omega) (fun hl1 => ?_)
 refine J.sreg ?_
 refine RN.bq (no 1) [0, 1] [] 1 [(0, sl s xs.length), (1, .int .i64 ((i : Nat) : Int))] k_ ?_
 refine RN.fin k_ ?_
 refine J.seq ?_
 refine J.sreg ?_
 refine RN.bq (no 4) [0, 1, 8] [] 4 [(0, sl s xs.length), (1, .int .i64 ((i : Nat) : Int)), (8, .bool (decide (((i : Nat) : Int) < ((xs.length : Nat) : Int))))] k_ ?_
 refine RN.fin k_ ?_
 refine J.cond (decide (((i : Nat) : Int) < ((xs.length : Nat) : Int))) k_ (fun c2 => ?_) (fun c2 => ?_)
 ·replace c2 := of_decide_eq_true c2
  refine J.sreg ?_
  refine RN.bq (no 2) [9, 10] [] 2 [(9, sl s xs.length), (10, .int .i64 ((i : Nat) : Int))] k_ ?_
  refine RN.val _ k_ k_ (q_iidx (t := 22) (x := (.tmp 9)) (ix := (.tmp 10)) (K := .i64) (i0 := ((i : Nat) : Int)) (m := i) (e := 3) 0 rfl k_ k_ k_ k_ k_ (by omega) x_) ?_
  refine RN.val _ k_ k_ (q_iload (T := 3) (x := (.tmp 11)) (m := i) (s := s) (xs := xs) 0 rfl k_ k_ k_ x_) ?_
  refine RN.bq (no 1) [4] [] 5 [(4, .int .i64 (xs.getD i 0))] k_ ?_
  refine RN.fin k_ ?_
  refine J.ret (KR.next (KR.ret (v := .int .i64 (xs.getD i 0)) (()) [none] [] [] k_ rfl (trivial) rfl))
 ·replace c2 := of_decide_eq_false c2
  refine J.skip ?_
  refine KN.next ?_
  refine J.sreg ?_
  refine RN.bq (no 1) [4] [] 1 [(4, .int .i64 0)] k_ ?_
  refine RN.fin k_ ?_
  have e_1 : (xs.getD i 0 : Int) = (0 : Int) := by first | rfl | exact getI_ge (by omega) | exact (getI_ge (by omega)).symm
  refine J.ret (KR.ret (v := .int .i64 0) (()) [none] [] [] k_ v1_ (trivial) v1_)
theorem Q_lo2 {a b : Rat} {k : Nat} (h : Q k a) (hk : 1 ≤ k) : Q k (loQ a b) := by unfold loQ; split; exact Q_0 hk; exact h
theorem Q_hi2 {a b : Rat} {k : Nat} (h : Q k b) (hk : 1 ≤ k) : Q k (hiQ a b) := by unfold hiQ; split; exact Q_0 hk; exact h
theorem mod_nat {k : Int} {n : Nat} (h : 0 < n) : ∃ m : Nat, k % ((n : Nat) : Int) = ((m : Nat) : Int) ∧ m < n := by
  have hb := emod_b (k := k) (n := ((n : Nat) : Int)) (by omega)
  exact ⟨(k % ((n : Nat) : Int)).toNat, by rw [Int.toNat_of_nonneg hb.1], by omega⟩
end Go.Proofs.YtbiifkfbkaejlaaGreat.E
/- Lists of elements of any kind: what is read, what is made, what grows. -/
namespace Go.Proofs.YtbiifkfbkaejlaaGreat.E
open Go Go.RowKit
set_option linter.unusedVariables false
set_option linter.unusedSimpArgs false
/-- How an element lies in memory: its cells, and what is known behind them. -/
structure El (α : Type) where
  sz : Nat
  pos : 0 < sz
  d : α
  enc : α → Array Value
  size : ∀ a, (enc a).size = sz
  one : ∀ a, ∀ u ∈ (enc a).toList, oneC u = true
  sub : α → Fact
variable {α : Type}
def fL (E : El α) (s : SA) (xs : List α) : Fact := fun w => (xs.length ≤ s.c ∧ xs.length ≤ 140737488355328) ∧
  (∀ i, i < xs.length → s.A = some s.ad ∧ s.ad.spot = none ∧ (∀ j, j < E.sz → w.cell? (s.ad.add (i * E.sz + j)) = (E.enc (xs.getD i E.d))[j]?) ∧ E.sub (xs.getD i E.d) w)
def encL (E : El α) (xs : List α) : Array Value := (xs.flatMap fun a => (E.enc a).toList).toArray
def allL (E : El α) (xs : List α) : Fact := fun w => ∀ a ∈ xs, E.sub a w
theorem encL_app (E : El α) (xs ys : List α) : encL E xs ++ encL E ys = encL E (xs ++ ys) := by apply Array.ext'; simp [encL]
theorem encL_one (E : El α) (a : α) : encL E [a] = E.enc a := by apply Array.ext'; simp [encL]
theorem encL_size (E : El α) (xs : List α) : (encL E xs).size = xs.length * E.sz := by
  induction xs with
  | nil => simp [encL]
  | cons a r ih =>
    have e : encL E (a :: r) = encL E [a] ++ encL E r := by rw [encL_app]; rfl
    rw [e, Array.size_append, ih, encL_one, E.size, List.length_cons, Nat.succ_mul, Nat.add_comm]
theorem encL_get (E : El α) {xs : List α} : ∀ {m j : Nat}, m < xs.length → j < E.sz → (encL E xs)[m * E.sz + j]? = (E.enc (xs.getD m E.d))[j]? := by
  induction xs with
  | nil => intro m j h; simp at h
  | cons a r ih =>
    intro m j h hj
    have e : encL E (a :: r) = encL E [a] ++ encL E r := by rw [encL_app]; rfl
    rw [e, encL_one]
    cases m with
    | zero => rw [Nat.zero_mul, Nat.zero_add, Array.getElem?_append_left (by rw [E.size]; exact hj)]; simp
    | succ m =>
      rw [Nat.succ_mul, Array.getElem?_append_right (by rw [E.size]; omega), E.size, show m * E.sz + E.sz + j - E.sz = m * E.sz + j by omega, ih (by simpa using h) hj]
      simp
theorem encL_oneC (E : El α) (xs : List α) : ∀ u ∈ (encL E xs).toList, oneC u = true := fun u hu => by
  simp only [encL, List.toList_toArray, List.mem_flatMap] at hu
  obtain ⟨a, _, h⟩ := hu
  exact E.one a u h
theorem fL_nil (E : El α) : ∀ w, fL E saNil [] w := fun w => ⟨⟨Nat.le_refl _, Nat.zero_le _⟩, fun i h => absurd h (Nat.not_lt_zero _)⟩
theorem allL_nil (E : El α) : ∀ w, allL E [] w := fun w p hp => by cases hp
theorem allL_cons {E : El α} {a : α} {xs : List α} {w : World} (h : E.sub a w) (ht : allL E xs w) : allL E (a :: xs) w := fun q hq => by
  rcases List.mem_cons.1 hq with rfl | hq
  · exact h
  · exact ht q hq
theorem allL_app {E : El α} {xs ys : List α} {w : World} (h : allL E xs w) (hq : allL E ys w) : allL E (xs ++ ys) w := fun x hx => by
  rcases List.mem_append.1 hx with hx | hx
  · exact h x hx
  · exact hq x hx
theorem getD_mem {xs : List α} {d : α} {i : Nat} (h : i < xs.length) : xs.getD i d ∈ xs := by
  rw [List.getD_eq_getElem?_getD, List.getElem?_eq_getElem h]; exact List.getElem_mem h
theorem allL_get {E : El α} {xs : List α} {w : World} (h : allL E xs w) {i : Nat} (hi : i < xs.length) : E.sub (xs.getD i E.d) w := h _ (getD_mem hi)
theorem fL_elem {E : El α} {s : SA} {xs : List α} {w : World} (h : fL E s xs w) {m : Nat} (hm : m < xs.length) : E.sub (xs.getD m E.d) w := (h.2 m hm).2.2.2
theorem fL_blk {E : El α} {b e : Nat} {xs : List α} {rest : Array Value} {fz : Nat × Nat} {c : Nat} {w : World} (h : fBlk b (.cells (encL E xs ++ rest) e fz) w) (ha : allL E xs w) (hc : xs.length ≤ c) (hl : xs.length ≤ 140737488355328) : fL E ⟨some ⟨b, 0, none⟩, c⟩ xs w := by
  refine ⟨⟨hc, hl⟩, fun i hi => ⟨rfl, rfl, fun j hj => ?_, allL_get ha hi⟩⟩
  show w.cell? ((⟨b, 0, none⟩ : Addr).add (i * E.sz + j)) = _
  have hlt : i * E.sz + j < xs.length * E.sz := by
    have : (i + 1) * E.sz ≤ xs.length * E.sz := Nat.mul_le_mul_right _ hi
    rw [Nat.succ_mul] at this; omega
  rw [add0, cell_of (a := ⟨b, i * E.sz + j, none⟩) h rfl, Array.getElem?_append_left (by rw [encL_size]; exact hlt), encL_get E hi hj]
theorem fL_own {E : El α} {b e c : Nat} {xs : List α} {fz : Nat × Nat} {w : World} (h : fBlk b (.cells (encL E xs) e fz) w) (ha : allL E xs w) (hc : xs.length ≤ c) (hl : xs.length ≤ 140737488355328) : fL E ⟨some ⟨b, 0, none⟩, c⟩ xs w :=
  fL_blk (rest := #[]) (by simpa using h) ha hc hl
theorem fL_gl {E : El α} {sz : Nat} {go : Option GB} {xs : List α} {e : Nat} {w : World} (h : ∀ m ∈ glM go (encL E xs) e, fBlk m.1 m.2 w) (ha : allL E xs w) (hok : gOk sz go xs.length) (hl : xs.length ≤ 140737488355328) : fL E (glS go) xs w := by
  cases go with
  | none => have : xs = [] := List.length_eq_zero_iff.1 hok; subst this; exact fL_nil E w
  | some g => exact fL_blk (h (g.b, .cells (encL E xs ++ g.rest) e (0, 0)) (by simp [glM])) ha hok.2 hl
/-! the kinds -/
def elR : El PR := ⟨3, by decide, pr0, fun p => ratC p.1 p.2, fun _ => rfl, fun _ u hu => by simp [ratC] at hu; rcases hu with rfl | rfl | rfl <;> rfl, fun p => fRat p.1 p.2⟩
abbrev PRow := SA × List PR
def elM : El PRow := ⟨1, by decide, (saNil, []), fun p => #[sl p.1 p.2.length], fun _ => rfl, fun _ u hu => by simp [sl] at hu; subst hu; rfl, fun p => fRats p.1 p.2⟩
section
variable {P : Program} {ops : Array Oper} {n : Nat} {X : Nat → Prop} {w0 : World} {D : Nat → Prop} {l l' l1 : Slots} {M M' : List Blk} {F F' : List Fact} {Q : Exit → Act → World → Prop}
theorem q_lidx {i t m sz : Nat} {x ix : Operand} {K : IntKind} {i0 : Int} {s : SA} {E : El α} {xs : List α} (j : Nat) (hF : pick F [j] = [fL E s xs]) (hsz : E.sz = sz) (hop : (opOf ops i).op = .indexAddr t x ix) (hx : rho l x = sl s xs.length) (hix : rho l ix = .int K i0)
    {e : Nat} (ht : P.underlying t = some (.slice e)) (hs : (P.info? e).map (·.size) = some sz) (hi : i0 = (m : Nat)) (hm : m < xs.length) :
    ∀ w, Now M F w → (execOp (rho l) (opOf ops i)).run P w = .ok (.value (.pointer (some (s.ad.add (m * sz))))) w :=
  q_idx s.ad hop hx hix ht hs hi hm (fun w hw => ((hw.nowP hF (fL E s xs) (by simp)).2 m hm).1)
/-- An element of several cells. -/
theorem q_lload {i T m sz : Nat} {x : Operand} {s : SA} {E : El α} {xs : List α} (j : Nat) (hF : pick F [j] = [fL E s xs]) (hsz : E.sz = sz) (hop : (opOf ops i).op = .load T x) (hx : rho l x = .pointer (some (s.ad.add (m * sz))))
    (hT : (P.underlying T).map (fun d => match d with | .struct _ | .array _ _ => true | _ => false) = some true) (hs : (P.info? T).map (·.size) = some sz) (hm : m < xs.length) :
    ∀ w, Now M F w → (execOp (rho l) (opOf ops i)).run P w = .ok (.value (.agg (E.enc (xs.getD m E.d)))) w := by
  subst hsz
  have := q_loadN (M := M) (F := F) (cs := (E.enc (xs.getD m E.d)).toList) hop hx hT (by rw [hs]; simp [E.size]) (fun w hw k hk => by
    have h := (hw.nowP hF (fL E s xs) (by simp)).2 m hm
    have hk' : k < E.sz := by simpa [E.size] using hk
    rw [add_add h.2.1, h.2.2.1 k hk']
    simp [E.size, hk'])
  simpa using this
/-- An element of one cell. -/
theorem q_lload1 {i T m : Nat} {x : Operand} {s : SA} {E : El α} {xs : List α} {v : Value} (j : Nat) (hF : pick F [j] = [fL E s xs]) (hsz : E.sz = 1) (hop : (opOf ops i).op = .load T x) (hx : rho l x = .pointer (some (s.ad.add (m * 1))))
    (hT : (P.underlying T).map (fun d => match d with | .struct _ | .array _ _ => true | _ => false) = some false) (hv : E.enc (xs.getD m E.d) = #[v]) (hm : m < xs.length) :
    ∀ w, Now M F w → (execOp (rho l) (opOf ops i)).run P w = .ok (.value v) w :=
  q_load hop hx hT (fun w hw => by
    have h := ((hw.nowP hF (fL E s xs) (by simp)).2 m hm).2.2.1 0 (by omega)
    rw [hsz] at h
    rw [hv] at h
    simpa using h)
theorem ot_lapp {o : Oper} {T e by_ mi b k sz : Nat} {x y : Operand} {go : Option GB} {E : El α} {xs ys : List α} {c e' : Nat} {fz : Nat × Nat} {z : Value} (M1 M2 : List Blk) (hB : M[mi]? = some (b, .cells (encL E ys) e' fz))
    (hM : M = M1 ++ (glM go (encL E xs) e ++ M2)) (hsz : E.sz = sz) (hkd : (knownOp l o.op && dstOk n o.dst) = true) (hop : o.op = .call { callee := .builtin .append, args := #[x, y], argTypes := #[T, T] })
    (hx : rho l x = sl (glS go) xs.length) (hy : rho l y = .slice (some ⟨b, 0, none⟩) k c) (hT : P.underlying T = some (.slice e)) (hi : (P.info? e).map (fun i => (i.size, i.bytes, i.zero)) = some (sz, by_, some z)) (hz : z.cells.size = sz)
    (hk : ys.length = k) (hk0 : 0 < k) (hok : gOk sz go xs.length) (hb : (xs.length + k) * by_ ≤ 140737488355328) (h63 : xs.length + k ≤ 140737488355328) :
    OT P n X w0 D o Q l M F (ι := GB) (fun g => gOk sz (some g) (xs ++ ys).length) (fun g => putL o.dst (sl (glS (some g)) (xs ++ ys).length) l) (fun g => M1 ++ (glM (some g) (encL E (xs ++ ys)) e ++ M2)) (fun _ => F) := by
  have h := OT.app (P := P) (n := n) (X := X) (w0 := w0) (D := D) (F := F) (Q := Q) (type := 0) (new := (encL E ys).toList) M1 M2 hM hkd hop hx hy hT hi hz (by rw [encL_size, hsz]) (by rw [Array.length_toList, encL_size, hk, hsz])
    (fun w hw j v hj => by rw [add0, cell_of (a := ⟨b, j, none⟩) (hw.blk _ (List.mem_of_getElem? hB)) rfl]; simpa using hj) (encL_oneC E ys) hok hk0 hb h63
  simp only [Array.toArray_toList, encL_app] at h
  have e : xs.length + k = (xs ++ ys).length := by rw [List.length_append, hk]
  rw [e] at h
  exact h
end
end Go.Proofs.YtbiifkfbkaejlaaGreat.E
/- Rows of one's own: a list of slices whose blocks are owned; stores of elements of any kind. -/
namespace Go.Proofs.YtbiifkfbkaejlaaGreat.E
open Go Go.RowKit
set_option linter.unusedVariables false
set_option linter.unusedSimpArgs false
abbrev PO := Option GB × List PR
def po0 : PO := (none, [])
def elO : El PO := ⟨1, by decide, po0, fun p => #[sl (glS p.1) p.2.length], fun _ => rfl, fun _ u hu => by simp [sl] at hu; subst hu; rfl, fun _ _ => True⟩
abbrev encO (xs : List PO) := encL elO xs
def rowsM (e : Nat) (ms : List PO) : List Blk := ms.flatMap fun p => glM p.1 (encR p.2) e
def okO (ms : List PO) : Prop := ∀ p ∈ ms, gOk 3 p.1 p.2.length ∧ p.2.length ≤ 140737488355328
def allO (ms : List PO) : Fact := fun w => ∀ p ∈ ms, allRat p.2 w
def unO (ms : List PO) : List PRow := ms.map fun p => (glS p.1, p.2)
theorem encR_L (xs : List PR) : encR xs = encL elR xs := rfl
theorem rowsM_app (e : Nat) (a b : List PO) : rowsM e (a ++ b) = rowsM e a ++ rowsM e b := by simp [rowsM]
theorem rowsM_split (e : Nat) {ms : List PO} {i : Nat} (h : i < ms.length) : rowsM e ms = rowsM e (ms.take i) ++ (glM (ms.getD i po0).1 (encR (ms.getD i po0).2) e ++ rowsM e (ms.drop (i + 1))) := by
  have e1 : ms = ms.take i ++ (ms.getD i po0 :: ms.drop (i + 1)) := by
    rw [List.getD_eq_getElem?_getD, List.getElem?_eq_getElem h, Option.getD_some, ← List.drop_eq_getElem_cons h, List.take_append_drop]
  conv => lhs; rw [e1, rowsM_app]
  simp [rowsM]
theorem rowsM_set (e : Nat) {ms : List PO} {i : Nat} (h : i < ms.length) (p : PO) : rowsM e (ms.set i p) = rowsM e (ms.take i) ++ (glM p.1 (encR p.2) e ++ rowsM e (ms.drop (i + 1))) := by
  rw [List.set_eq_take_append_cons_drop, if_pos h, rowsM_app]
  simp [rowsM]
theorem okO_get {ms : List PO} (h : okO ms) {i : Nat} (hi : i < ms.length) : gOk 3 (ms.getD i po0).1 (ms.getD i po0).2.length ∧ (ms.getD i po0).2.length ≤ 140737488355328 := h _ (getD_mem hi)
theorem okO_set {ms : List PO} (h : okO ms) {i j : Nat} (hi : i < ms.length) (q : PR) : okO (ms.set i ((ms.getD i po0).1, (ms.getD i po0).2.set j q)) := fun p hp => by
  rcases List.mem_or_eq_of_mem_set hp with hp | rfl
  · exact h p hp
  · rw [List.length_set]; exact okO_get h hi
theorem okO_nil : okO [] := fun p hp => by cases hp
theorem okO_cons {p : PO} {ms : List PO} (h : gOk 3 p.1 p.2.length) (hl : p.2.length ≤ 140737488355328) (hr : okO ms) : okO (p :: ms) := fun q hq => by
  rcases List.mem_cons.1 hq with rfl | hq
  · exact ⟨h, hl⟩
  · exact hr q hq
theorem allO_nil (w : World) : allO [] w := fun p hp => by cases hp
theorem allO_cons {p : PO} {ms : List PO} {w : World} (h : allRat p.2 w) (hr : allO ms w) : allO (p :: ms) w := fun q hq => by
  rcases List.mem_cons.1 hq with rfl | hq
  · exact h
  · exact hr q hq
theorem allO_set {ms : List PO} {w : World} (h : allO ms w) {i j : Nat} (hi : i < ms.length) {q : PR} (hq : fRat q.1 q.2 w) : allO (ms.set i ((ms.getD i po0).1, (ms.getD i po0).2.set j q)) w := fun p hp => by
  rcases List.mem_or_eq_of_mem_set hp with hp | rfl
  · exact h p hp
  · intro r hr
    rcases List.mem_or_eq_of_mem_set hr with hr | rfl
    · exact h _ (getD_mem hi) r hr
    · exact hq
/-- The outer list knows places and lengths alone. -/
theorem fLO_shape {s : SA} {ms ms' : List PO} {w : World} (h : fL elO s ms w) (hl : ms'.length = ms.length) (hs : ∀ i, i < ms.length → (ms'.getD i po0).1 = (ms.getD i po0).1 ∧ (ms'.getD i po0).2.length = (ms.getD i po0).2.length) : fL elO s ms' w := by
  refine ⟨by rw [hl]; exact h.1, fun i hi => ?_⟩
  have hi' : i < ms.length := by rw [← hl]; exact hi
  have h1 := h.2 i hi'
  refine ⟨h1.1, h1.2.1, fun j hj => (h1.2.2.1 j hj).trans ?_, trivial⟩
  show (#[sl (glS (ms.getD i po0).1) (ms.getD i po0).2.length])[j]? = (#[sl (glS (ms'.getD i po0).1) (ms'.getD i po0).2.length])[j]?
  rw [(hs i hi').1, (hs i hi').2]
theorem getDS_eq {α : Type} {d a : α} {xs : List α} {i : Nat} (h : i < xs.length) : (xs.set i a).getD i d = a := by simp [List.getD_eq_getElem?_getD, h]
theorem getDS_ne {α : Type} {d a : α} {xs : List α} {i k : Nat} (h : i ≠ k) : (xs.set i a).getD k d = xs.getD k d := by simp [List.getD_eq_getElem?_getD, List.getElem?_set_ne h]
theorem shape_set {ms : List PO} {i j : Nat} (hi : i < ms.length) (q : PR) : ∀ k, k < ms.length → ((ms.set i ((ms.getD i po0).1, (ms.getD i po0).2.set j q)).getD k po0).1 = (ms.getD k po0).1 ∧ ((ms.set i ((ms.getD i po0).1, (ms.getD i po0).2.set j q)).getD k po0).2.length = (ms.getD k po0).2.length := fun k hk => by
  rcases Nat.decEq i k with hne | rfl
  · rw [getDS_ne hne]; exact ⟨rfl, rfl⟩
  · rw [getDS_eq hi]; exact ⟨rfl, List.length_set⟩
theorem fLO_set {s : SA} {ms : List PO} {w : World} (h : fL elO s ms w) {i j : Nat} (hi : i < ms.length) (q : PR) : fL elO s (ms.set i ((ms.getD i po0).1, (ms.getD i po0).2.set j q)) w :=
  fLO_shape h List.length_set (shape_set hi q)
theorem fLM_of {e : Nat} {s : SA} {ms : List PO} {w : World} (h : fL elO s ms w) (hb : ∀ m ∈ rowsM e ms, fBlk m.1 m.2 w) (ha : allO ms w) (ho : okO ms) : fL elM s (unO ms) w := by
  refine ⟨by simp only [unO, List.length_map]; exact h.1, fun i hi => ?_⟩
  have hi' : i < ms.length := by simpa [unO] using hi
  have h1 := h.2 i hi'
  have eg : (unO ms).getD i elM.d = (glS (ms.getD i po0).1, (ms.getD i po0).2) := by simp [unO, List.getD_eq_getElem?_getD, List.getElem?_eq_getElem hi']
  rw [eg]
  refine ⟨h1.1, h1.2.1, h1.2.2.1, ?_⟩
  show fRats (glS (ms.getD i po0).1) (ms.getD i po0).2 w
  refine fRats_gl (e := e) (fun m hm => hb m ?_) (ha _ (getD_mem hi')) (okO_get ho hi').1 (okO_get ho hi').2
  rw [rowsM_split e hi']
  exact List.mem_append_right _ (List.mem_append_left _ hm)
def setSeg : Array Value → Nat → List Value → Array Value
  | c, _, [] => c
  | c, p, v :: r => setSeg (c.setIfInBounds p v) (p + 1) r
theorem setSeg_mid : ∀ (vs A B C : List Value), B.length = vs.length → setSeg (A ++ B ++ C).toArray A.length vs = (A ++ vs ++ C).toArray
  | [], A, B, C, h => by obtain rfl := List.length_eq_zero_iff.1 h; rfl
  | v :: r, A, [], C, h => by simp at h
  | v :: r, A, b :: B, C, h => by
    have e : (A ++ b :: B ++ C).toArray.setIfInBounds A.length v = ((A ++ [v]) ++ B ++ C).toArray := by
      apply Array.ext'
      simp
    simp only [setSeg, e]
    have ih := setSeg_mid r (A ++ [v]) B C (by simpa using h)
    rw [List.length_append, List.length_singleton] at ih
    rw [ih]; simp
theorem setSeg_enc {α : Type} (E : El α) {xs : List α} {m : Nat} (hm : m < xs.length) (a : α) (rest : Array Value) : setSeg (encL E xs ++ rest) (m * E.sz) (E.enc a).toList = encL E (xs.set m a) ++ rest := by
  have e1 : xs = xs.take m ++ (xs[m] :: xs.drop (m + 1)) := by rw [← List.drop_eq_getElem_cons hm, List.take_append_drop]
  have hL : encL E xs ++ rest = ((encL E (xs.take m)).toList ++ (E.enc xs[m]).toList ++ ((encL E (xs.drop (m + 1))).toList ++ rest.toList)).toArray := by
    have e2 : encL E xs = encL E (xs.take m) ++ (encL E [xs[m]] ++ encL E (xs.drop (m + 1))) := by rw [encL_app, encL_app]; exact congrArg (encL E) e1
    rw [e2, encL_one]
    apply Array.ext'; simp
  have hsz : (encL E (xs.take m)).toList.length = m * E.sz := by
    rw [Array.length_toList, encL_size, List.length_take, Nat.min_eq_left (Nat.le_of_lt hm)]
  have h := setSeg_mid (E.enc a).toList (encL E (xs.take m)).toList (E.enc xs[m]).toList ((encL E (xs.drop (m + 1))).toList ++ rest.toList) (by simp [E.size])
  rw [hsz] at h
  rw [hL, h, List.set_eq_take_append_cons_drop, if_pos hm]
  apply Array.ext'; simp [encL]
/-! canonical intervals and numbers -/
abbrev QR := RA × Rat
abbrev QV := QR × QR
def qr0 : QR := (⟨saNil, saNil⟩, 0)
def qv0 : QV := (qr0, qr0)
def elr : El QR := ⟨3, by decide, qr0, fun p => ratC p.1 (encQ p.2), fun _ => rfl, fun _ u hu => by simp [ratC] at hu; rcases hu with rfl | rfl | rfl <;> rfl, fun p => fRat p.1 (encQ p.2)⟩
def elv : El QV := ⟨6, by decide, qv0, fun p => ivC p.1.1 (encQ p.1.2) p.2.1 (encQ p.2.2), fun _ => rfl, fun _ u hu => by simp [ivC] at hu; rcases hu with rfl | rfl | rfl | rfl | rfl | rfl <;> rfl, fun p w => fRat p.1.1 (encQ p.1.2) w ∧ fRat p.2.1 (encQ p.2.2) w⟩
abbrev QVRow := SA × List QV
def elw : El QVRow := ⟨1, by decide, (saNil, []), fun p => #[sl p.1 p.2.length], fun _ => rfl, fun _ u hu => by simp [sl] at hu; subst hu; rfl, fun p => fL elv p.1 p.2⟩
abbrev QRRow := SA × List QR
def elm : El QRRow := ⟨1, by decide, (saNil, []), fun p => #[sl p.1 p.2.length], fun _ => rfl, fun _ u hu => by simp [sl] at hu; subst hu; rfl, fun p => fL elr p.1 p.2⟩
abbrev encr (xs : List QR) := encL elr xs
abbrev encv (xs : List QV) := encL elv xs
abbrev encw (xs : List QVRow) := encL elw xs
abbrev encm (xs : List QRRow) := encL elm xs
def rawR (xs : List QR) : List PR := xs.map fun p => (p.1, encQ p.2)
def rawM (xs : List QRRow) : List PRow := xs.map fun p => (p.1, rawR p.2)
theorem rawR_len (xs : List QR) : (rawR xs).length = xs.length := by simp [rawR]
theorem rawM_len (xs : List QRRow) : (rawM xs).length = xs.length := by simp [rawM]
theorem rawR_get {xs : List QR} {i : Nat} (h : i < xs.length) : (rawR xs).getD i pr0 = ((xs.getD i qr0).1, encQ (xs.getD i qr0).2) := by
  simp [rawR, List.getD_eq_getElem?_getD, List.getElem?_eq_getElem h]
theorem rawM_get {xs : List QRRow} {i : Nat} (h : i < xs.length) : (rawM xs).getD i (saNil, []) = ((xs.getD i (saNil, [])).1, rawR (xs.getD i (saNil, [])).2) := by
  simp [rawM, List.getD_eq_getElem?_getD, List.getElem?_eq_getElem h]
theorem rawM_row (xs : List QRRow) (i : Nat) : ((rawM xs).getD i (saNil, [])).2.length = (xs.getD i (saNil, [])).2.length := by
  rcases Nat.lt_or_ge i xs.length with h | h
  · rw [rawM_get h, rawR_len]
  · simp [rawM, List.getD_eq_getElem?_getD, List.getElem?_eq_none h]
theorem fR_of_r {s : SA} {xs : List QR} {w : World} (h : fL elr s xs w) : fRats s (rawR xs) w := by
  refine ⟨by rw [rawR_len]; exact h.1, fun i hi => ?_⟩
  rw [rawR_len] at hi
  rw [rawR_get hi]
  exact h.2 i hi
theorem fM_of_m {s : SA} {xs : List QRRow} {w : World} (h : fL elm s xs w) : fL elM s (rawM xs) w := by
  refine ⟨by rw [rawM_len]; exact h.1, fun i hi => ?_⟩
  rw [rawM_len] at hi
  have h1 := h.2 i hi
  refine ⟨h1.1, h1.2.1, fun j hj => ?_, ?_⟩
  · refine (h1.2.2.1 j hj).trans ?_
    show (#[sl (xs.getD i (saNil, [])).1 (xs.getD i (saNil, [])).2.length])[j]? = (#[sl ((rawM xs).getD i (saNil, [])).1 ((rawM xs).getD i (saNil, [])).2.length])[j]?
    rw [rawM_row, rawM_get hi]
  · show fRats ((rawM xs).getD i (saNil, [])).1 ((rawM xs).getD i (saNil, [])).2 w
    rw [rawM_get hi]
    exact fR_of_r h1.2.2.2
theorem snocP {α : Type} {d a : α} {xs : List α} {P : Nat → α → Prop} (h : ∀ j, j < xs.length → P j (xs.getD j d)) (ha : P xs.length a) : ∀ j, j < (xs ++ [a]).length → P j ((xs ++ [a]).getD j d) := fun j hj => by
  simp only [List.length_append, List.length_singleton] at hj
  rcases Nat.lt_or_ge j xs.length with h1 | h1
  · have e : (xs ++ [a]).getD j d = xs.getD j d := by simp [List.getD_eq_getElem?_getD, List.getElem?_append_left h1]
    rw [e]; exact h j h1
  · obtain rfl : j = xs.length := by omega
    have e : (xs ++ [a]).getD xs.length d = a := by simp [List.getD_eq_getElem?_getD]
    rw [e]; exact ha
section
variable {P : Program} {ops : Array Oper} {n : Nat} {X : Nat → Prop} {w0 : World} {D : Nat → Prop} {l l' l1 : Slots} {M M' M1 M2 : List Blk} {F F' : List Fact} {Q : Exit → Act → World → Prop} {α : Type}
theorem run_stSeg {b k e lo : Nat} : ∀ (vs : List Value) (i : Nat) (c : Array Value) (w : World), w.heap[b]? = some (.cells c e (lo, 0)) → k + i + vs.length ≤ c.size → (∀ u ∈ vs, oneC u = true) →
    (storeCells ⟨b, k, none⟩ vs i).run P w = .ok () (setBlk w b (.cells (setSeg c (k + i) vs) e (lo, 0)))
  | [], i, c, w, hb, _, _ => by
    simp only [storeCells, setSeg]
    rw [setBlk_same hb]; rfl
  | v :: r, i, c, w, hb, hl, h1 => by
    have hk : k + i < c.size := by simp at hl; omega
    have ha : (⟨b, k, none⟩ : Addr).add i = ⟨b, k + i, none⟩ := by unfold Addr.add; split <;> simp_all
    have hcell : w.cell? ⟨b, k + i, none⟩ = some c[k + i] := by rw [cell_of (a := ⟨b, k + i, none⟩) hb rfl]; simp [hk]
    have hfz : w.frozen? ⟨b, k + i, none⟩ = false := by simp [World.frozen?, hb]
    have hv := h1 v List.mem_cons_self
    have hst : (store (⟨b, k + i, none⟩ : Addr) v).run P w = .ok () (w.setCell ⟨b, k + i, none⟩ v) := by
      cases v <;> first | (simp [oneC] at hv; done) | simp [store, Sem.run, hcell, hfz]
    have hset : w.setCell ⟨b, k + i, none⟩ v = setBlk w b (.cells (c.setIfInBounds (k + i) v) e (lo, 0)) := setCell_eq (a := ⟨b, k + i, none⟩) hb rfl v
    have ih := run_stSeg (k := k) r (i + 1) (c.setIfInBounds (k + i) v) (setBlk w b (.cells (c.setIfInBounds (k + i) v) e (lo, 0))) (setBlk_get hb) (by simp at hl ⊢; omega) (fun u hu => h1 u (List.mem_cons_of_mem _ hu))
    show Sem.run P ((store ((⟨b, k, none⟩ : Addr).add i) v).bind fun _ => storeCells ⟨b, k, none⟩ r (i + 1)) w = _
    rw [Sem.run_bind', ha, hst, hset]
    show Sem.run P (storeCells ⟨b, k, none⟩ r (i + 1)) _ = _
    rw [ih, setBlk_setBlk]; rfl
theorem run_stL {T b e lo m sz : Nat} {E : El α} {xs : List α} {a : α} {rest : Array Value} {v : Value} {w : World} (hs : (P.info? T).map (·.size) = some sz) (hsz : E.sz = sz) (hv : v.cells = E.enc a) (hb : w.heap[b]? = some (.cells (encL E xs ++ rest) e (lo, 0))) (hm : m < xs.length) :
    (Instr.storeAt T (.pointer (some ⟨b, m * sz, none⟩)) v).run P w = .ok () (setBlk w b (.cells (encL E (xs.set m a) ++ rest) e (lo, 0))) := by
  subst hsz
  obtain ⟨inf, hi, hsz⟩ := Option.map_eq_some_iff.1 hs
  have hle : m * E.sz + E.sz ≤ xs.length * E.sz := by
    have : (m + 1) * E.sz ≤ xs.length * E.sz := Nat.mul_le_mul_right _ hm
    rw [Nat.succ_mul] at this; exact this
  show Sem.run P ((sizeOf T).bind fun sz => if v.cells.size ≠ sz then _ else storeCells ⟨b, m * E.sz, none⟩ v.cells.toList) w = _
  have hso : (sizeOf T).run P w = .ok E.sz w := by simp [sizeOf, typeInfo, program, Sem.run, hi, hsz]
  rw [Sem.run_bind', hso]
  show Sem.run P (if v.cells.size ≠ E.sz then _ else storeCells ⟨b, m * E.sz, none⟩ v.cells.toList) w = _
  rw [hv, if_neg (by rw [E.size]; exact fun h => h rfl)]
  rw [run_stSeg (P := P) (k := m * E.sz) (E.enc a).toList 0 _ w hb (by rw [Array.length_toList, E.size, Array.size_append, encL_size]; omega) (E.one a), Nat.add_zero, setSeg_enc E hm a rest]
/-- A store into an own array of any kind. -/
theorem ot_ostoreL {o : Oper} {T m b e mi sz : Nat} {x y : Operand} {E : El α} {xs : List α} {a : α} {v : Value} (hM : M[mi]? = some (b, .cells (encL E xs) e (0, 0))) (hk : (knownOp l o.op && dstOk n o.dst) = true) (hop : o.op = .store T x y) (hx : rho l x = .pointer (some ⟨b, m * sz, none⟩)) (hy : rho l y = v)
    (hv : v.cells = E.enc a) (hs : (P.info? T).map (·.size) = some sz) (hsz : E.sz = sz) (hm : m < xs.length) :
    OT P n X w0 D o Q l M F (ι := Unit) (fun _ => True) (fun _ => putL o.dst undef l) (fun _ => M.set mi (b, .cells (encL E (xs.set m a)) e (0, 0))) (fun _ => F) := by
  refine OT.st hM hk (fun w hw => ?_)
  have := run_stL (P := P) (T := T) (rest := #[]) hs hsz hv (by have := hw.blk _ (List.mem_of_getElem? hM); simpa using this) hm
  unfold execOp
  simp only [hop, hx, hy]
  show Sem.run P ((Instr.storeAt T (.pointer (some ⟨b, m * sz, none⟩)) v).bind fun _ => Sem.pure Next.skip) w = _
  rw [Sem.run_bind', this]
  show Result.ok Next.skip _ = _
  simp
theorem gOkL {sz : Nat} {go : Option GB} {k m : Nat} (h : gOk sz go k) (hm : m < k) : ∃ g, go = some g := by
  cases go with
  | none => have : k = 0 := h; omega
  | some g => exact ⟨g, rfl⟩
theorem q_gidxL {i t m k sz : Nat} {x ix : Operand} {go : Option GB} {K : IntKind} {i0 : Int} (hop : (opOf ops i).op = .indexAddr t x ix) (hx : rho l x = sl (glS go) k) (hix : rho l ix = .int K i0)
    {e : Nat} (ht : P.underlying t = some (.slice e)) (hs : (P.info? e).map (·.size) = some sz) (hi : i0 = (m : Nat)) (hm : m < k) (hok : gOk sz go k) :
    ∀ w, Now M F w → (execOp (rho l) (opOf ops i)).run P w = .ok (.value (.pointer (some ((glS go).ad.add (m * sz))))) w := by
  intro w hw
  obtain ⟨g, rfl⟩ := gOkL hok hm
  exact q_idx (M := M) (F := F) (glS (some g)).ad hop hx hix ht hs hi hm (fun w hw => rfl) w hw
theorem ot_gstoreL {o : Oper} {T m e sz : Nat} {x y : Operand} {go : Option GB} {E : El α} {xs : List α} {a : α} {v : Value} (M1 M2 : List Blk) (hM : M = M1 ++ (glM go (encL E xs) e ++ M2)) (hsz : E.sz = sz) (hk : (knownOp l o.op && dstOk n o.dst) = true) (hop : o.op = .store T x y)
    (hx : rho l x = .pointer (some ((glS go).ad.add (m * sz)))) (hy : rho l y = v) (hv : v.cells = E.enc a) (hs : (P.info? T).map (·.size) = some sz) (hm : m < xs.length) (hok : gOk sz go xs.length) :
    OT P n X w0 D o Q l M F (ι := Unit) (fun _ => gOk sz go (xs.set m a).length) (fun _ => putL o.dst undef l) (fun _ => M1 ++ (glM go (encL E (xs.set m a)) e ++ M2)) (fun _ => F) := by
  obtain ⟨g, rfl⟩ := gOkL hok hm
  have hget : M[M1.length]? = some (g.b, .cells (encL E xs ++ g.rest) e (0, 0)) := by
    rw [hM, List.getElem?_append_right (Nat.le_refl _)]; simp [glM]
  have hx' : rho l x = .pointer (some ⟨g.b, m * sz, none⟩) := by
    rw [hx]
    show Value.pointer (some ((⟨g.b, 0, none⟩ : Addr).add (m * sz))) = _
    rw [add0]
  have h := OT.st (P := P) (n := n) (X := X) (w0 := w0) (D := D) (Q := Q) (F := F) (o' := .cells (encL E (xs.set m a) ++ g.rest) e (0, 0)) hget hk (fun w hw => by
    have h1 := run_stL (P := P) (T := T) (rest := g.rest) hs hsz hv (hw.blk _ (List.mem_of_getElem? hget)) hm
    unfold execOp
    simp only [hop, hx', hy]
    show Sem.run P ((Instr.storeAt T (.pointer (some ⟨g.b, m * sz, none⟩)) v).bind fun _ => Sem.pure Next.skip) w = _
    rw [Sem.run_bind', h1]; rfl)
  have he : M.set M1.length (g.b, .cells (encL E (xs.set m a) ++ g.rest) e (0, 0)) = M1 ++ (glM (some g) (encL E (xs.set m a)) e ++ M2) := by
    rw [hM, List.set_append_right _ _ (Nat.le_refl _)]; simp [glM]
  rw [he] at h
  intro a' w hs' K hK
  exact h a' w hs' K (fun _ a'' w' _ hst => hK () a'' w' (by rw [List.length_set]; exact hok) hst)
/-- A store into a row of one's own. -/
theorem ot_rowstore {o : Oper} {T m e i : Nat} {x y : Operand} {ms : List PO} {a : PR} {v : Value} (M1 M2 : List Blk) (hM : M = M1 ++ (rowsM e ms ++ M2)) (hk : (knownOp l o.op && dstOk n o.dst) = true) (hop : o.op = .store T x y)
    (hx : rho l x = .pointer (some ((glS (ms.getD i po0).1).ad.add (m * 3)))) (hy : rho l y = v) (hv : v.cells = ratC a.1 a.2) (hs : (P.info? T).map (·.size) = some 3) (hi : i < ms.length) (hm : m < (ms.getD i po0).2.length) (hok : okO ms) :
    OT P n X w0 D o Q l M F (ι := Unit) (fun _ => okO (ms.set i ((ms.getD i po0).1, (ms.getD i po0).2.set m a))) (fun _ => putL o.dst undef l) (fun _ => M1 ++ (rowsM e (ms.set i ((ms.getD i po0).1, (ms.getD i po0).2.set m a)) ++ M2)) (fun _ => F) := by
  have h := ot_gstoreL (M := M) (P := P) (n := n) (X := X) (w0 := w0) (D := D) (Q := Q) (F := F) (E := elR) (sz := 3) (a := a) (v := v) (xs := (ms.getD i po0).2) (e := e) (M1 ++ rowsM e (ms.take i)) (rowsM e (ms.drop (i + 1)) ++ M2) (by rw [hM, rowsM_split e hi, encR_L]; simp) rfl hk hop hx hy hv hs hm (okO_get hok hi).1
  have he : M1 ++ (rowsM e (ms.set i ((ms.getD i po0).1, (ms.getD i po0).2.set m a)) ++ M2) = (M1 ++ rowsM e (ms.take i)) ++ (glM (ms.getD i po0).1 (encL elR ((ms.getD i po0).2.set m a)) e ++ (rowsM e (ms.drop (i + 1)) ++ M2)) := by
    rw [rowsM_set e hi, encR_L]; simp
  intro a' w hs' K hK
  exact h a' w hs' K (fun _ a'' w' _ hst => hK () a'' w' (okO_set hok hi a) (by rw [he]; exact hst))
/-! a block list turned, and shared -/
theorem Mem.permM {w : World} (h : Mem X w0 D M F w) (hp : M.Perm M') : Mem X w0 D M' F w := by
  refine ⟨h.frm, fun m hm => h.blk m (hp.mem_iff.2 hm), fun m hm => h.own m (hp.mem_iff.2 hm), (hp.map _).nodup_iff.1 h.nodup, h.xs, fun p hq => (h.facts p hq).step (Off.refl _ w) (fun k hk => ?_)⟩
  exact .inl (hk.imp id (fun hk => by
    obtain ⟨m, hm, e⟩ := List.mem_map.1 hk
    exact List.mem_map.2 ⟨m, hp.mem_iff.2 hm, e⟩))
theorem KN.permM (hp : M.Perm M') (h : KN n X w0 D Q l M' F) : KN n X w0 D Q l M F := fun a w hs => h a w ⟨hs.defers, hs.size, hs.tmps, hs.mem.permM hp⟩
theorem J.permM {c : Code} (hp : M.Perm M') (h : J P n X w0 D c Q l M' F) : J P n X w0 D c Q l M F := fun a w hs => h a w ⟨hs.defers, hs.size, hs.tmps, hs.mem.permM hp⟩
theorem RN.permM {k : Nat} (hp : M.Perm M') (h : RN P n X w0 D ops Q k l M' F) : RN P n X w0 D ops Q k l M F := fun a w hs => h a w ⟨hs.defers, hs.size, hs.tmps, hs.mem.permM hp⟩
theorem Mem.shareB {w : World} : ∀ {B : List Blk} {M : List Blk} {F : List Fact}, Mem X w0 D M F w → M = M1 ++ (B ++ M2) → Mem X w0 D (M1 ++ M2) ((fun w => ∀ m ∈ B, fBlk m.1 m.2 w) :: F) w
  | [], M, F, h, hM => by
    rw [List.nil_append] at hM; subst hM
    exact h.consF (G := [_]) (fun p hp => by simp only [List.mem_singleton] at hp; subst hp; exact fun w' _ m hm => by cases hm)
  | (b, o) :: B, M, F, h, hM => by
    have hget : M[M1.length]? = some (b, o) := by
      rw [hM, List.getElem?_append_right (Nat.le_refl _)]; simp
    have h1 := h.share hget
    have hd : dropN M M1.length = M1 ++ (B ++ M2) := by
      rw [hM]
      clear hM hget h1 h
      induction M1 with
      | nil => simp [dropN]
      | cons x r ih => exact congrArg (x :: ·) ih
    rw [hd] at h1
    have h2 := Mem.shareB h1 rfl
    refine ⟨h2.frm, h2.blk, h2.own, h2.nodup, h2.xs, fun p hp => ?_⟩
    rcases List.mem_cons.1 hp with rfl | hp
    · intro w' ho m hm
      rcases List.mem_cons.1 hm with rfl | hm
      · exact h2.facts _ (List.mem_cons_of_mem _ List.mem_cons_self) w' ho
      · exact h2.facts _ List.mem_cons_self w' ho m hm
    · exact h2.facts p (List.mem_cons_of_mem _ (List.mem_cons_of_mem _ hp))
theorem Mem.shareQ {w : World} {B : List Blk} (h : Mem X w0 D M F w) (hM : M = M1 ++ (B ++ M2)) (q : Fact) (hq : ∀ w, (∀ m ∈ B, fBlk m.1 m.2 w) → (∀ p ∈ F, p w) → q w) : Mem X w0 D (M1 ++ M2) (q :: F) w := by
  have h2 := h.shareB hM
  refine ⟨h2.frm, h2.blk, h2.own, h2.nodup, h2.xs, fun p hp => ?_⟩
  rcases List.mem_cons.1 hp with rfl | hp
  · exact fun w' ho => hq w' (h2.facts _ List.mem_cons_self w' ho) (fun p hp => h2.facts p (List.mem_cons_of_mem _ hp) w' ho)
  · exact h2.facts p (List.mem_cons_of_mem _ hp)
theorem J.shareB {c : Code} {B : List Blk} (M1 M2 : List Blk) (hM : M = M1 ++ (B ++ M2)) (q : Fact) (hq : ∀ w, (∀ m ∈ B, fBlk m.1 m.2 w) → (∀ p ∈ F, p w) → q w) (k : J P n X w0 D c Q l (M1 ++ M2) (q :: F)) : J P n X w0 D c Q l M F := fun a w hs => k a w ⟨hs.defers, hs.size, hs.tmps, hs.mem.shareQ hM q hq⟩
theorem KN.shareB {B : List Blk} (M1 M2 : List Blk) (hM : M = M1 ++ (B ++ M2)) (q : Fact) (hq : ∀ w, (∀ m ∈ B, fBlk m.1 m.2 w) → (∀ p ∈ F, p w) → q w) (k : KN n X w0 D Q l (M1 ++ M2) (q :: F)) : KN n X w0 D Q l M F := fun a w hs => k a w ⟨hs.defers, hs.size, hs.tmps, hs.mem.shareQ hM q hq⟩
theorem RN.shareB {k : Nat} {B : List Blk} (M1 M2 : List Blk) (hM : M = M1 ++ (B ++ M2)) (q : Fact) (hq : ∀ w, (∀ m ∈ B, fBlk m.1 m.2 w) → (∀ p ∈ F, p w) → q w) (r : RN P n X w0 D ops Q k l (M1 ++ M2) (q :: F)) : RN P n X w0 D ops Q k l M F := fun a w hs => r a w ⟨hs.defers, hs.size, hs.tmps, hs.mem.shareQ hM q hq⟩
theorem absorb {b n e : Nat} {ps : List PR} {C G : List Blk} {qs : List PO} : (((b, .cells (encR ps) e (0, 0)) :: C) ++ (rowsM e qs ++ G)).Perm (C ++ (rowsM e ((some ⟨b, n, #[]⟩, ps) :: qs) ++ G)) := by
  have : rowsM e ((some ⟨b, n, #[]⟩, ps) :: qs) = (b, .cells (encR ps) e (0, 0)) :: rowsM e qs := by simp [rowsM, glM]
  rw [this]
  exact List.perm_middle.symm
/-- A part of an element. -/
theorem q_lfield {i T m sz off k : Nat} {x : Operand} {s : SA} {E : El α} {xs : List α} {cs : Array Value} (j : Nat) (hF : pick F [j] = [fL E s xs]) (hsz : E.sz = sz) (hop : (opOf ops i).op = .load T x) (hx : rho l x = .pointer (some ((s.ad.add (m * sz)).add off)))
    (hT : (P.underlying T).map (fun d => match d with | .struct _ | .array _ _ => true | _ => false) = some true) (hs : (P.info? T).map (·.size) = some k) (hk : off + k ≤ sz) (hc : cs.size = k) (hcs : ∀ q, q < k → (E.enc (xs.getD m E.d))[off + q]? = cs[q]?) (hm : m < xs.length) :
    ∀ w, Now M F w → (execOp (rho l) (opOf ops i)).run P w = .ok (.value (.agg cs)) w := by
  subst hsz
  have := q_loadN (M := M) (F := F) (cs := cs.toList) hop hx hT (by rw [hs]; simp [hc]) (fun w hw q hq => by
    have h := (hw.nowP hF (fL E s xs) (by simp)).2 m hm
    have hq' : q < k := by simpa [hc] using hq
    have hsp : (s.ad.add (m * E.sz)).spot = none := by unfold Addr.add; split <;> first | exact h.2.1 | rfl
    rw [add_add hsp, add_add h.2.1, h.2.2.1 (off + q) (by omega), hcs q hq']
    simp [hc, hq'])
  simpa using this
/-- A result that is read out of a block that does not outlive the call. -/
theorem KR.retMd {fn : Func} {ι : Type} {val : ι → Value} {φ : ι → Prop} {Mout : ι → List Blk} {Fout : ι → List Fact} (d : Nat) (x : ι) (ms : List (Option Nat)) (is zs : List Nat) {v : Value} (hr : resV P l M fn.results ms = some (v, dup zs)) (hv : v = val x) (hφ : φ x) (hM : Mout x = M.drop d) (hF : pick F is = Fout x) :
    KR n X w0 D (RetM P fn X w0 D val φ Mout Fout) l M F := fun a w hs =>
  ⟨hs.defers, v, resV_sound hs hr dup_eq, x, by rw [hv], hφ, by rw [hM, ← hF]; exact (hs.mem.sub (List.drop_sublist d M) (fun p hp => hp)).pickF is⟩
theorem KN.retMd {fn : Func} {ι : Type} {val : ι → Value} {φ : ι → Prop} {Mout : ι → List Blk} {Fout : ι → List Fact} (d : Nat) (x : ι) (ms : List (Option Nat)) (is zs : List Nat) {v : Value} (hr : resV P l M fn.results ms = some (v, dup zs)) (hv : v = val x) (hφ : φ x) (hM : Mout x = M.drop d) (hF : pick F is = Fout x) :
    KN n X w0 D (RetM P fn X w0 D val φ Mout Fout) l M F := fun a w hs =>
  ⟨hs.defers, v, resV_sound hs hr dup_eq, x, by rw [hv], hφ, by rw [hM, ← hF]; exact (hs.mem.sub (List.drop_sublist d M) (fun p hp => hp)).pickF is⟩
/-- make of a list of slices. -/
theorem madeO (m : Nat) : madeCells #[.slice none 0 0] (m * 1) = encO (List.replicate m po0) := by
  rw [Nat.mul_one]
  apply Array.ext'
  have h2 : (encO (List.replicate m po0)).toList = List.replicate m (Value.slice none 0 0) := by
    show ((List.replicate m po0).flatMap fun a => (elO.enc a).toList) = _
    induction m with
    | zero => rfl
    | succ k ih => rw [List.replicate_succ, List.flatMap_cons, ih, List.replicate_succ]; rfl
  rw [h2]
  apply List.ext_getElem
  · simp [madeCells]
  · intro i h1 h3
    simp [madeCells, Nat.mod_one]
theorem q_makeO {i t e by_ m : Nat} {v : Value} {K K' : IntKind} {x y : Operand} {n1 n2 : Int} (hop : (opOf ops i).op = .makeSlice t x y) (hx : rho l x = .int K n1) (hy : rho l y = .int K' n2) (hn1 : n1 = (m : Nat)) (hn2 : n2 = (m : Nat))
    (ht : P.underlying t = some (.slice e)) (hs : (P.info? e).map (fun i => (i.size, i.bytes, i.zero)) = some (1, by_, some v)) (hv : v.cells = #[.slice none 0 0]) (hn : by_ * m ≤ 281474976710656) (h63 : m ≤ 281474976710656) (w : World) :
    (execOp (rho l) (opOf ops i)).run P w = .ok (.value (.slice (some ⟨w.heap.size, 0, none⟩) m m)) (w.alloc (.cells (encO (List.replicate m po0)) e (0, 0))) := by
  obtain ⟨inf, hi, hsz⟩ := Option.map_eq_some_iff.1 hs
  simp only [Prod.mk.injEq] at hsz
  obtain ⟨h1, h2, h3⟩ := hsz
  have hb : (inf.bytes : Int) * (m : Int) ≤ 281474976710656 := by
    rw [h2, ← Int.natCast_mul]; omega
  have := run_make (P := P) w t e inf v ht hi h3 K K' (m : Nat) (m : Nat) (by omega) (Int.le_refl _) hb (by omega)
  rw [h1, hv] at this
  simp only [Int.toNat_natCast] at this
  rw [madeO] at this
  unfold execOp
  simp only [hop, hx, hy, hn1, hn2]
  exact run_v this
end
end Go.Proofs.YtbiifkfbkaejlaaGreat.E
namespace Go.Proofs.YtbiifkfbkaejlaaGreat.E
open Go Go.RowKit
set_option linter.unusedVariables false
set_option linter.unusedSimpArgs false
def fm (xs : List PRow) : Prop := xs.length ≤ 96 ∧ ∀ i, i < xs.length → 1 ≤ (xs.getD i (saNil, [])).2.length ∧ (xs.getD i (saNil, [])).2.length ≤ 96 ∧ (xs.getD i (saNil, [])).2.length = (xs.getD 0 (saNil, [])).2.length
instance (xs : List PRow) : Decidable (fm xs) := by unfold fm; infer_instance
theorem mx_formed (s : SA) (xs : List PRow) : Spec Tryz.prog 109 #[sl s xs.length] [fL elM s xs] (ι := Unit) (fun y => .bool (decide (fm xs))) (fun y => True) (fun y => []) := by
 refine Spec.of_body _ (fn := Tryz.f109) k_ rfl k_ (fun X w0 => ?_)
 refine J.fact (φ := xs.length ≤ 140737488355328) (fun w h => (h _ (.head _)).1.2) (fun hl1 => ?_)
 refine J.sreg ?_
 refine RN.bq (no 1) [0] [] 1 [(0, sl s xs.length)] k_ ?_
 refine RN.fin k_ ?_
 refine J.seq ?_
 refine J.sreg ?_
 refine RN.bq (no 3) [0, 7] [] 3 [(0, sl s xs.length), (7, .bool (decide (((xs.length : Nat) : Int) > 96)))] k_ ?_
 refine RN.fin k_ ?_
 refine J.cond (decide (((xs.length : Nat) : Int) > 96)) k_ (fun c2 => ?_) (fun c2 => ?_)
 ·replace c2 := of_decide_eq_true c2
  refine J.sreg ?_
  refine RN.bq (no 1) [2] [] 1 [(2, .bool false)] k_ ?_
  refine RN.fin k_ ?_
  have e_1 : (decide (fm xs)) = false := by first | exact decide_eq_false (fun h => by have h1 := h.1; omega) | exact decide_eq_false (fun h => by have h1 := h.2 i (by omega); omega) | exact decide_eq_true ⟨by omega, fun k hk => hI2 k (by omega)⟩
  refine J.ret (KR.next (KR.ret (v := .bool false) (()) [none] [] [] k_ v1_ (trivial) v1_))
 ·replace c2 := of_decide_eq_false c2
  refine J.skip ?_
  refine KN.next ?_
  refine J.seq ?_
  refine J.sreg ?_
  refine RN.bq (no 3) [0, 8, 9, 10] [] 3 [(0, sl s xs.length), (8, sl s xs.length), (9, .int .i64 ((xs.length : Nat) : Int)), (10, .int .i64 0)] k_ ?_
  refine RN.fin k_ ?_
  refine J.block ?_
  refine J.loop (ι := (Nat)) (fun x => x ≤ xs.length ∧ ∀ k, k < x → 1 ≤ (xs.getD k (saNil, [])).2.length ∧ (xs.getD k (saNil, [])).2.length ≤ 96 ∧ (xs.getD k (saNil, [])).2.length = (xs.getD 0 (saNil, [])).2.length) (fun x => xs.length - x) (fun x => [(0, sl s xs.length), (8, sl s xs.length), (9, .int .i64 ((xs.length : Nat) : Int)), (10, .int .i64 ((x : Nat) : Int))]) (fun x => []) (fun x => [fL elM s xs]) (0) [0, 8, 9, 10] [0] (⟨Nat.zero_le _, fun k h => absurd h (Nat.not_lt_zero _)⟩) k_ (by first | rfl | (simp only [encQ_zero]; done) | (simp only [encQ_zero]; rfl)) (by rfl) (fun i hI => ?_)
  replace hI : i ≤ xs.length ∧ ∀ k, k < i → 1 ≤ (xs.getD k (saNil, [])).2.length ∧ (xs.getD k (saNil, [])).2.length ≤ 96 ∧ (xs.getD k (saNil, [])).2.length = (xs.getD 0 (saNil, [])).2.length := hI
  obtain ⟨hI1, hI2⟩ := hI
  refine J.sreg ?_
  refine RN.bq (no 1) [0, 8, 9, 10, 11] [] 1 [(0, sl s xs.length), (8, sl s xs.length), (9, .int .i64 ((xs.length : Nat) : Int)), (10, .int .i64 ((i : Nat) : Int)), (11, .bool (decide (((i : Nat) : Int) < ((xs.length : Nat) : Int))))] k_ ?_
  refine RN.fin k_ ?_
  refine J.seq ?_
  refine J.cond (decide (((i : Nat) : Int) < ((xs.length : Nat) : Int))) k_ (fun c3 => ?_) (fun c3 => ?_)
  ·replace c3 := of_decide_eq_true c3
   refine J.skip ?_
   refine KN.next ?_
   refine J.seq ?_
   refine J.block ?_
   refine J.sreg ?_
   refine RN.val _ k_ k_ (q_lidx (t := 27) (x := (.tmp 8)) (ix := (.tmp 10)) (K := .i64) (i0 := ((i : Nat) : Int)) (m := i) (e := 28) (E := elM) (sz := 1) (s := s) (xs := xs) 0 rfl rfl k_ k_ k_ k_ k_ (by omega) x_) ?_
   refine RN.val _ k_ k_ (q_lload1 (T := 28) (x := (.tmp 12)) (m := i) (s := s) (E := elM) (xs := xs) 0 rfl rfl k_ k_ k_ rfl x_) ?_
   refine RN.also (fRats ((xs.getD i (saNil, [])).1) ((xs.getD i (saNil, [])).2)) (fun w h => (fL_elem (h _ (.head _)) x_)) ?_
   refine RN.bq (no 1) [0, 4, 8, 9, 10] [] 3 [(0, sl s xs.length), (4, sl ((xs.getD i (saNil, [])).1) ((xs.getD i (saNil, [])).2).length), (8, sl s xs.length), (9, .int .i64 ((xs.length : Nat) : Int)), (10, .int .i64 ((i : Nat) : Int))] k_ ?_
   refine RN.fs k_ ?_
   refine RN.bq (no 4) [0, 4, 8, 9, 10, 17] [] 4 [(0, sl s xs.length), (4, sl ((xs.getD i (saNil, [])).1) ((xs.getD i (saNil, [])).2).length), (8, sl s xs.length), (9, .int .i64 ((xs.length : Nat) : Int)), (10, .int .i64 ((i : Nat) : Int)), (17, .bool ((((((xs.getD i (saNil, [])).2).length : Nat) : Int) : Int) == 0))] k_ ?_
   refine RN.split 17 ((((((xs.getD i (saNil, [])).2).length : Nat) : Int) : Int) == 0) k_ (fun c4 => ?_) (fun c4 => ?_)
   ·replace c4 := eq_of_beq c4
    refine RN.bq (no 13) [0, 8, 9, 10, 30] [] 17 [(0, sl s xs.length), (8, sl s xs.length), (9, .int .i64 ((xs.length : Nat) : Int)), (10, .int .i64 ((i : Nat) : Int)), (30, .bool true)] k_ ?_
    refine RN.fin k_ ?_
    refine J.condT k_ ?_
    refine J.sreg ?_
    refine RN.bq (no 1) [2] [] 1 [(2, .bool false)] k_ ?_
    refine RN.fin k_ ?_
    have e_1 : (decide (fm xs)) = false := by first | exact decide_eq_false (fun h => by have h1 := h.1; omega) | exact decide_eq_false (fun h => by have h1 := h.2 i (by omega); omega) | exact decide_eq_true ⟨by omega, fun k hk => hI2 k (by omega)⟩
    refine J.ret (KR.blk (KR.next (KR.next (KR.blk (KR.next (KR.ret (v := .bool false) (()) [none] [] [] k_ v1_ (trivial) v1_))))))
   ·replace c4 := ne_of_beq_false c4
    refine RN.bq (no 5) [0, 4, 8, 9, 10, 22] [] 9 [(0, sl s xs.length), (4, sl ((xs.getD i (saNil, [])).1) ((xs.getD i (saNil, [])).2).length), (8, sl s xs.length), (9, .int .i64 ((xs.length : Nat) : Int)), (10, .int .i64 ((i : Nat) : Int)), (22, .bool (decide (((((xs.getD i (saNil, [])).2).length : Nat) : Int) > 96)))] k_ ?_
    refine RN.split 22 (decide (((((xs.getD i (saNil, [])).2).length : Nat) : Int) > 96)) k_ (fun c5 => ?_) (fun c5 => ?_)
    ·replace c5 := of_decide_eq_true c5
     refine RN.bq (no 8) [0, 8, 9, 10, 30] [] 17 [(0, sl s xs.length), (8, sl s xs.length), (9, .int .i64 ((xs.length : Nat) : Int)), (10, .int .i64 ((i : Nat) : Int)), (30, .bool true)] k_ ?_
     refine RN.fin k_ ?_
     refine J.condT k_ ?_
     refine J.sreg ?_
     refine RN.bq (no 1) [2] [] 1 [(2, .bool false)] k_ ?_
     refine RN.fin k_ ?_
     have e_1 : (decide (fm xs)) = false := by first | exact decide_eq_false (fun h => by have h1 := h.1; omega) | exact decide_eq_false (fun h => by have h1 := h.2 i (by omega); omega) | exact decide_eq_true ⟨by omega, fun k hk => hI2 k (by omega)⟩
     refine J.ret (KR.blk (KR.next (KR.next (KR.blk (KR.next (KR.ret (v := .bool false) (()) [none] [] [] k_ v1_ (trivial) v1_))))))
    ·replace c5 := of_decide_eq_false c5
     refine RN.bq (no 3) [0, 8, 9, 10, 22, 24, 25] [] 12 [(0, sl s xs.length), (8, sl s xs.length), (9, .int .i64 ((xs.length : Nat) : Int)), (10, .int .i64 ((i : Nat) : Int)), (22, .bool false), (24, .int .i64 ((((xs.getD i (saNil, [])).2).length : Nat) : Int)), (25, sl s xs.length)] k_ ?_
     refine RN.val _ k_ k_ (q_lidx (t := 27) (x := (.tmp 25)) (ix := (.const (.int .i64 0))) (K := .i64) (i0 := 0) (m := 0) (e := 28) (E := elM) (sz := 1) (s := s) (xs := xs) 1 rfl rfl k_ k_ k_ k_ k_ (by omega) x_) ?_
     refine RN.val _ k_ k_ (q_lload1 (T := 28) (x := (.tmp 26)) (m := 0) (s := s) (E := elM) (xs := xs) 1 rfl rfl k_ k_ k_ rfl x_) ?_
     refine RN.also (fRats ((xs.getD 0 (saNil, [])).1) ((xs.getD 0 (saNil, [])).2)) (fun w h => (fL_elem (h _ (.tail _ ((.head _)))) x_)) ?_
     refine RN.bq (no 3) [0, 8, 9, 10, 30] [] 17 [(0, sl s xs.length), (8, sl s xs.length), (9, .int .i64 ((xs.length : Nat) : Int)), (10, .int .i64 ((i : Nat) : Int)), (30, .bool ((((((xs.getD i (saNil, [])).2).length : Nat) : Int) : Int) != ((((xs.getD 0 (saNil, [])).2).length : Nat) : Int)))] k_ ?_
     refine RN.fin k_ ?_
     refine J.cond ((((((xs.getD i (saNil, [])).2).length : Nat) : Int) : Int) != ((((xs.getD 0 (saNil, [])).2).length : Nat) : Int)) k_ (fun c6 => ?_) (fun c6 => ?_)
     ·replace c6 := bne_iff_ne.1 c6
      refine J.sreg ?_
      refine RN.bq (no 1) [2] [] 1 [(2, .bool false)] k_ ?_
      refine RN.fin k_ ?_
      have e_1 : (decide (fm xs)) = false := by first | exact decide_eq_false (fun h => by have h1 := h.1; omega) | exact decide_eq_false (fun h => by have h1 := h.2 i (by omega); omega) | exact decide_eq_true ⟨by omega, fun k hk => hI2 k (by omega)⟩
      refine J.ret (KR.blk (KR.next (KR.next (KR.blk (KR.next (KR.ret (v := .bool false) (()) [none] [] [] k_ v1_ (trivial) v1_))))))
     ·replace c6 := bne_eq_false_iff_eq.1 c6
      refine J.skip ?_
      refine KN.blk ?_
      refine KN.next ?_
      refine J.regN ?_
      refine RN.bq (no 1) [0, 8, 9, 31] [] 1 [(0, sl s xs.length), (8, sl s xs.length), (9, .int .i64 ((xs.length : Nat) : Int)), (31, .int .i64 (IntKind.i64.wrap (((i : Nat) : Int) + 1)))] k_ ?_
      rw [show IntKind.i64.wrap (((i : Nat) : Int) + 1) = ((i + 1 : Nat) : Int) from by rw [IntKind.wrap_i64]; omega]
      refine RN.bq (no 1) [0, 8, 9, 10] [] 2 [(0, sl s xs.length), (8, sl s xs.length), (9, .int .i64 ((xs.length : Nat) : Int)), (10, .int .i64 ((i + 1 : Nat) : Int))] k_ ?_
      refine RN.done k_ ?_
      refine KN.roundE (i + 1) [0, 8, 9, 10] [2] (l2 := [(0, sl s xs.length), (8, sl s xs.length), (9, .int .i64 ((xs.length : Nat) : Int)), (10, .int .i64 ((i + 1 : Nat) : Int))]) (by (try dsimp only); omega) (by (try dsimp only); exact ⟨by omega, fun k hk => by rcases Nat.lt_succ_iff_lt_or_eq.1 hk with hk | rfl; exact hI2 k hk; omega⟩) k_ (by rfl) (by rfl) (by rfl)
  ·replace c3 := of_decide_eq_false c3
   refine J.exit (KX.next (KX.next (KX.hit ?_)))
   refine KN.next ?_
   refine J.sreg ?_
   refine RN.bq (no 1) [2] [] 1 [(2, .bool true)] k_ ?_
   refine RN.fin k_ ?_
   have e_1 : (decide (fm xs)) = true := by first | exact decide_eq_false (fun h => by have h1 := h.1; omega) | exact decide_eq_false (fun h => by have h1 := h.2 i (by omega); omega) | exact decide_eq_true ⟨by omega, fun k hk => hI2 k (by omega)⟩
   refine J.ret (KR.ret (v := .bool true) (()) [none] [] [] k_ v1_ (trivial) v1_)
theorem mx_columns (s : SA) (xs : List PRow) : Spec Tryz.prog 111 #[sl s xs.length] [fL elM s xs] (ι := Unit) (fun y => .int .i64 (((xs.getD 0 (saNil, [])).2.length : Nat) : Int)) (fun y => True) (fun y => []) := by
 refine Spec.of_body _ (fn := Tryz.f111) k_ rfl k_ (fun X w0 => ?_)
 refine J.fact (φ := xs.length ≤ 140737488355328) (fun w h => (h _ (.head _)).1.2) (fun hl1 => ?_)
 refine J.sreg ?_
 refine RN.bq (no 1) [0] [] 1 [(0, sl s xs.length)] k_ ?_
 refine RN.fin k_ ?_
 refine J.seq ?_
 refine J.sreg ?_
 refine RN.bq (no 3) [0, 5] [] 3 [(0, sl s xs.length), (5, .bool ((((xs.length : Nat) : Int) : Int) == 0))] k_ ?_
 refine RN.fin k_ ?_
 refine J.cond ((((xs.length : Nat) : Int) : Int) == 0) k_ (fun c2 => ?_) (fun c2 => ?_)
 ·replace c2 := eq_of_beq c2
  refine J.sreg ?_
  refine RN.bq (no 1) [2] [] 1 [(2, .int .i64 0)] k_ ?_
  refine RN.fin k_ ?_
  have e_1 : ((((xs.getD 0 (saNil, [])).2.length : Nat) : Int) : Int) = (0 : Int) := by first | rfl | (rw [List.eq_nil_of_length_eq_zero (show xs.length = 0 by omega)]; rfl)
  refine J.ret (KR.next (KR.ret (v := .int .i64 0) (()) [none] [] [] k_ v1_ (trivial) v1_))
 ·replace c2 := ne_of_beq_false c2
  refine J.skip ?_
  refine KN.next ?_
  refine J.sreg ?_
  refine RN.bq (no 1) [6] [] 1 [(6, sl s xs.length)] k_ ?_
  refine RN.val _ k_ k_ (q_lidx (t := 27) (x := (.tmp 6)) (ix := (.const (.int .i64 0))) (K := .i64) (i0 := 0) (m := 0) (e := 28) (E := elM) (sz := 1) (s := s) (xs := xs) 0 rfl rfl k_ k_ k_ k_ k_ (by omega) x_) ?_
  refine RN.val _ k_ k_ (q_lload1 (T := 28) (x := (.tmp 7)) (m := 0) (s := s) (E := elM) (xs := xs) 0 rfl rfl k_ k_ k_ rfl x_) ?_
  refine RN.also (fRats ((xs.getD 0 (saNil, [])).1) ((xs.getD 0 (saNil, [])).2)) (fun w h => (fL_elem (h _ (.head _)) x_)) ?_
  refine RN.bq (no 2) [2] [] 5 [(2, .int .i64 ((((xs.getD 0 (saNil, [])).2).length : Nat) : Int))] k_ ?_
  refine RN.fin k_ ?_
  have e_1 : ((((xs.getD 0 (saNil, [])).2.length : Nat) : Int) : Int) = (((((xs.getD 0 (saNil, [])).2).length : Nat) : Int) : Int) := by first | rfl | (rw [List.eq_nil_of_length_eq_zero (show xs.length = 0 by omega)]; rfl)
  refine J.ret (KR.ret (v := .int .i64 ((((xs.getD 0 (saNil, [])).2).length : Nat) : Int)) (()) [none] [] [] k_ v1_ (trivial) v1_)
theorem setrev {a d : PO} {qs : List PO} {r i : Nat} (h : qs.length = i) (hi : i < r) : (qs.reverse ++ List.replicate (r - i) d).set i a = (a :: qs).reverse ++ List.replicate (r - (i + 1)) d := by
  rw [List.set_append_right _ _ (by simp [h]), List.length_reverse, h, Nat.sub_self, show r - i = (r - (i + 1)) + 1 from by omega, List.replicate_succ]
  simp
theorem allO_rev {qs : List PO} {w : World} (h : allO qs w) : allO (qs.reverse ++ List.replicate 0 po0) w := fun p hp => h p (by simpa using hp)
theorem gOk_made {b r : Nat} (h : r ≤ 1000000) : gOk 3 (some ⟨b, r, #[]⟩) (List.replicate r pr0).length := by
  rw [List.length_replicate]; exact ⟨by simp, Nat.le_refl _⟩
theorem mx_zero (r : Nat) (k : Nat) (hr : r ≤ 1000000) (hk : k ≤ 1000000) : SpecM Tryz.prog 110 #[.int .i64 ((r : Nat) : Int), .int .i64 ((k : Nat) : Int)] [] [] (ι := SA × List PO) (fun y => sl y.1 y.2.length) (fun y => okO y.2 ∧ y.2.length = r ∧ ∀ p ∈ y.2, p.2 = List.replicate k pr0) (fun y => rowsM 40 y.2) (fun y => [fL elO y.1 y.2, allO y.2]) := by
 refine SpecM.of_body _ (fn := Tryz.f110) k_ rfl k_ (fun X w0 => ?_)
 refine J.sreg ?_
 refine RN.bq (no 1) [0, 1] [] 1 [(0, .int .i64 ((r : Nat) : Int)), (1, .int .i64 ((k : Nat) : Int))] k_ ?_
 refine RN.fs k_ ?_
 refine RN.bq (no 1) [1, 7] [] 1 [(1, .int .i64 ((k : Nat) : Int)), (7, .int .i64 ((r : Nat) : Int))] k_ ?_
 refine RN.make (e := 0) (m := r) (.cells (encO (List.replicate r po0)) 28 (0, 0)) k_ k_ (q_makeO (t := 27) (m := r) (by_ := 24) (K := .i64) (K' := .i64) (n1 := ((r : Nat) : Int)) (n2 := ((r : Nat) : Int)) (x := (.tmp 7)) (y := (.tmp 7)) (e := 28) (v := .slice none 0 0) k_ k_ k_ (by omega) (by omega) k_ k_ rfl (by omega) (by omega)) (fun b1 => ?_)
 refine RN.bq (no 1) [1, 5] [] 3 [(1, .int .i64 ((k : Nat) : Int)), (5, .slice (some ⟨b1, 0, none⟩) r r)] k_ ?_
 refine RN.fin k_ ?_
 refine J.seq ?_
 refine J.sreg ?_
 refine RN.bq (no 3) [1, 5, 10, 11] [] 3 [(1, .int .i64 ((k : Nat) : Int)), (5, .slice (some ⟨b1, 0, none⟩) r r), (10, .int .i64 ((r : Nat) : Int)), (11, .int .i64 0)] k_ ?_
 refine RN.fin k_ ?_
 refine J.block ?_
 refine J.also (allO ([] : List PO)) (fun w h => allO_nil w) ?_
 refine J.loop (ι := (List PO) × (List PO) × (Nat)) (fun x => okO x.2.1 ∧ x.2.2 ≤ r ∧ x.2.1.length = x.2.2 ∧ x.1 = x.2.1.reverse ++ List.replicate (r - x.2.2) po0 ∧ ∀ p ∈ x.2.1, p.2 = List.replicate k pr0) (fun x => r - x.2.2) (fun x => [(1, .int .i64 ((k : Nat) : Int)), (5, .slice (some ⟨b1, 0, none⟩) r r), (10, .int .i64 ((r : Nat) : Int)), (11, .int .i64 ((x.2.2 : Nat) : Int))]) (fun x => [(b1, .cells (encO x.1) 28 (0, 0))] ++ (rowsM 40 x.2.1 ++ ([]))) (fun x => [allO x.2.1]) (List.replicate r po0, ([] : List PO), 0) [1, 5, 10, 11] [0] (⟨okO_nil, Nat.zero_le _, rfl, rfl, fun p h => by cases h⟩) k_ (by first | rfl | (simp only [encQ_zero]; done) | (simp only [encQ_zero]; rfl)) (by rfl) (fun x2 hI => ?_)
 obtain ⟨ms, qs, i⟩ := x2
 replace hI : okO qs ∧ i ≤ r ∧ qs.length = i ∧ ms = qs.reverse ++ List.replicate (r - i) po0 ∧ ∀ p ∈ qs, p.2 = List.replicate k pr0 := hI
 obtain ⟨hI1, hI2, hI3, hI4, hI5⟩ := hI
 have hIl : ms.length = r := by rw [hI4]; simp; omega
 refine J.sreg ?_
 refine RN.bq (no 1) [1, 5, 10, 11, 12] [] 1 [(1, .int .i64 ((k : Nat) : Int)), (5, .slice (some ⟨b1, 0, none⟩) r r), (10, .int .i64 ((r : Nat) : Int)), (11, .int .i64 ((i : Nat) : Int)), (12, .bool (decide (((i : Nat) : Int) < ((r : Nat) : Int))))] k_ ?_
 refine RN.fin k_ ?_
 refine J.seq ?_
 refine J.cond (decide (((i : Nat) : Int) < ((r : Nat) : Int))) k_ (fun c3 => ?_) (fun c3 => ?_)
 ·replace c3 := of_decide_eq_true c3
  refine J.skip ?_
  refine KN.next ?_
  refine J.seq ?_
  refine J.block ?_
  refine J.sreg ?_
  refine RN.bq (no 2) [1, 5, 6, 10, 11] [] 2 [(1, .int .i64 ((k : Nat) : Int)), (5, .slice (some ⟨b1, 0, none⟩) r r), (6, .int .i64 ((i : Nat) : Int)), (10, .int .i64 ((r : Nat) : Int)), (11, .int .i64 ((i : Nat) : Int))] k_ ?_
  refine RN.fin k_ ?_
  refine J.regN ?_
  refine RN.bq (no 3) [1, 5, 10, 11, 14, 15, 16] [] 3 [(1, .int .i64 ((k : Nat) : Int)), (5, .slice (some ⟨b1, 0, none⟩) r r), (10, .int .i64 ((r : Nat) : Int)), (11, .int .i64 ((i : Nat) : Int)), (14, .slice (some ⟨b1, 0, none⟩) r r), (15, .int .i64 ((i : Nat) : Int)), (16, .int .i64 ((k : Nat) : Int))] k_ ?_
  refine RN.make (e := 0) (m := k) (.cells (encR (List.replicate k pr0)) 40 (0, 0)) k_ k_ (q_make3 (t := 28) (m := k) (by_ := 56) (K := .i64) (K' := .i64) (n1 := ((k : Nat) : Int)) (n2 := ((k : Nat) : Int)) (x := (.tmp 16)) (y := (.tmp 16)) (e := 40) (v := .agg #[.bool false, .slice none 0 0, .slice none 0 0]) k_ k_ k_ (by omega) (by omega) k_ k_ rfl (by omega) (by omega)) (fun b4 => ?_)
  refine RN.val _ k_ k_ (q_oidx (t := 27) (x := (.tmp 14)) (ix := (.tmp 15)) (b := b1) (n := r) (c := r) (K := .i64) (i0 := ((i : Nat) : Int)) (m := i) (e := 28) (sz := 1) k_ k_ k_ k_ k_ (by omega) x_) ?_
  refine RN.ot k_ k_ (ot_ostoreL (mi := 1) (T := 28) (x := (.tmp 18)) (y := (.tmp 17)) (b := b1) (m := i) (sz := 1) (E := elO) (xs := ms) (a := (some ⟨b4, k, #[]⟩, List.replicate k pr0)) (v := .slice (some ⟨b4, 0, none⟩) k k) rfl k_ k_ k_ k_ (by simp [elO, glS, sl, Value.cells]) k_ rfl x_) (fun _ _ => ?_)
  refine RN.permM (M' := [(b1, .cells (encO (ms.set i (some ⟨b4, k, #[]⟩, List.replicate k pr0))) 28 (0, 0))] ++ (rowsM 40 ((some ⟨b4, k, #[]⟩, List.replicate k pr0) :: qs) ++ ([]))) (by exact absorb (b := b4) (n := k) (ps := List.replicate k pr0) (e := 40) (qs := qs) (C := [(b1, .cells (encO (ms.set i (some ⟨b4, k, #[]⟩, List.replicate k pr0))) 28 (0, 0))]) (G := [])) ?_
  refine RN.also (allRat (List.replicate k pr0)) (fun w h => allRat_rep _ _) ?_
  refine RN.also (allO ((some ⟨b4, k, #[]⟩, List.replicate k pr0) :: qs)) (fun w h => allO_cons (h _ (.head _)) (h _ (.tail _ ((.head _))))) ?_
  refine RN.done k_ ?_
  refine KN.blk ?_
  refine KN.next ?_
  refine J.regN ?_
  refine RN.bq (no 1) [1, 5, 10, 19] [] 1 [(1, .int .i64 ((k : Nat) : Int)), (5, .slice (some ⟨b1, 0, none⟩) r r), (10, .int .i64 ((r : Nat) : Int)), (19, .int .i64 (IntKind.i64.wrap (((i : Nat) : Int) + 1)))] k_ ?_
  rw [show IntKind.i64.wrap (((i : Nat) : Int) + 1) = ((i + 1 : Nat) : Int) from by rw [IntKind.wrap_i64]; omega]
  refine RN.bq (no 1) [1, 5, 10, 11] [] 2 [(1, .int .i64 ((k : Nat) : Int)), (5, .slice (some ⟨b1, 0, none⟩) r r), (10, .int .i64 ((r : Nat) : Int)), (11, .int .i64 ((i + 1 : Nat) : Int))] k_ ?_
  refine RN.done k_ ?_
  refine KN.roundE (ms.set i (some ⟨b4, k, #[]⟩, List.replicate k pr0), (some ⟨b4, k, #[]⟩, List.replicate k pr0) :: qs, i + 1) [1, 5, 10, 11] [0] (l2 := [(1, .int .i64 ((k : Nat) : Int)), (5, .slice (some ⟨b1, 0, none⟩) r r), (10, .int .i64 ((r : Nat) : Int)), (11, .int .i64 ((i + 1 : Nat) : Int))]) (by (try dsimp only); omega) (by (try dsimp only); exact ⟨okO_cons (gOk_made hk) (by simp; omega) hI1, by omega, by simp [hI3], by rw [hI4]; exact setrev hI3 (by omega), fun p hp => by rcases List.mem_cons.1 hp with rfl | hp; rfl; exact hI5 p hp⟩) k_ (by rfl) (by rfl) (by rfl)
 ·replace c3 := of_decide_eq_false c3
  refine J.exit (KX.next (KX.next (KX.hit ?_)))
  refine KN.next ?_
  refine J.sreg ?_
  refine RN.bq (no 2) [4] [] 2 [(4, .slice (some ⟨b1, 0, none⟩) r r)] k_ ?_
  refine RN.fin k_ ?_
  refine J.share 0 rfl rfl ?_
  refine J.also (allL elO ms) (fun w h => fun _ _ => trivial) ?_
  refine J.also (fL elO (⟨some ⟨b1, 0, none⟩, r⟩ : SA) ms) (fun w h => fL_own (h _ (.tail _ ((.head _)))) (h _ (.head _)) x_ x_) ?_
  refine J.turn 4 (v := .slice (some ⟨b1, 0, none⟩) r r) (v' := sl (⟨some ⟨b1, 0, none⟩, r⟩ : SA) ms.length) k_ (sl_eq x_) ?_
  refine J.permM (M' := rowsM 40 ms) (by show List.Perm (([] : List Blk) ++ (rowsM 40 qs ++ ([]))) _; rw [hI4, show r - i = 0 from by omega]; simpa [rowsM] using ((List.reverse_perm qs).symm.flatMap_right _)) ?_
  refine J.also (allO ms) (fun w h => by have := h (allO qs) (by simp); rw [hI4, show r - i = 0 from by omega]; exact allO_rev this) ?_
  refine J.ret (KR.retM (v := sl (⟨some ⟨b1, 0, none⟩, r⟩ : SA) ms.length) (⟨(⟨some ⟨b1, 0, none⟩, r⟩ : SA), ms⟩) [none] [1, 0] [] k_ rfl (⟨by show okO ms; rw [hI4, show r - i = 0 from by omega]; intro p hp; exact hI1 p (by simpa using hp), hIl, by show ∀ p ∈ ms, _; rw [hI4, show r - i = 0 from by omega]; intro p hp; exact hI5 p (by simpa using hp)⟩) rfl rfl)
theorem unO_len (ms : List PO) (k : Nat) : ((unO ms).getD k (saNil, [])).2.length = (ms.getD k po0).2.length := by
  rcases Nat.lt_or_ge k ms.length with h | h
  · simp [unO, List.getD_eq_getElem?_getD, List.getElem?_eq_getElem h]
  · simp [unO, List.getD_eq_getElem?_getD, List.getElem?_eq_none h, po0]
theorem rep_len {ms : List PO} {k c : Nat} (h : ∀ p ∈ ms, p.2 = List.replicate c pr0) (hk : k < ms.length) : (ms.getD k po0).2.length = c := by
  rw [h _ (getD_mem hk), List.length_replicate]
theorem RQ_z : RQ 268435456 (⟨false, [], []⟩ : Raw) := by
  have h := RQ_enc (Q_0 (k := 268435456) (by decide))
  first | exact encQ_zero ▸ h | (rw [encQ_zero] at h; exact h) | (rw [← encQ_zero] at h; exact h)
def rowsQ (xs : List PRow) : Prop := ∀ p ∈ xs, ∀ q ∈ p.2, RQ 268435456 q.2
theorem rowsQ_get {xs : List PRow} (h : rowsQ xs) {i j : Nat} (hi : i < xs.length) (hj : j < (xs.getD i (saNil, [])).2.length) : RQ 268435456 ((xs.getD i (saNil, [])).2.getD j pr0).2 := h _ (getD_mem hi) _ (getD_mem hj)
theorem cols96 {xs : List PRow} (h : fm xs) : (xs.getD 0 (saNil, [])).2.length ≤ 1000000 := by
  rcases Nat.eq_zero_or_pos xs.length with e | e
  · rw [List.eq_nil_of_length_eq_zero e]; exact Nat.zero_le _
  · have := (h.2 0 e).2.1; omega
theorem y_mx_copied {p : Prop} (h : p := by first | assumption | exact Lb_toL _ | omega | (simp; done) | exact rowsQ_get hq (by omega) (by omega) | exact cols96 hf | exact RQ_z) : p := h
theorem mx_copied (s : SA) (xs : List PRow) (hf : fm xs) (hq : rowsQ xs) : Spec Tryz.prog 112 #[sl s xs.length] [fL elM s xs] (ι := SA × List PRow) (fun y => sl y.1 y.2.length) (fun y => y.2.length = xs.length ∧ ∀ k, k < xs.length → (y.2.getD k (saNil, [])).2.length = (xs.getD 0 (saNil, [])).2.length) (fun y => [fL elM y.1 y.2]) := by
 refine Spec.of_body _ (fn := Tryz.f112) k_ rfl k_ (fun X w0 => ?_)
 refine J.fact (φ := xs.length ≤ 140737488355328) (fun w h => (h _ (.head _)).1.2) (fun hl1 => ?_)
 have hfl := hf.1
 have hfr := hf.2
 refine J.sreg ?_
 refine RN.bq (no 1) [0] [] 1 [(0, sl s xs.length)] k_ ?_
 refine RN.fs k_ ?_
 refine RN.bq (no 3) [0, 9, 10] [] 3 [(0, sl s xs.length), (9, .int .i64 ((xs.length : Nat) : Int)), (10, sl s xs.length)] k_ ?_
 refine RN.call (mx_columns s xs) [0] k_ k_ k_ rfl (fun y2 _ => ?_)
 refine RN.callM (mx_zero xs.length ((xs.getD 0 (saNil, [])).2.length) y_mx_copied y_mx_copied) [] ([]) [] k_ k_ k_ rfl rfl (fun z h3 => ?_)
 obtain ⟨hz1, hz2, hz3⟩ := h3
 refine RN.bq (no 1) [0, 3] [] 6 [(0, sl s xs.length), (3, sl z.1 z.2.length)] k_ ?_
 refine RN.fin k_ ?_
 refine J.seq ?_
 refine J.sreg ?_
 refine RN.bq (no 3) [3, 13, 14, 15] [] 3 [(3, sl z.1 z.2.length), (13, sl s xs.length), (14, .int .i64 ((xs.length : Nat) : Int)), (15, .int .i64 0)] k_ ?_
 refine RN.fin k_ ?_
 refine J.block ?_
 refine J.loop (ι := (List PO) × (Nat)) (fun x => okO x.1 ∧ x.2 ≤ xs.length ∧ x.1.length = xs.length ∧ ∀ k, k < x.1.length → (x.1.getD k po0).2.length = (xs.getD 0 (saNil, [])).2.length) (fun x => xs.length - x.2) (fun x => [(3, sl z.1 x.1.length), (13, sl s xs.length), (14, .int .i64 ((xs.length : Nat) : Int)), (15, .int .i64 ((x.2 : Nat) : Int))]) (fun x => [] ++ (rowsM 40 x.1 ++ ([]))) (fun x => [fL elO z.1 x.1, allO x.1, fL elO z.1 z.2, allO z.2, fL elM s xs]) (z.2, 0) [3, 13, 14, 15] [0, 1, 0, 1, 2] (⟨hz1, Nat.zero_le _, hz2, fun k hk => rep_len hz3 hk⟩) k_ (by first | rfl | (simp only [encQ_zero]; done) | (simp only [encQ_zero]; rfl)) (by rfl) (fun x4 hI => ?_)
 obtain ⟨ms, i⟩ := x4
 replace hI : okO ms ∧ i ≤ xs.length ∧ ms.length = xs.length ∧ ∀ k, k < ms.length → (ms.getD k po0).2.length = (xs.getD 0 (saNil, [])).2.length := hI
 obtain ⟨hI1, hI2, hI3, hI4⟩ := hI
 refine J.sreg ?_
 refine RN.bq (no 1) [3, 13, 14, 15, 16] [] 1 [(3, sl z.1 ms.length), (13, sl s xs.length), (14, .int .i64 ((xs.length : Nat) : Int)), (15, .int .i64 ((i : Nat) : Int)), (16, .bool (decide (((i : Nat) : Int) < ((xs.length : Nat) : Int))))] k_ ?_
 refine RN.fin k_ ?_
 refine J.seq ?_
 refine J.cond (decide (((i : Nat) : Int) < ((xs.length : Nat) : Int))) k_ (fun c5 => ?_) (fun c5 => ?_)
 ·replace c5 := of_decide_eq_true c5
  refine J.skip ?_
  refine KN.next ?_
  refine J.seq ?_
  refine J.block ?_
  refine J.sreg ?_
  refine RN.bq (no 1) [3, 13, 14, 15, 17] [] 1 [(3, sl z.1 ms.length), (13, sl s xs.length), (14, .int .i64 ((xs.length : Nat) : Int)), (15, .int .i64 ((i : Nat) : Int)), (17, .int .i64 ((i : Nat) : Int))] k_ ?_
  refine RN.val _ k_ k_ (q_lidx (t := 27) (x := (.tmp 13)) (ix := (.tmp 15)) (K := .i64) (i0 := ((i : Nat) : Int)) (m := i) (e := 28) (E := elM) (sz := 1) (s := s) (xs := xs) 4 rfl rfl k_ k_ k_ k_ k_ (by omega) x_) ?_
  refine RN.val _ k_ k_ (q_lload1 (T := 28) (x := (.tmp 18)) (m := i) (s := s) (E := elM) (xs := xs) 4 rfl rfl k_ k_ k_ rfl x_) ?_
  refine RN.also (fRats ((xs.getD i (saNil, [])).1) ((xs.getD i (saNil, [])).2)) (fun w h => (fL_elem (h _ (.tail _ ((.tail _ ((.tail _ ((.tail _ ((.head _)))))))))) x_)) ?_
  refine RN.bq (no 2) [3, 4, 5, 13, 14, 15] [] 5 [(3, sl z.1 ms.length), (4, .int .i64 ((i : Nat) : Int)), (5, sl ((xs.getD i (saNil, [])).1) ((xs.getD i (saNil, [])).2).length), (13, sl s xs.length), (14, .int .i64 ((xs.length : Nat) : Int)), (15, .int .i64 ((i : Nat) : Int))] k_ ?_
  refine RN.fs k_ ?_
  refine RN.bq (no 3) [3, 4, 13, 14, 15, 20, 21, 22] [] 3 [(3, sl z.1 ms.length), (4, .int .i64 ((i : Nat) : Int)), (13, sl s xs.length), (14, .int .i64 ((xs.length : Nat) : Int)), (15, .int .i64 ((i : Nat) : Int)), (20, sl ((xs.getD i (saNil, [])).1) ((xs.getD i (saNil, [])).2).length), (21, .int .i64 ((((xs.getD i (saNil, [])).2).length : Nat) : Int)), (22, .int .i64 0)] k_ ?_
  refine RN.fin k_ ?_
  refine J.block ?_
  refine J.loop (ι := (List PO) × (Nat)) (fun x => okO x.1 ∧ x.2 ≤ (xs.getD i (saNil, [])).2.length ∧ x.1.length = xs.length ∧ ∀ k, k < x.1.length → (x.1.getD k po0).2.length = (xs.getD 0 (saNil, [])).2.length) (fun x => (xs.getD i (saNil, [])).2.length - x.2) (fun x => [(3, sl z.1 x.1.length), (4, .int .i64 ((i : Nat) : Int)), (13, sl s xs.length), (14, .int .i64 ((xs.length : Nat) : Int)), (15, .int .i64 ((i : Nat) : Int)), (20, sl ((xs.getD i (saNil, [])).1) ((xs.getD i (saNil, [])).2).length), (21, .int .i64 ((((xs.getD i (saNil, [])).2).length : Nat) : Int)), (22, .int .i64 ((x.2 : Nat) : Int))]) (fun x => [] ++ (rowsM 40 x.1 ++ ([]))) (fun x => [fL elO z.1 x.1, allO x.1, fRats ((xs.getD i (saNil, [])).1) ((xs.getD i (saNil, [])).2), fL elO z.1 ms, allO ms, fL elO z.1 z.2, allO z.2, fL elM s xs]) (ms, 0) [3, 4, 13, 14, 15, 20, 21, 22] [1, 2, 0, 1, 2, 3, 4, 5] (⟨hI1, Nat.zero_le _, hI3, hI4⟩) k_ (by first | rfl | (simp only [encQ_zero]; done) | (simp only [encQ_zero]; rfl)) (by rfl) (fun x6 hJ => ?_)
  obtain ⟨ms2, j⟩ := x6
  replace hJ : okO ms2 ∧ j ≤ (xs.getD i (saNil, [])).2.length ∧ ms2.length = xs.length ∧ ∀ k, k < ms2.length → (ms2.getD k po0).2.length = (xs.getD 0 (saNil, [])).2.length := hJ
  obtain ⟨hJ1, hJ2, hJ3, hJ4⟩ := hJ
  have hrow := (hf.2 i (by omega)).2
  have hJ5 := hJ4 i (by omega)
  refine J.sreg ?_
  refine RN.bq (no 1) [3, 4, 13, 14, 15, 20, 21, 22, 23] [] 1 [(3, sl z.1 ms2.length), (4, .int .i64 ((i : Nat) : Int)), (13, sl s xs.length), (14, .int .i64 ((xs.length : Nat) : Int)), (15, .int .i64 ((i : Nat) : Int)), (20, sl ((xs.getD i (saNil, [])).1) ((xs.getD i (saNil, [])).2).length), (21, .int .i64 ((((xs.getD i (saNil, [])).2).length : Nat) : Int)), (22, .int .i64 ((j : Nat) : Int)), (23, .bool (decide (((j : Nat) : Int) < ((((xs.getD i (saNil, [])).2).length : Nat) : Int))))] k_ ?_
  refine RN.fin k_ ?_
  refine J.seq ?_
  refine J.cond (decide (((j : Nat) : Int) < ((((xs.getD i (saNil, [])).2).length : Nat) : Int))) k_ (fun c7 => ?_) (fun c7 => ?_)
  ·replace c7 := of_decide_eq_true c7
   refine J.skip ?_
   refine KN.next ?_
   refine J.seq ?_
   refine J.block ?_
   refine J.sreg ?_
   refine RN.bq (no 1) [3, 4, 13, 14, 15, 20, 21, 22, 24] [] 1 [(3, sl z.1 ms2.length), (4, .int .i64 ((i : Nat) : Int)), (13, sl s xs.length), (14, .int .i64 ((xs.length : Nat) : Int)), (15, .int .i64 ((i : Nat) : Int)), (20, sl ((xs.getD i (saNil, [])).1) ((xs.getD i (saNil, [])).2).length), (21, .int .i64 ((((xs.getD i (saNil, [])).2).length : Nat) : Int)), (22, .int .i64 ((j : Nat) : Int)), (24, .int .i64 ((j : Nat) : Int))] k_ ?_
   refine RN.val _ k_ k_ (q_ridx (t := 28) (x := (.tmp 20)) (ix := (.tmp 22)) (K := .i64) (i0 := ((j : Nat) : Int)) (m := j) (e := 40) 2 rfl k_ k_ k_ k_ k_ (by omega) x_) ?_
   refine RN.val _ k_ k_ (q_rload (T := 40) (x := (.tmp 25)) (m := j) (s := ((xs.getD i (saNil, [])).1)) (ps := ((xs.getD i (saNil, [])).2)) 2 rfl k_ k_ k_ k_ x_) ?_
   refine RN.also (fRat ((((xs.getD i (saNil, [])).2).getD j pr0).1) ((((xs.getD i (saNil, [])).2).getD j pr0).2)) (fun w h => rat_of (h _ (.tail _ ((.tail _ ((.head _)))))) x_) ?_
   refine RN.new (fun b => pt b) (.cells (ratC (⟨saNil, saNil⟩ : RA) (⟨false, ([] : List Nat), ([] : List Nat)⟩ : Raw)) 40 (0, 0)) k_ k_ (fun w => by kernel_rfl) (fun b8 => ?_)
   refine RN.bs [none, some 0] [3, 4, 6, 7, 13, 14, 15, 20, 21, 22] [b8, b8, b8] 6 [(3, sl z.1 ms2.length), (4, .int .i64 ((i : Nat) : Int)), (6, .int .i64 ((j : Nat) : Int)), (7, pt b8), (13, sl s xs.length), (14, .int .i64 ((xs.length : Nat) : Int)), (15, .int .i64 ((i : Nat) : Int)), (20, sl ((xs.getD i (saNil, [])).1) ((xs.getD i (saNil, [])).2).length), (21, .int .i64 ((((xs.getD i (saNil, [])).2).length : Nat) : Int)), (22, .int .i64 ((j : Nat) : Int))] ([(b8, .cells (ratC ((((xs.getD i (saNil, [])).2).getD j pr0).1) ((((xs.getD i (saNil, [])).2).getD j pr0).2)) 40 (0, 0))] ++ (rowsM 40 ms2 ++ ([]))) k_ ?_
   refine RN.fin k_ ?_
   refine J.regD k_ [9] ?_
   refine RD.bq [(0, none), (1, none), (4, none), (5, some 0), (6, none)] [3, 4, 13, 14, 15, 20, 21, 22, 27, 28, 31, 32, 33] [b8, b8, b8] [(3, sl z.1 ms2.length), (4, .int .i64 ((i : Nat) : Int)), (13, sl s xs.length), (14, .int .i64 ((xs.length : Nat) : Int)), (15, .int .i64 ((i : Nat) : Int)), (20, sl ((xs.getD i (saNil, [])).1) ((xs.getD i (saNil, [])).2).length), (21, .int .i64 ((((xs.getD i (saNil, [])).2).length : Nat) : Int)), (22, .int .i64 ((j : Nat) : Int)), (27, sl z.1 ms2.length), (28, .int .i64 ((i : Nat) : Int)), (31, .int .i64 ((j : Nat) : Int)), (32, ratV ((((xs.getD i (saNil, [])).2).getD j pr0).1) ((((xs.getD i (saNil, [])).2).getD j pr0).2)), (33, ratV (⟨saNil, saNil⟩ : RA) (⟨false, ([] : List Nat), ([] : List Nat)⟩ : Raw))] k_ k_ ?_
   refine RD.val (i := 2) _ k_ k_ k_ (q_lidx (t := 27) (x := (.tmp 27)) (ix := (.tmp 28)) (K := .i64) (i0 := ((i : Nat) : Int)) (m := i) (e := 28) (E := elO) (sz := 1) (s := z.1) (xs := ms2) 1 rfl rfl k_ k_ k_ k_ k_ (by omega) x_) ?_
   refine RD.val (i := 3) _ k_ k_ k_ (q_lload1 (T := 28) (x := (.tmp 29)) (m := i) (s := z.1) (E := elO) (xs := ms2) 1 rfl rfl k_ k_ k_ rfl x_) ?_
   refine RD.also (fRat (⟨saNil, saNil⟩ : RA) (⟨false, ([] : List Nat), ([] : List Nat)⟩ : Raw)) (fun w h => ⟨fU_nil w, fU_nil w⟩) k_ ?_
   refine RD.call (i := 7) (rational_Add ((((xs.getD i (saNil, [])).2).getD j pr0).1) ((((xs.getD i (saNil, [])).2).getD j pr0).2) ⟨saNil, saNil⟩ ⟨false, ([] : List Nat), ([] : List Nat)⟩ y_mx_copied y_mx_copied) [1, 0] k_ k_ k_ k_ k_ rfl (fun y9 _ => ?_)
   refine RD.val (i := 8) _ k_ k_ k_ (q_gidxL (go := ((ms2.getD i po0).1)) (t := 28) (x := (.tmp 30)) (ix := (.tmp 31)) (k := ((ms2.getD i po0).2).length) (K := .i64) (i0 := ((j : Nat) : Int)) (m := j) (e := 40) (sz := 3) k_ k_ k_ k_ k_ (by omega) x_ ((okO_get (by assumption) x_).1)) ?_
   refine RD.ot (i := 9) k_ k_ k_ k_ (ot_rowstore (T := 40) (x := (.tmp 35)) (y := (.tmp 34)) (m := j) (e := 40) (i := i) (ms := ms2) (a := (y9, (encQ ((qv ((((xs.getD i (saNil, [])).2).getD j pr0).2)) + (qv (⟨false, ([] : List Nat), ([] : List Nat)⟩ : Raw)))))) (v := ratV y9 (encQ ((qv ((((xs.getD i (saNil, [])).2).getD j pr0).2)) + (qv (⟨false, ([] : List Nat), ([] : List Nat)⟩ : Raw))))) [(b8, .cells (ratC ((((xs.getD i (saNil, [])).2).getD j pr0).1) ((((xs.getD i (saNil, [])).2).getD j pr0).2)) 40 (0, 0))] ([]) rfl k_ k_ k_ k_ rfl k_ x_ x_ (by assumption)) (fun _ hg10 => ?_)
   refine RD.also (allO (ms2.set i ((ms2.getD i po0).1, (ms2.getD i po0).2.set j (y9, (encQ ((qv ((((xs.getD i (saNil, [])).2).getD j pr0).2)) + (qv (⟨false, ([] : List Nat), ([] : List Nat)⟩ : Raw)))))))) (fun w h => allO_set (h _ (.tail _ ((.tail _ ((.tail _ ((.tail _ ((.head _)))))))))) x_ (h _ (.head _))) k_ ?_
   refine RD.also (fL elO z.1 (ms2.set i ((ms2.getD i po0).1, (ms2.getD i po0).2.set j (y9, (encQ ((qv ((((xs.getD i (saNil, [])).2).getD j pr0).2)) + (qv (⟨false, ([] : List Nat), ([] : List Nat)⟩ : Raw)))))))) (fun w h => fLO_set (h _ (.tail _ ((.tail _ ((.tail _ ((.tail _ ((.head _)))))))))) x_ _) k_ ?_
   refine RD.turn 3 (v := sl z.1 ms2.length) (v' := sl z.1 (ms2.set i ((ms2.getD i po0).1, (ms2.getD i po0).2.set j (y9, (encQ ((qv ((((xs.getD i (saNil, [])).2).getD j pr0).2)) + (qv (⟨false, ([] : List Nat), ([] : List Nat)⟩ : Raw))))))).length) k_ (sl_len (by simp)) ?_
   refine RD.turn 27 (v := sl z.1 ms2.length) (v' := sl z.1 (ms2.set i ((ms2.getD i po0).1, (ms2.getD i po0).2.set j (y9, (encQ ((qv ((((xs.getD i (saNil, [])).2).getD j pr0).2)) + (qv (⟨false, ([] : List Nat), ([] : List Nat)⟩ : Raw))))))).length) k_ (sl_len (by simp)) ?_
   refine RD.done k_ ?_
   refine KN.blk ?_
   refine KN.next ?_
   refine J.regN ?_
   refine RN.bq (no 1) [3, 4, 13, 14, 15, 20, 21, 36] [] 1 [(3, sl z.1 (ms2.set i ((ms2.getD i po0).1, (ms2.getD i po0).2.set j (y9, (encQ ((qv ((((xs.getD i (saNil, [])).2).getD j pr0).2)) + (qv (⟨false, ([] : List Nat), ([] : List Nat)⟩ : Raw))))))).length), (4, .int .i64 ((i : Nat) : Int)), (13, sl s xs.length), (14, .int .i64 ((xs.length : Nat) : Int)), (15, .int .i64 ((i : Nat) : Int)), (20, sl ((xs.getD i (saNil, [])).1) ((xs.getD i (saNil, [])).2).length), (21, .int .i64 ((((xs.getD i (saNil, [])).2).length : Nat) : Int)), (36, .int .i64 (IntKind.i64.wrap (((j : Nat) : Int) + 1)))] k_ ?_
   rw [show IntKind.i64.wrap (((j : Nat) : Int) + 1) = ((j + 1 : Nat) : Int) from by rw [IntKind.wrap_i64]; omega]
   refine RN.bq (no 1) [3, 4, 13, 14, 15, 20, 21, 22] [] 2 [(3, sl z.1 (ms2.set i ((ms2.getD i po0).1, (ms2.getD i po0).2.set j (y9, (encQ ((qv ((((xs.getD i (saNil, [])).2).getD j pr0).2)) + (qv (⟨false, ([] : List Nat), ([] : List Nat)⟩ : Raw))))))).length), (4, .int .i64 ((i : Nat) : Int)), (13, sl s xs.length), (14, .int .i64 ((xs.length : Nat) : Int)), (15, .int .i64 ((i : Nat) : Int)), (20, sl ((xs.getD i (saNil, [])).1) ((xs.getD i (saNil, [])).2).length), (21, .int .i64 ((((xs.getD i (saNil, [])).2).length : Nat) : Int)), (22, .int .i64 ((j + 1 : Nat) : Int))] k_ ?_
   refine RN.done k_ ?_
   refine KN.dropF 1 ?_
   refine KN.roundE (ms2.set i ((ms2.getD i po0).1, (ms2.getD i po0).2.set j (y9, (encQ ((qv ((((xs.getD i (saNil, [])).2).getD j pr0).2)) + (qv (⟨false, ([] : List Nat), ([] : List Nat)⟩ : Raw)))))), j + 1) [3, 4, 13, 14, 15, 20, 21, 22] [0, 1, 7, 8, 9, 10, 11, 12] (l2 := [(3, sl z.1 (ms2.set i ((ms2.getD i po0).1, (ms2.getD i po0).2.set j (y9, (encQ ((qv ((((xs.getD i (saNil, [])).2).getD j pr0).2)) + (qv (⟨false, ([] : List Nat), ([] : List Nat)⟩ : Raw))))))).length), (4, .int .i64 ((i : Nat) : Int)), (13, sl s xs.length), (14, .int .i64 ((xs.length : Nat) : Int)), (15, .int .i64 ((i : Nat) : Int)), (20, sl ((xs.getD i (saNil, [])).1) ((xs.getD i (saNil, [])).2).length), (21, .int .i64 ((((xs.getD i (saNil, [])).2).length : Nat) : Int)), (22, .int .i64 ((j + 1 : Nat) : Int))]) (by (try dsimp only); omega) (by (try dsimp only); exact ⟨by assumption, by omega, by simp [hJ3], fun k hk => ((shape_set (by omega) _ k (by simpa using hk)).2).trans (hJ4 k (by simpa using hk))⟩) k_ (by rfl) (by rfl) (by rfl)
  ·replace c7 := of_decide_eq_false c7
   refine J.exit (KX.next (KX.next (KX.hit ?_)))
   refine KN.blk ?_
   refine KN.next ?_
   refine J.regN ?_
   refine RN.bq (no 1) [3, 13, 14, 37] [] 1 [(3, sl z.1 ms2.length), (13, sl s xs.length), (14, .int .i64 ((xs.length : Nat) : Int)), (37, .int .i64 (IntKind.i64.wrap (((i : Nat) : Int) + 1)))] k_ ?_
   rw [show IntKind.i64.wrap (((i : Nat) : Int) + 1) = ((i + 1 : Nat) : Int) from by rw [IntKind.wrap_i64]; omega]
   refine RN.bq (no 1) [3, 13, 14, 15] [] 2 [(3, sl z.1 ms2.length), (13, sl s xs.length), (14, .int .i64 ((xs.length : Nat) : Int)), (15, .int .i64 ((i + 1 : Nat) : Int))] k_ ?_
   refine RN.done k_ ?_
   refine KN.roundE (ms2, i + 1) [3, 13, 14, 15] [0, 1, 5, 6, 7] (l2 := [(3, sl z.1 ms2.length), (13, sl s xs.length), (14, .int .i64 ((xs.length : Nat) : Int)), (15, .int .i64 ((i + 1 : Nat) : Int))]) (by (try dsimp only); omega) (by (try dsimp only); exact ⟨hJ1, by omega, hJ3, hJ4⟩) k_ (by rfl) (by rfl) (by rfl)
 ·replace c5 := of_decide_eq_false c5
  refine J.exit (KX.next (KX.next (KX.hit ?_)))
  refine KN.next ?_
  refine J.sreg ?_
  refine RN.bq (no 2) [2] [] 2 [(2, sl z.1 ms.length)] k_ ?_
  refine RN.fin k_ ?_
  refine J.shareB [] ([]) rfl (fL elM z.1 (unO ms)) (fun w hb h => fLM_of (h _ (.head _)) hb (h _ (.tail _ ((.head _)))) (by assumption)) ?_
  refine J.turn 2 (v := sl z.1 ms.length) (v' := sl z.1 (unO ms).length) k_ (sl_len (by simp [unO])) ?_
  refine J.ret (KR.ret (v := sl z.1 (unO ms).length) (⟨z.1, unO ms⟩) [none] [0] [] k_ rfl (⟨by show (unO ms).length = _; simp [unO, hI3], fun k hk => (unO_len ms k).trans (hI4 k (by omega))⟩) rfl)
theorem fm_lens {xs ys : List PRow} (h : fm xs) (hl : ys.length = xs.length) (hr : ∀ k, k < xs.length → (ys.getD k (saNil, [])).2.length = (xs.getD 0 (saNil, [])).2.length) : ∀ k, k < ys.length → (ys.getD k (saNil, [])).2.length = (xs.getD 0 (saNil, [])).2.length ∧ (xs.getD 0 (saNil, [])).2.length ≤ 96 := fun k hk => ⟨hr k (by omega), by have := h.2 k (by omega); omega⟩
theorem y_mx_Transpose {p : Prop} (h : p := by first | assumption | exact Lb_toL _ | omega | (simp; done) | exact hq | exact cols96 hf | exact hf) : p := h
theorem mx_Transpose (s : SA) (xs : List PRow) (hq : rowsQ xs) : Spec Tryz.prog 65 #[sl s xs.length] [fL elM s xs] (ι := Value) (fun y => .tuple #[y, .int .i64 (if fm xs then 0 else 6)]) (fun y => True) (fun y => []) := by
 refine Spec.of_body _ (fn := Tryz.f65) k_ rfl k_ (fun X w0 => ?_)
 refine J.fact (φ := xs.length ≤ 140737488355328) (fun w h => (h _ (.head _)).1.2) (fun hl1 => ?_)
 refine J.sreg ?_
 refine RN.bq (no 2) [0] [] 2 [(0, sl s xs.length)] k_ ?_
 refine RN.fin k_ ?_
 refine J.seq ?_
 refine J.sreg ?_
 refine RN.bq (no 1) [0, 9] [] 1 [(0, sl s xs.length), (9, sl s xs.length)] k_ ?_
 refine RN.call (mx_formed s xs) [0] k_ k_ k_ rfl (fun y2 _ => ?_)
 refine RN.bq (no 1) [0, 11] [] 3 [(0, sl s xs.length), (11, .bool (!(decide (fm xs))))] k_ ?_
 refine RN.fin k_ ?_
 refine J.cond (!(decide (fm xs))) k_ (fun c3 => ?_) (fun c3 => ?_)
 ·replace c3 := of_decide_eq_false ((Bool.not_eq_true' _).mp c3)
  refine J.sreg ?_
  refine RN.bq (no 2) [2, 3] [] 2 [(2, .slice none 0 0), (3, .int .i64 6)] k_ ?_
  refine RN.fin k_ ?_
  have e_1 : ((if fm xs then 0 else 6) : Int) = (6 : Int) := by first | exact if_neg (by simpa using ‹_›) | exact if_pos hf
  refine J.ret (KR.next (KR.ret (v := .tuple #[.slice none 0 0, .int .i64 6]) ((.slice none 0 0)) [none, none] [] [] k_ v1_ (trivial) v1_))
 ·replace c3 := of_decide_eq_true ((Bool.not_eq_false' _).mp c3)
  have hf : fm xs := by simpa using c3
  have hfl := hf.1
  have hfr := hf.2
  refine J.skip ?_
  refine KN.next ?_
  refine J.sreg ?_
  refine RN.bq (no 1) [0, 12] [] 1 [(0, sl s xs.length), (12, sl s xs.length)] k_ ?_
  refine RN.call (mx_columns s xs) [0] k_ k_ k_ rfl (fun y4 _ => ?_)
  refine RN.bq (no 2) [0, 13, 15] [] 4 [(0, sl s xs.length), (13, .int .i64 (((xs.getD 0 (saNil, [])).2.length : Nat) : Int)), (15, .int .i64 ((xs.length : Nat) : Int))] k_ ?_
  refine RN.callM (mx_zero ((xs.getD 0 (saNil, [])).2.length) xs.length y_mx_Transpose y_mx_Transpose) [] ([]) [] k_ k_ k_ rfl rfl (fun z h5 => ?_)
  obtain ⟨hz1, hz2, hz3⟩ := h5
  refine RN.bq (no 1) [0, 4] [] 6 [(0, sl s xs.length), (4, sl z.1 z.2.length)] k_ ?_
  refine RN.fin k_ ?_
  refine J.seq ?_
  refine J.sreg ?_
  refine RN.bq (no 1) [4, 17] [] 1 [(4, sl z.1 z.2.length), (17, sl s xs.length)] k_ ?_
  refine RN.call (mx_copied s xs y_mx_Transpose y_mx_Transpose) [2] k_ k_ k_ rfl (fun cp h6 => ?_)
  obtain ⟨hcp1, hcp2⟩ := h6
  have hcp3 := fm_lens hf hcp1 hcp2
  refine RN.bq (no 2) [4, 18, 19, 20] [] 4 [(4, sl z.1 z.2.length), (18, sl cp.1 cp.2.length), (19, .int .i64 ((cp.2.length : Nat) : Int)), (20, .int .i64 0)] k_ ?_
  refine RN.fin k_ ?_
  refine J.block ?_
  refine J.loop (ι := (List PO) × (Nat)) (fun x => okO x.1 ∧ x.2 ≤ cp.2.length ∧ x.1.length = (xs.getD 0 (saNil, [])).2.length ∧ ∀ k, k < x.1.length → (x.1.getD k po0).2.length = xs.length) (fun x => cp.2.length - x.2) (fun x => [(4, sl z.1 x.1.length), (18, sl cp.1 cp.2.length), (19, .int .i64 ((cp.2.length : Nat) : Int)), (20, .int .i64 ((x.2 : Nat) : Int))]) (fun x => [] ++ (rowsM 40 x.1 ++ ([]))) (fun x => [fL elO z.1 x.1, allO x.1, fL elM cp.1 cp.2, fL elO z.1 z.2, allO z.2, fL elM s xs]) (z.2, 0) [4, 18, 19, 20] [1, 2, 0, 1, 2, 3] (⟨hz1, Nat.zero_le _, hz2, fun k hk => rep_len hz3 hk⟩) k_ (by first | rfl | (simp only [encQ_zero]; done) | (simp only [encQ_zero]; rfl)) (by rfl) (fun x7 hI => ?_)
  obtain ⟨ms, i⟩ := x7
  replace hI : okO ms ∧ i ≤ cp.2.length ∧ ms.length = (xs.getD 0 (saNil, [])).2.length ∧ ∀ k, k < ms.length → (ms.getD k po0).2.length = xs.length := hI
  obtain ⟨hI1, hI2, hI3, hI4⟩ := hI
  refine J.sreg ?_
  refine RN.bq (no 1) [4, 18, 19, 20, 21] [] 1 [(4, sl z.1 ms.length), (18, sl cp.1 cp.2.length), (19, .int .i64 ((cp.2.length : Nat) : Int)), (20, .int .i64 ((i : Nat) : Int)), (21, .bool (decide (((i : Nat) : Int) < ((cp.2.length : Nat) : Int))))] k_ ?_
  refine RN.fin k_ ?_
  refine J.seq ?_
  refine J.cond (decide (((i : Nat) : Int) < ((cp.2.length : Nat) : Int))) k_ (fun c8 => ?_) (fun c8 => ?_)
  ·replace c8 := of_decide_eq_true c8
   refine J.skip ?_
   refine KN.next ?_
   refine J.seq ?_
   refine J.block ?_
   refine J.sreg ?_
   refine RN.bq (no 1) [4, 18, 19, 20, 22] [] 1 [(4, sl z.1 ms.length), (18, sl cp.1 cp.2.length), (19, .int .i64 ((cp.2.length : Nat) : Int)), (20, .int .i64 ((i : Nat) : Int)), (22, .int .i64 ((i : Nat) : Int))] k_ ?_
   refine RN.val _ k_ k_ (q_lidx (t := 27) (x := (.tmp 18)) (ix := (.tmp 20)) (K := .i64) (i0 := ((i : Nat) : Int)) (m := i) (e := 28) (E := elM) (sz := 1) (s := cp.1) (xs := cp.2) 2 rfl rfl k_ k_ k_ k_ k_ (by omega) x_) ?_
   refine RN.val _ k_ k_ (q_lload1 (T := 28) (x := (.tmp 23)) (m := i) (s := cp.1) (E := elM) (xs := cp.2) 2 rfl rfl k_ k_ k_ rfl x_) ?_
   refine RN.also (fRats ((cp.2.getD i (saNil, [])).1) ((cp.2.getD i (saNil, [])).2)) (fun w h => (fL_elem (h _ (.tail _ ((.tail _ ((.head _)))))) x_)) ?_
   refine RN.bq (no 2) [4, 5, 6, 18, 19, 20] [] 5 [(4, sl z.1 ms.length), (5, .int .i64 ((i : Nat) : Int)), (6, sl ((cp.2.getD i (saNil, [])).1) ((cp.2.getD i (saNil, [])).2).length), (18, sl cp.1 cp.2.length), (19, .int .i64 ((cp.2.length : Nat) : Int)), (20, .int .i64 ((i : Nat) : Int))] k_ ?_
   refine RN.fs k_ ?_
   refine RN.bq (no 3) [4, 5, 18, 19, 20, 25, 26, 27] [] 3 [(4, sl z.1 ms.length), (5, .int .i64 ((i : Nat) : Int)), (18, sl cp.1 cp.2.length), (19, .int .i64 ((cp.2.length : Nat) : Int)), (20, .int .i64 ((i : Nat) : Int)), (25, sl ((cp.2.getD i (saNil, [])).1) ((cp.2.getD i (saNil, [])).2).length), (26, .int .i64 ((((cp.2.getD i (saNil, [])).2).length : Nat) : Int)), (27, .int .i64 0)] k_ ?_
   refine RN.fin k_ ?_
   refine J.block ?_
   refine J.loop (ι := (List PO) × (Nat)) (fun x => okO x.1 ∧ x.2 ≤ (cp.2.getD i (saNil, [])).2.length ∧ x.1.length = (xs.getD 0 (saNil, [])).2.length ∧ ∀ k, k < x.1.length → (x.1.getD k po0).2.length = xs.length) (fun x => (cp.2.getD i (saNil, [])).2.length - x.2) (fun x => [(4, sl z.1 x.1.length), (5, .int .i64 ((i : Nat) : Int)), (18, sl cp.1 cp.2.length), (19, .int .i64 ((cp.2.length : Nat) : Int)), (20, .int .i64 ((i : Nat) : Int)), (25, sl ((cp.2.getD i (saNil, [])).1) ((cp.2.getD i (saNil, [])).2).length), (26, .int .i64 ((((cp.2.getD i (saNil, [])).2).length : Nat) : Int)), (27, .int .i64 ((x.2 : Nat) : Int))]) (fun x => [] ++ (rowsM 40 x.1 ++ ([]))) (fun x => [fL elO z.1 x.1, allO x.1, fRats ((cp.2.getD i (saNil, [])).1) ((cp.2.getD i (saNil, [])).2), fL elO z.1 ms, allO ms, fL elM cp.1 cp.2, fL elO z.1 z.2, allO z.2, fL elM s xs]) (ms, 0) [4, 5, 18, 19, 20, 25, 26, 27] [1, 2, 0, 1, 2, 3, 4, 5, 6] (⟨hI1, Nat.zero_le _, hI3, hI4⟩) k_ (by first | rfl | (simp only [encQ_zero]; done) | (simp only [encQ_zero]; rfl)) (by rfl) (fun x9 hJ => ?_)
   obtain ⟨ms2, j⟩ := x9
   replace hJ : okO ms2 ∧ j ≤ (cp.2.getD i (saNil, [])).2.length ∧ ms2.length = (xs.getD 0 (saNil, [])).2.length ∧ ∀ k, k < ms2.length → (ms2.getD k po0).2.length = xs.length := hJ
   obtain ⟨hJ1, hJ2, hJ3, hJ4⟩ := hJ
   have hrow := hcp3 i (by omega)
   refine J.sreg ?_
   refine RN.bq (no 1) [4, 5, 18, 19, 20, 25, 26, 27, 28] [] 1 [(4, sl z.1 ms2.length), (5, .int .i64 ((i : Nat) : Int)), (18, sl cp.1 cp.2.length), (19, .int .i64 ((cp.2.length : Nat) : Int)), (20, .int .i64 ((i : Nat) : Int)), (25, sl ((cp.2.getD i (saNil, [])).1) ((cp.2.getD i (saNil, [])).2).length), (26, .int .i64 ((((cp.2.getD i (saNil, [])).2).length : Nat) : Int)), (27, .int .i64 ((j : Nat) : Int)), (28, .bool (decide (((j : Nat) : Int) < ((((cp.2.getD i (saNil, [])).2).length : Nat) : Int))))] k_ ?_
   refine RN.fin k_ ?_
   refine J.seq ?_
   refine J.cond (decide (((j : Nat) : Int) < ((((cp.2.getD i (saNil, [])).2).length : Nat) : Int))) k_ (fun c10 => ?_) (fun c10 => ?_)
   ·replace c10 := of_decide_eq_true c10
    refine J.skip ?_
    refine KN.next ?_
    refine J.seq ?_
    refine J.block ?_
    refine J.sreg ?_
    refine RN.bq (no 1) [4, 5, 18, 19, 20, 25, 26, 27, 29] [] 1 [(4, sl z.1 ms2.length), (5, .int .i64 ((i : Nat) : Int)), (18, sl cp.1 cp.2.length), (19, .int .i64 ((cp.2.length : Nat) : Int)), (20, .int .i64 ((i : Nat) : Int)), (25, sl ((cp.2.getD i (saNil, [])).1) ((cp.2.getD i (saNil, [])).2).length), (26, .int .i64 ((((cp.2.getD i (saNil, [])).2).length : Nat) : Int)), (27, .int .i64 ((j : Nat) : Int)), (29, .int .i64 ((j : Nat) : Int))] k_ ?_
    refine RN.val _ k_ k_ (q_ridx (t := 28) (x := (.tmp 25)) (ix := (.tmp 27)) (K := .i64) (i0 := ((j : Nat) : Int)) (m := j) (e := 40) 2 rfl k_ k_ k_ k_ k_ (by omega) x_) ?_
    refine RN.val _ k_ k_ (q_rload (T := 40) (x := (.tmp 30)) (m := j) (s := ((cp.2.getD i (saNil, [])).1)) (ps := ((cp.2.getD i (saNil, [])).2)) 2 rfl k_ k_ k_ k_ x_) ?_
    refine RN.also (fRat ((((cp.2.getD i (saNil, [])).2).getD j pr0).1) ((((cp.2.getD i (saNil, [])).2).getD j pr0).2)) (fun w h => rat_of (h _ (.tail _ ((.tail _ ((.head _)))))) x_) ?_
    refine RN.new (fun b => pt b) (.cells (ratC (⟨saNil, saNil⟩ : RA) (⟨false, ([] : List Nat), ([] : List Nat)⟩ : Raw)) 40 (0, 0)) k_ k_ (fun w => by kernel_rfl) (fun b11 => ?_)
    refine RN.bs [none, some 0] [4, 5, 7, 8, 18, 19, 20, 25, 26, 27] [b11, b11, b11] 6 [(4, sl z.1 ms2.length), (5, .int .i64 ((i : Nat) : Int)), (7, .int .i64 ((j : Nat) : Int)), (8, pt b11), (18, sl cp.1 cp.2.length), (19, .int .i64 ((cp.2.length : Nat) : Int)), (20, .int .i64 ((i : Nat) : Int)), (25, sl ((cp.2.getD i (saNil, [])).1) ((cp.2.getD i (saNil, [])).2).length), (26, .int .i64 ((((cp.2.getD i (saNil, [])).2).length : Nat) : Int)), (27, .int .i64 ((j : Nat) : Int))] ([(b11, .cells (ratC ((((cp.2.getD i (saNil, [])).2).getD j pr0).1) ((((cp.2.getD i (saNil, [])).2).getD j pr0).2)) 40 (0, 0))] ++ (rowsM 40 ms2 ++ ([]))) k_ ?_
    refine RN.fin k_ ?_
    refine J.regD k_ [7] ?_
    refine RD.bq [(0, none), (1, none), (4, none), (5, some 0)] [4, 5, 18, 19, 20, 25, 26, 27, 32, 33, 36, 37] [b11, b11, b11] [(4, sl z.1 ms2.length), (5, .int .i64 ((i : Nat) : Int)), (18, sl cp.1 cp.2.length), (19, .int .i64 ((cp.2.length : Nat) : Int)), (20, .int .i64 ((i : Nat) : Int)), (25, sl ((cp.2.getD i (saNil, [])).1) ((cp.2.getD i (saNil, [])).2).length), (26, .int .i64 ((((cp.2.getD i (saNil, [])).2).length : Nat) : Int)), (27, .int .i64 ((j : Nat) : Int)), (32, sl z.1 ms2.length), (33, .int .i64 ((j : Nat) : Int)), (36, .int .i64 ((i : Nat) : Int)), (37, ratV ((((cp.2.getD i (saNil, [])).2).getD j pr0).1) ((((cp.2.getD i (saNil, [])).2).getD j pr0).2))] k_ k_ ?_
    refine RD.val (i := 2) _ k_ k_ k_ (q_lidx (t := 27) (x := (.tmp 32)) (ix := (.tmp 33)) (K := .i64) (i0 := ((j : Nat) : Int)) (m := j) (e := 28) (E := elO) (sz := 1) (s := z.1) (xs := ms2) 1 rfl rfl k_ k_ k_ k_ k_ (by omega) x_) ?_
    refine RD.val (i := 3) _ k_ k_ k_ (q_lload1 (T := 28) (x := (.tmp 34)) (m := j) (s := z.1) (E := elO) (xs := ms2) 1 rfl rfl k_ k_ k_ rfl x_) ?_
    refine RD.val (i := 6) _ k_ k_ k_ (q_gidxL (go := ((ms2.getD j po0).1)) (t := 28) (x := (.tmp 35)) (ix := (.tmp 36)) (k := ((ms2.getD j po0).2).length) (K := .i64) (i0 := ((i : Nat) : Int)) (m := i) (e := 40) (sz := 3) k_ k_ k_ k_ k_ (by omega) (by (try dsimp only); have := hJ4 j (by omega); omega) ((okO_get (by assumption) (by (try dsimp only); have := hJ4 j (by omega); omega)).1)) ?_
    refine RD.ot (i := 7) k_ k_ k_ k_ (ot_rowstore (T := 40) (x := (.tmp 38)) (y := (.tmp 37)) (m := i) (e := 40) (i := j) (ms := ms2) (a := (((((cp.2.getD i (saNil, [])).2).getD j pr0).1), ((((cp.2.getD i (saNil, [])).2).getD j pr0).2))) (v := ratV ((((cp.2.getD i (saNil, [])).2).getD j pr0).1) ((((cp.2.getD i (saNil, [])).2).getD j pr0).2)) [(b11, .cells (ratC ((((cp.2.getD i (saNil, [])).2).getD j pr0).1) ((((cp.2.getD i (saNil, [])).2).getD j pr0).2)) 40 (0, 0))] ([]) rfl k_ k_ k_ k_ rfl k_ (by (try dsimp only); first | omega | (have := hJ4 j (by omega); omega)) (by (try dsimp only); first | omega | (have := hJ4 j (by omega); omega)) (by assumption)) (fun _ hg12 => ?_)
    refine RD.also (allO (ms2.set j ((ms2.getD j po0).1, (ms2.getD j po0).2.set i (((((cp.2.getD i (saNil, [])).2).getD j pr0).1), ((((cp.2.getD i (saNil, [])).2).getD j pr0).2))))) (fun w h => allO_set (h _ (.tail _ ((.tail _ ((.head _)))))) (by (try dsimp only); first | omega | (have := hJ4 j (by omega); omega)) (h _ (.head _))) k_ ?_
    refine RD.also (fL elO z.1 (ms2.set j ((ms2.getD j po0).1, (ms2.getD j po0).2.set i (((((cp.2.getD i (saNil, [])).2).getD j pr0).1), ((((cp.2.getD i (saNil, [])).2).getD j pr0).2))))) (fun w h => fLO_set (h _ (.tail _ ((.tail _ ((.head _)))))) (by (try dsimp only); first | omega | (have := hJ4 j (by omega); omega)) _) k_ ?_
    refine RD.turn 4 (v := sl z.1 ms2.length) (v' := sl z.1 (ms2.set j ((ms2.getD j po0).1, (ms2.getD j po0).2.set i (((((cp.2.getD i (saNil, [])).2).getD j pr0).1), ((((cp.2.getD i (saNil, [])).2).getD j pr0).2)))).length) k_ (sl_len (by simp)) ?_
    refine RD.turn 32 (v := sl z.1 ms2.length) (v' := sl z.1 (ms2.set j ((ms2.getD j po0).1, (ms2.getD j po0).2.set i (((((cp.2.getD i (saNil, [])).2).getD j pr0).1), ((((cp.2.getD i (saNil, [])).2).getD j pr0).2)))).length) k_ (sl_len (by simp)) ?_
    refine RD.done k_ ?_
    refine KN.blk ?_
    refine KN.next ?_
    refine J.regN ?_
    refine RN.bq (no 1) [4, 5, 18, 19, 20, 25, 26, 39] [] 1 [(4, sl z.1 (ms2.set j ((ms2.getD j po0).1, (ms2.getD j po0).2.set i (((((cp.2.getD i (saNil, [])).2).getD j pr0).1), ((((cp.2.getD i (saNil, [])).2).getD j pr0).2)))).length), (5, .int .i64 ((i : Nat) : Int)), (18, sl cp.1 cp.2.length), (19, .int .i64 ((cp.2.length : Nat) : Int)), (20, .int .i64 ((i : Nat) : Int)), (25, sl ((cp.2.getD i (saNil, [])).1) ((cp.2.getD i (saNil, [])).2).length), (26, .int .i64 ((((cp.2.getD i (saNil, [])).2).length : Nat) : Int)), (39, .int .i64 (IntKind.i64.wrap (((j : Nat) : Int) + 1)))] k_ ?_
    rw [show IntKind.i64.wrap (((j : Nat) : Int) + 1) = ((j + 1 : Nat) : Int) from by rw [IntKind.wrap_i64]; omega]
    refine RN.bq (no 1) [4, 5, 18, 19, 20, 25, 26, 27] [] 2 [(4, sl z.1 (ms2.set j ((ms2.getD j po0).1, (ms2.getD j po0).2.set i (((((cp.2.getD i (saNil, [])).2).getD j pr0).1), ((((cp.2.getD i (saNil, [])).2).getD j pr0).2)))).length), (5, .int .i64 ((i : Nat) : Int)), (18, sl cp.1 cp.2.length), (19, .int .i64 ((cp.2.length : Nat) : Int)), (20, .int .i64 ((i : Nat) : Int)), (25, sl ((cp.2.getD i (saNil, [])).1) ((cp.2.getD i (saNil, [])).2).length), (26, .int .i64 ((((cp.2.getD i (saNil, [])).2).length : Nat) : Int)), (27, .int .i64 ((j + 1 : Nat) : Int))] k_ ?_
    refine RN.done k_ ?_
    refine KN.dropF 1 ?_
    refine KN.roundE (ms2.set j ((ms2.getD j po0).1, (ms2.getD j po0).2.set i (((((cp.2.getD i (saNil, [])).2).getD j pr0).1), ((((cp.2.getD i (saNil, [])).2).getD j pr0).2))), j + 1) [4, 5, 18, 19, 20, 25, 26, 27] [0, 1, 5, 6, 7, 8, 9, 10, 11] (l2 := [(4, sl z.1 (ms2.set j ((ms2.getD j po0).1, (ms2.getD j po0).2.set i (((((cp.2.getD i (saNil, [])).2).getD j pr0).1), ((((cp.2.getD i (saNil, [])).2).getD j pr0).2)))).length), (5, .int .i64 ((i : Nat) : Int)), (18, sl cp.1 cp.2.length), (19, .int .i64 ((cp.2.length : Nat) : Int)), (20, .int .i64 ((i : Nat) : Int)), (25, sl ((cp.2.getD i (saNil, [])).1) ((cp.2.getD i (saNil, [])).2).length), (26, .int .i64 ((((cp.2.getD i (saNil, [])).2).length : Nat) : Int)), (27, .int .i64 ((j + 1 : Nat) : Int))]) (by (try dsimp only); omega) (by (try dsimp only); exact ⟨by assumption, by omega, by simp [hJ3], fun k hk => ((shape_set (by omega) _ k (by simpa using hk)).2).trans (hJ4 k (by simpa using hk))⟩) k_ (by rfl) (by rfl) (by rfl)
   ·replace c10 := of_decide_eq_false c10
    refine J.exit (KX.next (KX.next (KX.hit ?_)))
    refine KN.blk ?_
    refine KN.next ?_
    refine J.regN ?_
    refine RN.bq (no 1) [4, 18, 19, 40] [] 1 [(4, sl z.1 ms2.length), (18, sl cp.1 cp.2.length), (19, .int .i64 ((cp.2.length : Nat) : Int)), (40, .int .i64 (IntKind.i64.wrap (((i : Nat) : Int) + 1)))] k_ ?_
    rw [show IntKind.i64.wrap (((i : Nat) : Int) + 1) = ((i + 1 : Nat) : Int) from by rw [IntKind.wrap_i64]; omega]
    refine RN.bq (no 1) [4, 18, 19, 20] [] 2 [(4, sl z.1 ms2.length), (18, sl cp.1 cp.2.length), (19, .int .i64 ((cp.2.length : Nat) : Int)), (20, .int .i64 ((i + 1 : Nat) : Int))] k_ ?_
    refine RN.done k_ ?_
    refine KN.roundE (ms2, i + 1) [4, 18, 19, 20] [0, 1, 5, 6, 7, 8] (l2 := [(4, sl z.1 ms2.length), (18, sl cp.1 cp.2.length), (19, .int .i64 ((cp.2.length : Nat) : Int)), (20, .int .i64 ((i + 1 : Nat) : Int))]) (by (try dsimp only); omega) (by (try dsimp only); exact ⟨hJ1, by omega, hJ3, hJ4⟩) k_ (by rfl) (by rfl) (by rfl)
  ·replace c8 := of_decide_eq_false c8
   refine J.exit (KX.next (KX.next (KX.hit ?_)))
   refine KN.next ?_
   refine J.sreg ?_
   refine RN.bq (no 3) [2, 3] [] 3 [(2, sl z.1 ms.length), (3, .int .i64 0)] k_ ?_
   refine RN.fin k_ ?_
   have e_1 : ((if fm xs then 0 else 6) : Int) = (0 : Int) := by first | exact if_neg (by simpa using ‹_›) | exact if_pos hf
   refine J.ret (KR.ret (v := .tuple #[sl z.1 ms.length, .int .i64 0]) ((sl z.1 ms.length)) [none, none] [] [] k_ v1_ (trivial) v1_)
end Go.Proofs.YtbiifkfbkaejlaaGreat.E
/- Plain laws of rational numbers, sums and the biweight scale: no program. -/
namespace Go.Proofs.YtbiifkfbkaejlaaGreat.E
set_option linter.unusedVariables false
set_option linter.unusedSimpArgs false
theorem rle_trans {a b c : Rat} (h : a ≤ b) (g : b ≤ c) : a ≤ c := by grind
theorem rmul_le {a b c : Rat} (h : a ≤ b) (hc : 0 ≤ c) : c * a ≤ c * b := Rat.mul_le_mul_of_nonneg_left h hc
theorem rsq (a : Rat) : 0 ≤ a * a := by
  rcases Rat.le_total (a := 0) (b := a) with h | h
  · exact Rat.mul_nonneg h h
  · have := Rat.mul_nonneg (a := -a) (b := -a) (by grind) (by grind)
    grind
theorem rsq_pos {a : Rat} (h : a ≠ 0) : 0 < a * a := by
  have h1 := rsq a
  have h2 : a * a ≠ 0 := by
    intro e
    rcases Rat.mul_eq_zero.1 e with e | e <;> exact h e
  grind
theorem rinv_nn {a : Rat} (h : 0 ≤ a) : 0 ≤ a⁻¹ := by
  by_cases h0 : a = 0
  · rw [h0, Rat.inv_zero]; exact Rat.le_refl
  · have : 0 < a⁻¹ := Rat.inv_pos.2 (by grind)
    grind
theorem rdiv_nn {a b : Rat} (ha : 0 ≤ a) (hb : 0 ≤ b) : 0 ≤ a / b := by
  rw [Rat.div_def]; exact Rat.mul_nonneg ha (rinv_nn hb)
theorem rdiv_le_div {a b c : Rat} (h : a ≤ b) (hc : 0 ≤ c) : a / c ≤ b / c := by
  rw [Rat.div_def, Rat.div_def]; exact Rat.mul_le_mul_of_nonneg_right h (rinv_nn hc)
theorem rdiv_cancel {a b : Rat} (hb : b ≠ 0) : a / b * b = a := by grind
theorem rle_div {a b c : Rat} (hb : 0 < b) (h : a * b ≤ c) : a ≤ c / b := by
  have := rdiv_le_div h (Rat.le_of_lt hb)
  have e : a * b / b = a := by grind
  rwa [e] at this
theorem rdiv_le {a b c : Rat} (hb : 0 < b) (h : c ≤ a * b) : c / b ≤ a := by
  have := rdiv_le_div h (Rat.le_of_lt hb)
  have e : a * b / b = a := by grind
  rwa [e] at this
theorem rcast_pos {n : Nat} (h : 0 < n) : (0 : Rat) < ((n : Int) : Rat) := by
  have : ((0 : Int) : Rat) < ((n : Int) : Rat) := Rat.intCast_lt_intCast.2 (by omega)
  simpa using this
theorem rcast_succ (n : Nat) : (((n + 1 : Nat) : Int) : Rat) = ((n : Int) : Rat) + 1 := by
  rw [show ((n + 1 : Nat) : Int) = (n : Int) + 1 from by omega, Rat.intCast_add]; rfl
/-! sums -/
def sumN (f : Nat → Rat) : Nat → Rat
  | 0 => 0
  | k + 1 => sumN f k + f k
theorem sumN_congr {f g : Nat → Rat} {n : Nat} (h : ∀ i, i < n → f i = g i) : sumN f n = sumN g n := by
  induction n with
  | zero => rfl
  | succ k ih => rw [sumN, sumN, ih (fun i hi => h i (by omega)), h k (by omega)]
theorem sumN_le {f g : Nat → Rat} {n : Nat} (h : ∀ i, i < n → f i ≤ g i) : sumN f n ≤ sumN g n := by
  induction n with
  | zero => exact Rat.le_refl
  | succ k ih =>
    have h1 := ih (fun i hi => h i (by omega))
    have h2 := h k (by omega)
    rw [sumN, sumN]; grind
theorem sumN_const (c : Rat) (n : Nat) : sumN (fun _ => c) n = ((n : Int) : Rat) * c := by
  induction n with
  | zero => rw [sumN]; grind
  | succ k ih => rw [sumN, ih, rcast_succ]; grind
def cntN (p : Nat → Bool) : Nat → Nat
  | 0 => 0
  | k + 1 => cntN p k + if p k then 1 else 0
theorem cntN_sum (p : Nat → Bool) (n : Nat) : ((cntN p n : Int) : Rat) = sumN (fun i => if p i then 1 else 0) n := by
  induction n with
  | zero => rfl
  | succ k ih =>
    rw [cntN, sumN, ← ih]
    by_cases h : p k
    · rw [if_pos h, if_pos h, rcast_succ]
    · rw [if_neg h, if_neg h]; grind
/-! the biweight -/
def rhoQ (u : Rat) : Rat := if u < 0 then 0 else if 1 < u then 1 else 1 - (1 - u) * ((1 - u) * (1 - u))
theorem rho_ge1 {u : Rat} (h : 1 ≤ u) : rhoQ u = 1 := by
  unfold rhoQ
  rw [if_neg (by grind)]
  split
  · rfl
  · have : u = 1 := by grind
    subst this; grind
theorem rho_in {u : Rat} (h : 0 ≤ u) (h1 : u ≤ 1) : rhoQ u = 1 - (1 - u) * ((1 - u) * (1 - u)) := by
  unfold rhoQ
  rw [if_neg (by grind), if_neg (by grind)]
theorem rho_zero : rhoQ 0 = 0 := by rw [rho_in (by grind) (by grind)]; grind
theorem rho_le1 (u : Rat) : rhoQ u ≤ 1 := by
  by_cases h : u < 0
  · unfold rhoQ; rw [if_pos h]; grind
  · by_cases h1 : u ≤ 1
    · rw [rho_in (by grind) h1]
      have := Rat.mul_nonneg (a := 1 - u) (b := (1 - u) * (1 - u)) (by grind) (rsq _)
      grind
    · rw [rho_ge1 (by grind)]; grind
theorem rho_le3 {u : Rat} (h : 0 ≤ u) : rhoQ u ≤ 3 * u := by
  by_cases h1 : u ≤ 1
  · rw [rho_in h h1]
    have := Rat.mul_nonneg (a := u * u) (b := 3 - u) (rsq u) (by grind)
    grind
  · have := rho_le1 u; grind
def meanN (x : Nat → Rat) (n : Nat) (c s : Rat) : Rat := sumN (fun i => rhoQ (x i * x i / (c * s))) n / ((n : Int) : Rat)
def shareN (x : Nat → Rat) (n : Nat) : Rat := ((cntN (fun i => decide (x i ≠ 0)) n : Int) : Rat) / ((n : Int) : Rat)
theorem mean_low {x : Nat → Rat} {n : Nat} {c s : Rat} (hcs : 0 < c * s) (h : ∀ i, i < n → x i ≠ 0 → c * s ≤ x i * x i) : meanN x n c s = shareN x n := by
  unfold meanN shareN
  rw [cntN_sum]
  congr 1
  refine sumN_congr (fun i hi => ?_)
  show _ = if decide (x i ≠ 0) = true then (1 : Rat) else 0
  by_cases h0 : x i = 0
  · rw [h0, if_neg (by simp), show (0 : Rat) * 0 / (c * s) = 0 from by grind, rho_zero]
  · rw [if_pos (by simp [h0]), rho_ge1 (rle_div hcs (by have := h i hi h0; grind))]
theorem mean_high {x : Nat → Rat} {n : Nat} {c s m : Rat} (hn : 0 < n) (hcs : 0 < c * s) (h : ∀ i, i < n → x i * x i ≤ m) : meanN x n c s ≤ 3 * (m / (c * s)) := by
  unfold meanN
  refine rdiv_le (rcast_pos hn) ?_
  have : sumN (fun i => rhoQ (x i * x i / (c * s))) n ≤ sumN (fun _ => 3 * (m / (c * s))) n := sumN_le (fun i hi => by
    have h1 := rho_le3 (rdiv_nn (rsq (x i)) (Rat.le_of_lt hcs))
    have h2 := rdiv_le_div (h i hi) (Rat.le_of_lt hcs)
    grind)
  rw [sumN_const] at this
  grind
end Go.Proofs.YtbiifkfbkaejlaaGreat.E
/- Plain law of Scale's three loops: bounds of what is above, dyadic numbers and their sizes. -/
namespace Go.Proofs.YtbiifkfbkaejlaaGreat.E
set_option linter.unusedVariables false
set_option linter.unusedSimpArgs false
/-- W to the power of k, as a number. -/
def KW (k : Nat) : Rat := ((W ^ k : Nat) : Int)
theorem KW_pos (k : Nat) : 0 < KW k := rcast_pos (Wpos k)
theorem KW_add (k l : Nat) : KW (k + l) = KW k * KW l := by
  unfold KW; rw [Nat.pow_add, Int.natCast_mul, Rat.intCast_mul]
theorem num_eq (q : Rat) : (q.num : Rat) = q * ((q.den : Int) : Rat) := by
  have h := Rat.num_divInt_den q
  rw [Rat.divInt_eq_div] at h
  have hd : (0 : Rat) < ((q.den : Int) : Rat) := rcast_pos (Nat.pos_of_ne_zero q.den_nz)
  have e := rdiv_cancel (a := (q.num : Rat)) (b := ((q.den : Int) : Rat)) (by grind)
  rw [h] at e; exact e.symm
theorem Q.abs_le {k : Nat} {q : Rat} (h : Q k q) : -KW k ≤ q ∧ q ≤ KW k := by
  obtain ⟨h1, h2⟩ := Q_iff.1 h
  have e := num_eq q
  have hd : (1 : Rat) ≤ ((q.den : Int) : Rat) := by
    have : ((1 : Int) : Rat) ≤ ((q.den : Int) : Rat) := Rat.intCast_le_intCast.2 (by have := q.den_nz; omega)
    simpa using this
  have n1 : (q.num : Rat) ≤ KW k := Rat.intCast_le_intCast.2 (by omega)
  have n2 : -KW k ≤ (q.num : Rat) := by
    have : ((-((W ^ k : Nat) : Int) : Int) : Rat) ≤ (q.num : Rat) := Rat.intCast_le_intCast.2 (by omega)
    rwa [Rat.intCast_neg] at this
  have hK := KW_pos k
  constructor
  · by_cases h0 : 0 ≤ q
    · grind
    · have := rmul_le (a := 1) (b := ((q.den : Int) : Rat)) (c := -q) hd (by grind)
      grind
  · by_cases h0 : q ≤ 0
    · grind
    · have := rmul_le (a := 1) (b := ((q.den : Int) : Rat)) (c := q) hd (by grind)
      grind
theorem Q.sq_le {k : Nat} {q : Rat} (h : Q k q) : q * q ≤ KW (k + k) := by
  obtain ⟨a, b⟩ := h.abs_le
  rw [KW_add]
  have := Rat.mul_nonneg (a := KW k - q) (b := KW k + q) (by grind) (by grind)
  grind
theorem Q.pos_ge {k : Nat} {q : Rat} (h : Q k q) (h0 : 0 < q) : 1 ≤ q * KW k := by
  obtain ⟨h1, h2⟩ := Q_iff.1 h
  have e := num_eq q
  have hd : ((q.den : Int) : Rat) ≤ KW k := Rat.intCast_le_intCast.2 (by omega)
  have hp : (0 : Rat) < ((q.den : Int) : Rat) := rcast_pos (Nat.pos_of_ne_zero q.den_nz)
  have hn : (0 : Rat) < (q.num : Rat) := by rw [e]; exact Rat.mul_pos h0 hp
  have hn1 : (1 : Rat) ≤ (q.num : Rat) := by
    have : (0 : Int) < q.num := by
      have := Rat.intCast_lt_intCast (a := 0) (b := q.num)
      exact this.1 (by simpa using hn)
    have : ((1 : Int) : Rat) ≤ (q.num : Rat) := Rat.intCast_le_intCast.2 (by omega)
    simpa using this
  have := rmul_le hd (Rat.le_of_lt h0)
  grind
theorem Q.ne_ge {k : Nat} {q : Rat} (h : Q k q) (h0 : q ≠ 0) : 1 ≤ q * q * KW (k + k) := (h.mul h).pos_ge (rsq_pos h0)
/-! above and below -/
theorem mean_top {x : Nat → Rat} {n : Nat} {c b s : Rat} (hn : 0 < n) (hx : ∀ i, i < n → Q 64 (x i)) (hc : Q 64 c) (hc0 : 0 < c) (hb : Q 64 b) (hb0 : 0 < b) (hs : KW 257 ≤ s) : meanN x n c s ≤ b := by
  have hs0 : 0 < s := by have := KW_pos 257; grind
  have hcs := Rat.mul_pos hc0 hs0
  have h1 := mean_high hn hcs (fun i hi => (hx i hi).sq_le)
  refine rle_trans h1 ?_
  have e : 3 * (KW (64 + 64) / (c * s)) = 3 * KW (64 + 64) / (c * s) := by grind
  rw [e]
  refine rdiv_le hcs ?_
  have a1 := hb.pos_ge hb0
  have a2 := hc.pos_ge hc0
  have a3 : 3 ≤ KW 1 := by
    have : ((3 : Int) : Rat) ≤ KW 1 := Rat.intCast_le_intCast.2 (by rw [Nat.pow_one]; decide +kernel)
    simpa using this
  have e1 : KW 257 = KW 1 * (KW 64 * KW 64) * (KW 64 * KW 64) := by rw [← KW_add, ← KW_add, ← KW_add]
  have p64 := KW_pos 64
  rw [KW_add]
  have b1 : 1 ≤ b * KW 64 * (c * KW 64) := by
    have := rmul_le a2 (c := b * KW 64) (by grind)
    grind
  have b2 : KW 257 * (b * c) ≤ s * (b * c) := Rat.mul_le_mul_of_nonneg_right hs (Rat.le_of_lt (Rat.mul_pos hb0 hc0))
  have p2 : 0 ≤ KW 64 * KW 64 := Rat.le_of_lt (Rat.mul_pos p64 p64)
  have b3 : KW 1 * (KW 64 * KW 64) * 1 ≤ KW 1 * (KW 64 * KW 64) * (b * KW 64 * (c * KW 64)) := rmul_le b1 (Rat.mul_nonneg (by grind) p2)
  have b4 : 3 * (KW 64 * KW 64) ≤ KW 1 * (KW 64 * KW 64) := Rat.mul_le_mul_of_nonneg_right a3 p2
  have b5 : KW 1 * (KW 64 * KW 64) * (b * KW 64 * (c * KW 64)) = KW 257 * (b * c) := by rw [e1]; grind
  have b6 : KW 1 * (KW 64 * KW 64) * 1 = KW 1 * (KW 64 * KW 64) := by grind
  have b7 : s * (b * c) = b * (c * s) := by grind
  rw [b5, b6] at b3
  rw [b7] at b2
  exact rle_trans b4 (rle_trans b3 b2)
theorem mean_bot {x : Nat → Rat} {n : Nat} {c s : Rat} (hx : ∀ i, i < n → Q 64 (x i)) (hc : Q 64 c) (hc0 : 0 < c) (hs0 : 0 < s) (hs : s * KW 192 ≤ 1) : meanN x n c s = shareN x n := by
  refine mean_low (Rat.mul_pos hc0 hs0) (fun i hi h0 => ?_)
  have a1 := (hx i hi).ne_ge h0
  have a2 := hc.abs_le.2
  have e1 : KW 192 = KW 64 * KW (64 + 64) := by rw [← KW_add]
  rw [e1] at hs
  have pk := KW_pos (64 + 64)
  have b1 : c * s ≤ KW 64 * s := Rat.mul_le_mul_of_nonneg_right a2 (Rat.le_of_lt hs0)
  have b2 : c * s * KW (64 + 64) ≤ KW 64 * s * KW (64 + 64) := Rat.mul_le_mul_of_nonneg_right b1 (Rat.le_of_lt pk)
  have b3 : c * s * KW (64 + 64) ≤ x i * x i * KW (64 + 64) := by grind
  have := rdiv_le_div b3 (Rat.le_of_lt pk)
  have e2 : c * s * KW (64 + 64) / KW (64 + 64) = c * s := by grind
  have e3 : x i * x i * KW (64 + 64) / KW (64 + 64) = x i * x i := by grind
  rwa [e2, e3] at this
/-! dyadic numbers -/
def two (k : Nat) : Rat := ((2 ^ k : Nat) : Int)
theorem two_pos (k : Nat) : 0 < two k := rcast_pos (Nat.pow_pos (by decide))
theorem two_succ (k : Nat) : two (k + 1) = 2 * two k := by
  unfold two
  rw [Nat.pow_succ, Nat.mul_comm, Int.natCast_mul, Rat.intCast_mul]; rfl
theorem two_zero : two 0 = 1 := rfl
theorem two_mono {k l : Nat} (h : k ≤ l) : two k ≤ two l :=
  Rat.intCast_le_intCast.2 (Int.ofNat_le.2 (Nat.pow_le_pow_right (by decide) h))
theorem two32 (k : Nat) : two (32 * k) = KW k := by
  unfold two KW
  rw [Nat.pow_mul, W_eq]
def dy (h : Rat) (a k : Nat) : Rat := h * ((a : Int) : Rat) / two k
theorem dy_one (h : Rat) : dy h 1 0 = h := by
  unfold dy; rw [two_zero]; have : (((1 : Nat) : Int) : Rat) = 1 := rfl
  rw [this]; grind
theorem dy_double (h : Rat) (a k : Nat) : dy h a k + dy h a k = dy h (2 * a) k := by
  unfold dy
  have : (((2 * a : Nat) : Int) : Rat) = 2 * ((a : Int) : Rat) := by rw [Int.natCast_mul, Rat.intCast_mul]; rfl
  rw [this]; grind
theorem dy_halve (h : Rat) (a k : Nat) : dy h a k / 2 = dy h a (k + 1) := by
  unfold dy; rw [two_succ]; have := two_pos k; grind
theorem dy_up (h : Rat) (a k : Nat) : dy h a k = dy h (2 * a) (k + 1) := by
  rw [← dy_halve, ← dy_double]; grind
theorem dy_succ (h : Rat) (a k : Nat) : dy h (a + 1) k = dy h a k + h / two k := by
  unfold dy; rw [rcast_succ]; have := two_pos k; grind
theorem dy_mid (h : Rat) (a k : Nat) : (dy h a k + dy h (a + 1) k) / 2 = dy h (2 * a + 1) (k + 1) := by
  rw [dy_succ, dy_succ, ← dy_up, two_succ]; have := two_pos k; grind
theorem dy_pos {h : Rat} (h0 : 0 < h) {a : Nat} (ha : 0 < a) (k : Nat) : 0 < dy h a k := by
  unfold dy
  rw [Rat.div_def]
  exact Rat.mul_pos (Rat.mul_pos h0 (rcast_pos ha)) (Rat.inv_pos.2 (two_pos k))
theorem Q_nat {n k : Nat} (h : n < W ^ k) (hk : 1 ≤ k) : Q k ((n : Int) : Rat) := by
  refine Q_iff.2 ⟨?_, ?_⟩
  · show ((n : Int)).natAbs < W ^ k
    omega
  · show 1 < W ^ k
    exact Nat.lt_of_lt_of_le (by decide +kernel : 1 < W ^ 1) (Nat.pow_le_pow_right (by decide) hk)
theorem pow2_lt {k l : Nat} (h : k < 32 * l) : 2 ^ k < W ^ l := by
  rw [show W = 2 ^ 32 from by rw [W_eq], ← Nat.pow_mul]
  exact Nat.pow_lt_pow_right (by decide) h
theorem Q_two {k l : Nat} (h : k < 32 * l) : Q l (two k) := Q_nat (pow2_lt h) (by omega)
/-- The size of 2 ^ e in lowest terms over 2 ^ k is that of the greater one. -/
theorem Q_dy {h : Rat} {a k q l m : Nat} (hq : Q q h) (ha : a < W ^ l) (hl : 1 ≤ l) (hk : k < 32 * m) : Q (q + l + m + 1) (dy h a k) := by
  have := hq.mul (Q_nat ha hl)
  have h2 := Q_two hk
  rw [dy, Rat.div_def]
  have e := two_pos k
  have h3 : Q m (two k)⁻¹ := by
    obtain ⟨h4, h5⟩ := Q_iff.1 h2
    have hp : 0 < 2 ^ k := Nat.pow_pos (by decide)
    have e1 : (two k)⁻¹ = mkRat 1 (2 ^ k) := by
      rw [Rat.mkRat_eq_div]
      show (two k)⁻¹ = ((1 : Int) : Rat) / two k
      rw [Rat.div_def]
      have : ((1 : Int) : Rat) = 1 := rfl
      rw [this, Rat.one_mul]
    rw [e1]
    exact Q_mk (by omega) (by show 1 < W ^ m; exact Nat.lt_of_lt_of_le (by decide +kernel : 1 < W ^ 1) (Nat.pow_le_pow_right (by decide) (by omega))) (pow2_lt hk)
  exact (this.mul h3).le (by omega)
/-- 2 to the power of an integer. -/
def P2 (e : Int) : Rat := if e < 0 then 1 / two (-e).toNat else two e.toNat
theorem P2_pos (e : Int) : 0 < P2 e := by
  unfold P2
  split
  · rw [Rat.div_def]; exact Rat.mul_pos (by decide) (Rat.inv_pos.2 (two_pos _))
  · exact two_pos _
theorem P2_Q {e : Int} {l : Nat} (h1 : -(32 * l : Nat) < e) (h2 : e < (32 * l : Nat)) (hl : 1 ≤ l): Q (l + 3) (P2 e) := by
  unfold P2
  split
  · have := Q_dy (h := 1) (a := 1) (k := (-e).toNat) (q := 1) (l := 1) (m := l) ⟨by decide +kernel, by decide +kernel⟩ (by decide +kernel) (by decide) (by omega)
    have e1 : dy 1 1 (-e).toNat = 1 / two (-e).toNat := by unfold dy; rw [show (((1 : Nat) : Int) : Rat) = 1 from rfl]; grind
    rw [e1] at this
    exact this.le (by omega)
  · exact (Q_two (l := l) (by omega)).le (by omega)
theorem P2_le {e : Int} {l : Nat} (h1 : -(32 * l : Nat) ≤ e) (h2 : e ≤ (32 * l : Nat)) : P2 e ≤ KW l ∧ 1 ≤ P2 e * KW l := by
  rw [← two32]
  unfold P2
  have hp := two_pos (-e).toNat
  have hq := two_pos e.toNat
  have h1' : (1 : Rat) ≤ two (32 * l) := by have := two_mono (Nat.zero_le (32 * l)); rwa [two_zero] at this
  split
  · have a1 : two (-e).toNat ≤ two (32 * l) := two_mono (by omega)
    have a2 : (1 : Rat) ≤ two (-e).toNat := by have := two_mono (Nat.zero_le (-e).toNat); rwa [two_zero] at this
    refine ⟨rdiv_le hp ?_, ?_⟩
    · have := rmul_le a2 (c := two (32 * l)) (by grind); grind
    · have : 1 / two (-e).toNat * two (32 * l) = two (32 * l) / two (-e).toNat := by grind
      rw [this]; exact rle_div hp (by grind)
  · have a1 : two e.toNat ≤ two (32 * l) := two_mono (by omega)
    have a2 : (1 : Rat) ≤ two e.toNat := by have := two_mono (Nat.zero_le e.toNat); rwa [two_zero] at this
    refine ⟨a1, ?_⟩
    have := rmul_le a2 (c := two (32 * l)) (by grind); grind
/-! what Scale returns -/
structure ScaleOk (x : Nat → Rat) (n : Nat) (c b : Rat) (bits : Int) (lo hi : Rat) : Prop where
  pos : 0 < lo
  lt : lo < hi
  above : b < meanN x n c lo
  below : meanN x n c hi ≤ b
  narrow : hi - lo ≤ P2 (-bits) * hi
  qlo : Q 2000 lo
  qhi : Q 2000 hi
/-- The first loop: h0 2 ^ i. -/
theorem loop1_stop {x : Nat → Rat} {n : Nat} {c b h0 : Rat} {i : Nat} (hn : 0 < n) (hx : ∀ i, i < n → Q 64 (x i)) (hc : Q 64 c) (hc0 : 0 < c) (hb : Q 64 b) (hb0 : 0 < b) (hh : 1 ≤ h0 * KW 200)
    (ha : b < meanN x n c (dy h0 (2 ^ i) 0)) : i < 14624 := by
  apply Nat.lt_of_not_le
  intro h
  have hk := KW_pos 200
  have e : dy h0 (2 ^ i) 0 = h0 * two i := by unfold dy; rw [two_zero]; show h0 * two i / 1 = _; grind
  have h1 : two (32 * 457) ≤ two i := two_mono h
  rw [two32, KW_add 257 200] at h1
  have hh0 : 0 < h0 := by
    apply Rat.not_le.1
    intro hle
    have := rmul_le hle (c := KW 200) (by grind)
    grind
  have h2 := rmul_le h1 (Rat.le_of_lt hh0)
  have h3 := rmul_le hh (c := KW 257) (Rat.le_of_lt (KW_pos 257))
  have := mean_top hn hx hc hc0 hb hb0 (s := h0 * two i) (by grind)
  rw [e] at ha
  grind
theorem loop2_stop {x : Nat → Rat} {n : Nat} {c b h1 : Rat} {j : Nat} (hx : ∀ i, i < n → Q 64 (x i)) (hc : Q 64 c) (hc0 : 0 < c) (hs : b < shareN x n) (h0 : 0 < h1) (hh : h1 ≤ KW 657)
    (ha : ¬ b < meanN x n c (dy h1 1 j)) : j < 27168 := by
  apply Nat.lt_of_not_le
  intro h
  apply ha
  rw [mean_bot hx hc hc0 (dy_pos h0 (by decide) j) ?_]
  · exact hs
  · have h2 : two (32 * 849) ≤ two j := two_mono h
    rw [two32, KW_add 657 192] at h2
    have e : dy h1 1 j * KW 192 = h1 * KW 192 / two j := by unfold dy; show h1 * 1 / two j * KW 192 = _; grind
    rw [e]
    refine rdiv_le (two_pos j) ?_
    have := Rat.mul_le_mul_of_nonneg_right hh (Rat.le_of_lt (KW_pos 192))
    grind
theorem dy_le_KW {h0 : Rat} {i : Nat} (h0p : 0 < h0) (hh : h0 ≤ KW 200) (hi : i ≤ 14624) : dy h0 (2 ^ i) 0 ≤ KW 657 := by
  have e : dy h0 (2 ^ i) 0 = h0 * two i := by unfold dy; rw [two_zero]; show h0 * two i / 1 = _; grind
  rw [e]
  have h1 : two i ≤ two (32 * 457) := two_mono hi
  rw [two32] at h1
  have := rmul_le h1 (Rat.le_of_lt h0p)
  have h2 := Rat.mul_le_mul_of_nonneg_right hh (Rat.le_of_lt (KW_pos 457))
  have := KW_add 200 457
  grind
end Go.Proofs.YtbiifkfbkaejlaaGreat.E
namespace Go.Proofs.YtbiifkfbkaejlaaGreat.E
open Go Go.RowKit
set_option linter.unusedVariables false
set_option linter.unusedSimpArgs false
theorem Q0 : Q 1 (0 : Rat) := ⟨by decide +kernel, by decide +kernel⟩
theorem sign_gt {q : Rat} : Int.sign q.num > 0 ↔ 0 < q := by
  have h1 := Rat.num_nonneg (q := -q)
  rw [Rat.neg_num] at h1
  have h2 : 0 < q ↔ ¬ 0 ≤ -q := by
    rw [← Rat.not_le]
    constructor
    · intro h h3; exact h (by have := Rat.neg_le_neg h3; simpa using this)
    · intro h h3; exact h (by have := Rat.neg_le_neg h3; simpa using this)
  rw [h2, ← h1]
  constructor
  · intro h h3
    rcases Int.lt_trichotomy q.num 0 with h4 | h4 | h4
    · rw [Int.sign_eq_neg_one_of_neg h4] at h; omega
    · rw [h4] at h; simp at h
    · omega
  · intro h
    rw [Int.sign_eq_one_of_pos (by omega)]; decide
def sizeE (n : Nat) : Int := if n = 0 then 10 else if 1024 < n then 2 else 0
theorem Q.div {k l : Nat} {p q : Rat} (hp : Q k p) (hq : Q l q) : Q (k + l + 1) (p / q) := by
  rw [← div_parts]
  obtain ⟨a, b⟩ := Q_iff.1 hp
  obtain ⟨c, d⟩ := Q_iff.1 hq
  by_cases h0 : q.num = 0
  · have : ((q.num * (p.den : Int) : Int) : Rat) = 0 := by rw [h0, Int.zero_mul]; rfl
    rw [this, Rat.div_def, Rat.inv_zero, Rat.mul_zero]
    exact Q0.le (by omega)
  · have hn : p.num * (q.den : Int) = p.num * (q.den : Int) := rfl
    have e1 : (p.num * (q.den : Int)).natAbs < W ^ (k + l + 1) := by
      rw [Int.natAbs_mul, Int.natAbs_natCast]
      exact Nat.lt_of_lt_of_le (mul_lt_pow a d) (Nat.pow_le_pow_right (by decide) (by omega))
    have e2 : (q.num * (p.den : Int)).natAbs < W ^ (k + l + 1) := by
      rw [Int.natAbs_mul, Int.natAbs_natCast, Nat.mul_comm]
      exact Nat.lt_of_lt_of_le (mul_lt_pow b c) (Nat.pow_le_pow_right (by decide) (by omega))
    have hd : (q.num * (p.den : Int)) ≠ 0 := Int.mul_ne_zero h0 (by have := p.den_nz; omega)
    rcases Int.lt_trichotomy (q.num * (p.den : Int)) 0 with h | h | h
    · rw [← mk_neg h]
      exact Q_mk (by omega) (by rw [Int.natAbs_neg]; exact e1) e2
    · exact absurd h hd
    · rw [← mk_pos h]
      exact Q_mk (by omega) e1 e2
theorem RQ.le {a b : Nat} {r : Raw} (h : RQ a r) (hab : a ≤ b) : RQ b r := ⟨h.1, h.2.1, Nat.le_trans h.2.2.1 hab, Nat.le_trans h.2.2.2.1 hab, h.2.2.2.2.le hab⟩
theorem Q_int {v : Int} (h : v.natAbs < 18446744073709551616) : Q 2 (v : Rat) := ⟨u64_len.2 h, by show (toL 1).length ≤ 2; rw [toL_1]; decide⟩
end Go.Proofs.YtbiifkfbkaejlaaGreat.E
namespace Go.Proofs.YtbiifkfbkaejlaaGreat.E
open Go Go.RowKit
set_option linter.unusedVariables false
set_option linter.unusedSimpArgs false
def checkE (n : Nat) (c b : Rat) (bits : Int) : Int := if sizeE n ≠ 0 then sizeE n else if 0 < c ∧ 0 < b ∧ b < 1 ∧ 0 ≤ bits ∧ bits ≤ 128 then 0 else 1
theorem cmpQ_le {x y : Rat} : cmpQ x y ≤ 0 ↔ ¬ y < x := by rw [← cmpQ_gt]; omega
end Go.Proofs.YtbiifkfbkaejlaaGreat.E
namespace Go.Proofs.YtbiifkfbkaejlaaGreat.E
open Go Go.RowKit
set_option linter.unusedVariables false
set_option linter.unusedSimpArgs false
end Go.Proofs.YtbiifkfbkaejlaaGreat.E
namespace Go.Proofs.YtbiifkfbkaejlaaGreat.E
open Go Go.RowKit
set_option linter.unusedVariables false
set_option linter.unusedSimpArgs false
end Go.Proofs.YtbiifkfbkaejlaaGreat.E
