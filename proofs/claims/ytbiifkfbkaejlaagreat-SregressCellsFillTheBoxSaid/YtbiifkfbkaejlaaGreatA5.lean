/- Lemmas and contracts of functions on the way to the law, part 5. -/
import Derived.Test.YtbiifkfbkaejlaaGreatA4
/- Plain law of Scale's loops, step by step. -/
namespace Go.Proofs.YtbiifkfbkaejlaaGreat.E
set_option linter.unusedVariables false
set_option linter.unusedSimpArgs false
structure SIn (x : Nat → Rat) (n : Nat) (c b : Rat) (bits : Int) : Prop where
  n0 : 0 < n
  n1 : n ≤ 1024
  hx : ∀ i, i < n → Q 64 (x i)
  hc : Q 64 c
  c0 : 0 < c
  hb : Q 64 b
  b0 : 0 < b
  hs : b < shareN x n
  t0 : 0 ≤ bits
  t1 : bits ≤ 128
structure L1 (ab : Int) (i : Nat) (H : Rat) : Prop where
  e : H = dy (P2 ab) (2 ^ i) 0
  le : i ≤ 14624
  a1 : -6400 ≤ ab
  a2 : ab ≤ 6400
theorem L1.start {ab : Int} (h : -6400 ≤ ab ∧ ab ≤ 6400) : L1 ab 0 (P2 ab) := ⟨by rw [Nat.pow_zero, dy_one], Nat.zero_le _, h.1, h.2⟩
theorem L1.Q {ab : Int} {i : Nat} {H : Rat} (h : L1 ab i H) : Q 664 H := by
  rw [h.e]
  have hp := P2_Q (e := ab) (l := 201) (by have := h.a1; omega) (by have := h.a2; omega) (by decide)
  obtain ⟨l, hl⟩ : ∃ l, l = 458 := ⟨_, rfl⟩
  exact (Q_dy hp (a := 2 ^ i) (l := l) (k := 0) (m := 1) (pow2_lt (by have := h.le; omega)) (by omega) (by decide)).le (by omega)
theorem L1.step {x : Nat → Rat} {n : Nat} {c b : Rat} {bits : Int} {ab : Int} {i : Nat} {H : Rat} (s : SIn x n c b bits) (h : L1 ab i H) (ha : b < meanN x n c H) : i < 14624 ∧ L1 ab (i + 1) (H + H) := by
  have hp := P2_le (e := ab) (l := 200) (by have := h.a1; omega) (by have := h.a2; omega)
  have hlt := loop1_stop s.n0 s.hx s.hc s.c0 s.hb s.b0 hp.2 (i := i) (by rw [← h.e]; exact ha)
  refine ⟨hlt, ?_, hlt, h.a1, h.a2⟩
  rw [h.e, dy_double, Nat.pow_succ, Nat.mul_comm]
theorem L1.done {ab : Int} {i : Nat} {H : Rat} (h : L1 ab i H) : 0 < H ∧ H ≤ KW 657 := by
  have hp := P2_le (e := ab) (l := 200) (by have := h.a1; omega) (by have := h.a2; omega)
  rw [h.e]
  exact ⟨dy_pos (P2_pos ab) (Nat.pow_pos (by decide)) 0, dy_le_KW (P2_pos ab) hp.1 h.le⟩
structure L2 (x : Nat → Rat) (n : Nat) (c b H : Rat) (j : Nat) (U L : Rat) : Prop where
  eu : U = dy H 1 j
  el : L = dy H 1 (j + 1)
  le : j ≤ 27168
  u : ¬ b < meanN x n c U
theorem L2.start {x : Nat → Rat} {n : Nat} {c b H : Rat} (h : ¬ b < meanN x n c H) : L2 x n c b H 0 H (H / 2) :=
  ⟨(dy_one H).symm, by rw [← dy_halve, dy_one], Nat.zero_le _, h⟩
theorem L2.step {x : Nat → Rat} {n : Nat} {c b H : Rat} {bits : Int} {j : Nat} {U L : Rat} (s : SIn x n c b bits) (hH : 0 < H ∧ H ≤ KW 657) (h : L2 x n c b H j U L) (ha : ¬ b < meanN x n c L) : j < 27168 ∧ L2 x n c b H (j + 1) L (L / 2) := by
  have := loop2_stop s.hx s.hc s.c0 s.hs hH.1 hH.2 (j := j + 1) (by rw [← h.el]; exact ha)
  exact ⟨by omega, h.el, by rw [h.el, dy_halve], by omega, ha⟩
theorem L2.Q {x : Nat → Rat} {n : Nat} {c b H : Rat} {j : Nat} {U L : Rat} (h : L2 x n c b H j U L) (hq : E.Q 664 H) : E.Q 1516 U ∧ E.Q 1516 L := by
  rw [h.eu, h.el]
  have hj := h.le
  exact ⟨(Q_dy hq (a := 1) (l := 1) (m := 850) (by decide +kernel) (by decide) (by omega)).le (by decide), (Q_dy hq (a := 1) (l := 1) (m := 850) (by decide +kernel) (by decide) (by omega)).le (by decide)⟩
structure L3 (x : Nat → Rat) (n : Nat) (c b l : Rat) (bits : Int) (a k : Nat) (U L : Rat) : Prop where
  el : L = dy l a k
  eu : U = dy l (a + 1) k
  a1 : 2 ^ k ≤ a
  a2 : a < 2 ^ (k + 1)
  le : k ≤ bits.toNat
  lo : b < meanN x n c L
  hi : ¬ b < meanN x n c U
  l0 : 0 < l
  hl : Q 1516 l
theorem L3.start {x : Nat → Rat} {n : Nat} {c b H : Rat} {j : Nat} {U L : Rat} {bits : Int} (hH : 0 < H) (hq : E.Q 664 H) (h : L2 x n c b H j U L) (ha : b < meanN x n c L) : L3 x n c b L bits 1 0 U L := by
  have e : U = dy L 2 0 := by
    have : dy H 1 j = dy H 1 (j + 1) + dy H 1 (j + 1) := by rw [← dy_halve]; grind
    rw [h.eu, this, ← h.el]
    have h2 := dy_double L 1 0
    rw [dy_one] at h2
    exact h2
  exact ⟨(dy_one L).symm, e, by decide, by decide, Nat.zero_le _, ha, h.u, by rw [h.el]; exact dy_pos hH (by decide) _, (h.Q hq).2⟩
theorem L3.Q {x : Nat → Rat} {n : Nat} {c b l : Rat} {bits : Int} {a k : Nat} {U L : Rat} (h : L3 x n c b l bits a k U L) (t0 : 0 ≤ bits) (t1 : bits ≤ 128) : E.Q 1530 U ∧ E.Q 1530 L ∧ E.Q 3064 ((L + U) / 2) ∧ E.Q 8 (P2 (-bits)) := by
  have hk : k ≤ 128 := by have := h.le; omega
  have ha : a + 1 < W ^ 5 := by
    have h1 : 2 ^ (k + 1) ≤ 2 ^ 129 := Nat.pow_le_pow_right (by decide) (by omega)
    have h2 : 2 ^ 129 + 1 < W ^ 5 := by decide +kernel
    have := h.a2
    omega
  have q1 : E.Q 1530 U := by rw [h.eu]; exact (Q_dy h.hl (l := 5) (m := 5) ha (by decide) (by omega)).le (by decide)
  have q2 : E.Q 1530 L := by rw [h.el]; exact (Q_dy h.hl (l := 5) (m := 5) (Nat.lt_of_succ_lt ha) (by decide) (by omega)).le (by decide)
  refine ⟨q1, q2, ?_, ?_⟩
  · have hh : E.Q 1 (2 : Rat) := ⟨by decide +kernel, by decide +kernel⟩
    have e : (L + U) / 2 = (L + U) * ((1 : Nat) : Int) / two 1 := by
      rw [show two 1 = (2 : Rat) from rfl, show ((((1 : Nat) : Int)) : Rat) = 1 from rfl]; grind
    rw [e]
    exact (Q_dy (q2.add q1) (a := 1) (l := 1) (k := 1) (m := 1) (by decide +kernel) (by decide) (by decide)).le (by decide)
  · exact (P2_Q (l := 5) (by omega) (by omega) (by decide)).le (by decide)
theorem L3.mid {x : Nat → Rat} {n : Nat} {c b l : Rat} {bits : Int} {a k : Nat} {U L : Rat} (h : L3 x n c b l bits a k U L) : (L + U) / 2 = dy l (2 * a + 1) (k + 1) := by
  rw [h.el, h.eu, dy_mid]
theorem L3.up {x : Nat → Rat} {n : Nat} {c b l : Rat} {bits : Int} {a k : Nat} {U L : Rat} (h : L3 x n c b l bits a k U L) (hk : k < bits.toNat) (ha : b < meanN x n c ((L + U) / 2)) : L3 x n c b l bits (2 * a + 1) (k + 1) U ((L + U) / 2) := by
  have p1 := h.a1
  have p2 := h.a2
  exact ⟨h.mid, by rw [h.eu, dy_up]; rfl, by rw [Nat.pow_succ]; omega, by rw [Nat.pow_succ]; omega, hk, ha, h.hi, h.l0, h.hl⟩
theorem L3.done {x : Nat → Rat} {n : Nat} {c b l : Rat} {bits : Int} {a k : Nat} {U L : Rat} (h : L3 x n c b l bits a k U L) (t0 : 0 ≤ bits) (t1 : bits ≤ 128) (ht : ¬ P2 (-bits) * U < U - L) : ScaleOk x n c b bits L U := by
  obtain ⟨q1, q2, _, _⟩ := h.Q t0 t1
  refine ⟨by rw [h.el]; exact dy_pos h.l0 (Nat.lt_of_lt_of_le (Nat.pow_pos (by decide)) h.a1) k, ?_, h.lo, Rat.not_lt.1 h.hi, Rat.not_lt.1 ht, q2.le (by decide), q1.le (by decide)⟩
  rw [h.el, h.eu, dy_succ]
  have : 0 < l / two k := by rw [Rat.div_def]; exact Rat.mul_pos h.l0 (Rat.inv_pos.2 (two_pos k))
  grind
end Go.Proofs.YtbiifkfbkaejlaaGreat.E
namespace Go.Proofs.YtbiifkfbkaejlaaGreat.E
open Go Go.RowKit
set_option linter.unusedVariables false
set_option linter.unusedSimpArgs false
def ScaleR (x : Nat → Rat) (n : Nat) (c b : Rat) (bits : Int) (lo hi : Rat) : Prop := if checkE n c b bits ≠ 0 ∨ shareN x n ≤ b then lo = 0 ∧ hi = 0 else ScaleOk x n c b bits lo hi
end Go.Proofs.YtbiifkfbkaejlaaGreat.E
/- Plain laws of the scale: order, growth, scaling. -/
namespace Go.Proofs.YtbiifkfbkaejlaaGreat.E
set_option linter.unusedVariables false
set_option linter.unusedSimpArgs false
end Go.Proofs.YtbiifkfbkaejlaaGreat.E
namespace Go.Proofs.YtbiifkfbkaejlaaGreat.E
open Go Go.RowKit
set_option linter.unusedVariables false
set_option linter.unusedSimpArgs false
theorem ScaleR.Q {x : Nat → Rat} {n : Nat} {c b : Rat} {bits : Int} {l h : Rat} (hs : ScaleR x n c b bits l h) : E.Q 2000 l ∧ E.Q 2000 h := by
  unfold ScaleR at hs
  split at hs
  · rw [hs.1, hs.2]; exact ⟨Q.le Q0 (by decide), Q.le Q0 (by decide)⟩
  · exact ⟨hs.qlo, hs.qhi⟩
end Go.Proofs.YtbiifkfbkaejlaaGreat.E
namespace Go.Proofs.YtbiifkfbkaejlaaGreat.E
open Go Go.RowKit
set_option linter.unusedVariables false
set_option linter.unusedSimpArgs false
end Go.Proofs.YtbiifkfbkaejlaaGreat.E
namespace Go.Proofs.YtbiifkfbkaejlaaGreat.E
open Go Go.RowKit
set_option linter.unusedVariables false
set_option linter.unusedSimpArgs false
end Go.Proofs.YtbiifkfbkaejlaaGreat.E
namespace Go.Proofs.YtbiifkfbkaejlaaGreat.E
open Go Go.RowKit
set_option linter.unusedVariables false
set_option linter.unusedSimpArgs false
theorem cq_gt {x y : Rat} (h : cmpQ x y > 0) : y < x := cmpQ_gt.1 h
theorem cq_ngt {x y : Rat} (h : ¬ cmpQ x y > 0) : ¬ y < x := fun h' => h (cmpQ_gt.2 h')
theorem cq_lt {x y : Rat} (h : cmpQ x y < 0) : x < y := cmpQ_lt.1 h
theorem cq_nlt {x y : Rat} (h : ¬ cmpQ x y < 0) : ¬ x < y := fun h' => h (cmpQ_lt.2 h')
theorem le_dec {x y : Rat} : decide (cmpQ x y ≤ 0) = !decide (y < x) := by
  by_cases h : y < x
  · simp [h, show ¬ cmpQ x y ≤ 0 from fun h' => by have := cmpQ_gt.2 h; omega]
  · simp [h, show cmpQ x y ≤ 0 from Int.not_lt.1 (fun h' => h (cmpQ_gt.1 h'))]
theorem qv_z : qv (⟨false, [], []⟩ : Raw) = 0 := by rw [← encQ_zero, qv_encQ]
theorem y_iv_number {p : Prop} (h : p := by first | assumption | exact Lb_toL _ | omega | (simp; done) | exact RQ_z) : p := h
theorem iv_number (p : RA) (r : Raw) (hr : RQ 268435456 r) : Spec Tryz.prog 128 #[ratV p r] [fRat p r] (ι := RA) (fun y => ratV y (encQ (qv r))) (fun y => True) (fun y => [fRat y (encQ (qv r))]) := by
 refine Spec.of_body _ (fn := Tryz.f128) k_ rfl k_ (fun X w0 => ?_)
 refine J.fact (φ := r.mag.length ≤ 140737488355328 ∧ r.den.length ≤ 140737488355328) (fun w h => by have h1 := (h _ (.head _)).1.1; have h2 := (h _ (.head _)).2.1; omega) (fun hl1 => ?_)
 refine J.sreg ?_
 refine RN.new (fun b => pt b) (.cells (ratC p r) 40 (0, 0)) k_ k_ (fun w => by kernel_rfl) (fun b2 => ?_)
 refine RN.new (fun b => pt b) (.cells (ratC (⟨saNil, saNil⟩ : RA) (⟨false, ([] : List Nat), ([] : List Nat)⟩ : Raw)) 40 (0, 0)) k_ k_ (fun w => by kernel_rfl) (fun b3 => ?_)
 refine RN.fs k_ ?_
 refine RN.bq [some 1, none] [2, 3, 4] [b2, b2, b2] 2 [(2, pt b3), (3, ratV p r), (4, ratV (⟨saNil, saNil⟩ : RA) (⟨false, ([] : List Nat), ([] : List Nat)⟩ : Raw))] k_ ?_
 refine RN.also (fRat (⟨saNil, saNil⟩ : RA) (⟨false, ([] : List Nat), ([] : List Nat)⟩ : Raw)) (fun w h => ⟨fU_nil w, fU_nil w⟩) ?_
 refine RN.call (rational_Add p r ⟨saNil, saNil⟩ ⟨false, ([] : List Nat), ([] : List Nat)⟩ y_iv_number y_iv_number) [1, 0] k_ k_ k_ rfl (fun y4 _ => ?_)
 refine RN.bs [some 0] [2] [b3, b3, b3] 4 [(2, pt b3)] ([(b3, .cells (ratC y4 (encQ ((qv r) + (qv (⟨false, ([] : List Nat), ([] : List Nat)⟩ : Raw))))) 40 (0, 0)), (b2, .cells (ratC p r) 40 (0, 0))]) k_ ?_
 refine RN.fin k_ ?_
 have e_1 : (encQ (qv r)) = (encQ ((qv r) + (qv (⟨false, ([] : List Nat), ([] : List Nat)⟩ : Raw)))) := by first | (rw [show qv (⟨false, [], []⟩ : Raw) = 0 from qv_z, Rat.add_zero]) | rw [Rat.add_zero]
 refine J.ret (KR.ret (v := ratV y4 (encQ ((qv r) + (qv (⟨false, ([] : List Nat), ([] : List Nat)⟩ : Raw))))) (y4) [some 0] [0] [b3, b3, b3] k_ v1_ (trivial) v1_)
theorem y_iv_value {p : Prop} (h : p := by first | assumption | exact Lb_toL _ | omega | (simp; done) | exact RQ_enc ‹_›) : p := h
theorem iv_value (p : RA) (r : Raw) (u : RA) (t : Raw) (hr : RQ 268435456 r) (ht : RQ 268435456 t) : Spec Tryz.prog 85 #[.agg (ivC p r u t)] [fRat p r, fRat u t] (ι := RA × RA) (fun y => .agg (ivC y.1 (encQ (loQ (qv r) (qv t))) y.2 (encQ (hiQ (qv r) (qv t))))) (fun y => True) (fun y => [fRat y.1 (encQ (loQ (qv r) (qv t))), fRat y.2 (encQ (hiQ (qv r) (qv t)))]) := by
 refine Spec.of_body _ (fn := Tryz.f85) k_ rfl k_ (fun X w0 => ?_)
 refine J.fact (φ := r.mag.length ≤ 140737488355328 ∧ r.den.length ≤ 140737488355328) (fun w h => by have h1 := (h _ (.head _)).1.1; have h2 := (h _ (.head _)).2.1; omega) (fun hl1 => ?_)
 refine J.fact (φ := t.mag.length ≤ 140737488355328 ∧ t.den.length ≤ 140737488355328) (fun w h => by have h1 := (h _ (.tail _ ((.head _)))).1.1; have h2 := (h _ (.tail _ ((.head _)))).2.1; omega) (fun hl2 => ?_)
 have hrq := hr.2.2.2.2
 have htq := ht.2.2.2.2
 refine J.sreg ?_
 refine RN.new (fun b => pt b) (.cells (ivC p r u t) 43 (0, 0)) k_ k_ (fun w => by kernel_rfl) (fun b3 => ?_)
 refine RN.new (fun b => pt b) (.cells (ivC (⟨saNil, saNil⟩ : RA) (⟨false, ([] : List Nat), ([] : List Nat)⟩ : Raw) (⟨saNil, saNil⟩ : RA) (⟨false, ([] : List Nat), ([] : List Nat)⟩ : Raw)) 43 (0, 0)) k_ k_ (fun w => by kernel_rfl) (fun b4 => ?_)
 refine RN.fin k_ ?_
 refine J.seq ?_
 refine J.regD k_ [7] ?_
 refine RD.bq [(0, none), (1, some 1), (3, none), (4, some 1)] [1, 2, 4, 7] [b3, b3, b3, b3, b3, b3] [(1, pt b3), (2, pt b4), (4, ratV p r), (7, ratV u t)] k_ k_ ?_
 refine RD.call (i := 2) (iv_number p r y_iv_value) [0] k_ k_ k_ k_ k_ rfl (fun y5 _ => ?_)
 refine RD.call (i := 5) (iv_number u t y_iv_value) [2] k_ k_ k_ k_ k_ rfl (fun y6 _ => ?_)
 refine RD.bq (nl [6]) [1, 2, 9] [] [(1, pt b3), (2, pt b4), (9, .agg (ivC y5 (encQ (qv r)) y6 (encQ (qv t))))] k_ k_ ?_
 refine RD.last (i := 7) (some 1) [1, 2] [b3, b3, b3, b3, b3, b3] k_ k_ k_ (l' := [(1, pt b3), (2, pt b4)]) (M' := [(b4, .cells (ivC (⟨saNil, saNil⟩ : RA) (⟨false, ([] : List Nat), ([] : List Nat)⟩ : Raw) (⟨saNil, saNil⟩ : RA) (⟨false, ([] : List Nat), ([] : List Nat)⟩ : Raw)) 43 (0, 0)), (b3, .cells (ivC y5 (encQ (qv r)) y6 (encQ (qv t))) 43 (0, 0))]) k_ ?_
 refine RD.done k_ ?_
 refine KN.next ?_
 refine J.seq ?_
 refine J.sreg ?_
 refine RN.bq [none, some 1, none, some 1] [1, 2, 11, 13] [b3, b3, b3, b3, b3, b3] 4 [(1, pt b3), (2, pt b4), (11, ratV y5 (encQ (qv r))), (13, ratV y6 (encQ (qv t)))] k_ ?_
 refine RN.call (rational_Compare_c y5 (qv r) y6 (qv t) y_iv_value y_iv_value) [1, 0] k_ k_ k_ rfl (fun y7 _ => ?_)
 refine RN.bq (no 1) [1, 2, 15] [] 6 [(1, pt b3), (2, pt b4), (15, .bool (decide ((cmpQ (qv r) (qv t)) > 0)))] k_ ?_
 refine RN.fin k_ ?_
 refine J.cond (decide ((cmpQ (qv r) (qv t)) > 0)) k_ (fun c8 => ?_) (fun c8 => ?_)
 ·replace c8 := of_decide_eq_true c8
  refine J.sreg ?_
  refine RN.bs [none, some 0] [2] [b4, b4, b4, b4, b4, b4] 2 [(2, pt b4)] ([(b4, .cells (ivC (⟨saNil, saNil⟩ : RA) (⟨false, ([] : List Nat), ([] : List Nat)⟩ : Raw) (⟨saNil, saNil⟩ : RA) (⟨false, ([] : List Nat), ([] : List Nat)⟩ : Raw)) 43 (0, 0)), (b3, .cells (ivC y5 (encQ (qv r)) y6 (encQ (qv t))) 43 (0, 0))]) k_ ?_
  refine RN.fin k_ ?_
  have e_1 : (loQ (qv r) (qv t)) = (0 : Rat) := by first | exact loQ_t (cq_gt ‹_›) | exact hiQ_t (cq_gt ‹_›)
  have e_2 : (hiQ (qv r) (qv t)) = (0 : Rat) := by first | exact loQ_t (cq_gt ‹_›) | exact hiQ_t (cq_gt ‹_›)
  refine J.also (fRat (⟨saNil, saNil⟩ : RA) (⟨false, ([] : List Nat), ([] : List Nat)⟩ : Raw)) (fun w h => ⟨fU_nil w, fU_nil w⟩) ?_
  refine J.ret (KR.next (KR.ret (v := .agg (ivC (⟨saNil, saNil⟩ : RA) (⟨false, ([] : List Nat), ([] : List Nat)⟩ : Raw) (⟨saNil, saNil⟩ : RA) (⟨false, ([] : List Nat), ([] : List Nat)⟩ : Raw))) (⟨⟨saNil, saNil⟩, ⟨saNil, saNil⟩⟩) [some 0] [0, 0] [b4, b4, b4, b4, b4, b4] k_ v2_ (trivial) v2_))
 ·replace c8 := of_decide_eq_false c8
  refine J.skip ?_
  refine KN.next ?_
  refine J.sreg ?_
  refine RN.bs [some 1, some 0] [2] [b4, b4, b4, b4, b4, b4, b3, b3, b3, b3, b3, b3] 2 [(2, pt b4)] ([(b4, .cells (ivC y5 (encQ (qv r)) y6 (encQ (qv t))) 43 (0, 0)), (b3, .cells (ivC y5 (encQ (qv r)) y6 (encQ (qv t))) 43 (0, 0))]) k_ ?_
  refine RN.fin k_ ?_
  have e_1 : (loQ (qv r) (qv t) : Rat) = (qv r : Rat) := by first | exact loQ_f (cq_ngt ‹_›) | exact hiQ_f (cq_ngt ‹_›)
  have e_2 : (hiQ (qv r) (qv t) : Rat) = (qv t : Rat) := by first | exact loQ_f (cq_ngt ‹_›) | exact hiQ_f (cq_ngt ‹_›)
  refine J.ret (KR.ret (v := .agg (ivC y5 (encQ (qv r)) y6 (encQ (qv t)))) (⟨y5, y6⟩) [some 0] [1, 0] [b4, b4, b4, b4, b4, b4] k_ v2_ (trivial) v2_)
theorem iv_value_c (p : RA) (r' : Rat) (u : RA) (t' : Rat) (hr : Q 268435456 r') (ht : Q 268435456 t') : Spec Tryz.prog 85 #[.agg (ivC p (encQ r') u (encQ t'))] [fRat p (encQ r'), fRat u (encQ t')] (ι := RA × RA) (fun y => .agg (ivC y.1 (encQ (loQ r' t')) y.2 (encQ (hiQ r' t')))) (fun y => True) (fun y => [fRat y.1 (encQ (loQ r' t')), fRat y.2 (encQ (hiQ r' t'))]) := by
  have H := iv_value p (encQ r') u (encQ t') (RQ_enc hr) (RQ_enc ht)
  first | exact H | (simp only [qv_encQ, validQ_encQ] at H; exact H)
theorem y_iv_Valid {p : Prop} (h : p := by first | assumption | exact Lb_toL _ | omega | (simp; done) | omega) : p := h
theorem iv_Valid (p : RA) (r : Raw) (u : RA) (t : Raw) (hr : RQ 268435456 r) (ht : RQ 268435456 t) : Spec Tryz.prog 84 #[.agg (ivC p r u t)] [fRat p r, fRat u t] (ι := Unit) (fun y => .bool (validQ r && validQ t && !decide ((qv t) < (qv r)))) (fun y => True) (fun y => []) := by
 refine Spec.of_body _ (fn := Tryz.f84) k_ rfl k_ (fun X w0 => ?_)
 refine J.fact (φ := r.mag.length ≤ 140737488355328 ∧ r.den.length ≤ 140737488355328) (fun w h => by have h1 := (h _ (.head _)).1.1; have h2 := (h _ (.head _)).2.1; omega) (fun hl1 => ?_)
 refine J.fact (φ := t.mag.length ≤ 140737488355328 ∧ t.den.length ≤ 140737488355328) (fun w h => by have h1 := (h _ (.tail _ ((.head _)))).1.1; have h2 := (h _ (.tail _ ((.head _)))).2.1; omega) (fun hl2 => ?_)
 have hr' := hr
 have ht' := ht
 obtain ⟨hm1, hd1, hml1, hdl1, hq1⟩ := hr'
 obtain ⟨hm2, hd2, hml2, hdl2, hq2⟩ := ht'
 refine J.sreg ?_
 refine RN.new (fun b => pt b) (.cells (ivC p r u t) 43 (0, 0)) k_ k_ (fun w => by kernel_rfl) (fun b3 => ?_)
 refine RN.bq (no 1) [1] [] 2 [(1, pt b3)] k_ ?_
 refine RN.fs k_ ?_
 refine RN.bq [none, some 0] [1, 4] [b3, b3, b3] 2 [(1, pt b3), (4, ratV p r)] k_ ?_
 refine RN.call (rational_Valid p r y_iv_Valid y_iv_Valid y_iv_Valid y_iv_Valid) [0] k_ k_ k_ rfl (fun y4 _ => ?_)
 refine RN.bq (no 1) [1, 6] [] 4 [(1, pt b3), (6, .bool (validQ r))] k_ ?_
 refine RN.split 6 (validQ r) k_ (fun c5 => ?_) (fun c5 => ?_)
 ·refine RN.bq [none, some 0] [1, 6, 8] [b3, b3, b3] 6 [(1, pt b3), (6, .bool true), (8, ratV u t)] k_ ?_
  refine RN.call (rational_Valid u t y_iv_Valid y_iv_Valid y_iv_Valid y_iv_Valid) [1] k_ k_ k_ rfl (fun y6 _ => ?_)
  refine RN.bq (no 2) [1, 11] [] 9 [(1, pt b3), (11, .bool (validQ t))] k_ ?_
  refine RN.split 11 (validQ t) k_ (fun c7 => ?_) (fun c7 => ?_)
  ·refine RN.bq [none, some 0, none, some 0] [11, 13, 15] [b3, b3, b3, b3, b3, b3] 13 [(11, .bool true), (13, ratV p r), (15, ratV u t)] k_ ?_
   refine RN.call (rational_Compare p r u t y_iv_Valid y_iv_Valid) [0, 1] k_ k_ k_ rfl (fun y8 _ => ?_)
   refine RN.bq (no 3) [2] [] 17 [(2, .bool (decide ((cmpQ (qv r) (qv t)) ≤ 0)))] k_ ?_
   refine RN.fin k_ ?_
   have e_1 : (validQ r && validQ t && !decide ((qv t) < (qv r))) = (decide ((cmpQ (qv r) (qv t)) ≤ 0)) := by simp_all [le_dec]
   refine J.ret (KR.ret (v := .bool (decide ((cmpQ (qv r) (qv t)) ≤ 0))) (()) [none] [] [] k_ v1_ (trivial) v1_)
  ·refine RN.bq (no 8) [2] [] 17 [(2, .bool false)] k_ ?_
   refine RN.fin k_ ?_
   have e_1 : (validQ r && validQ t && !decide ((qv t) < (qv r))) = false := by simp_all [le_dec]
   refine J.ret (KR.ret (v := .bool false) (()) [none] [] [] k_ v1_ (trivial) v1_)
 ·refine RN.bq (no 13) [2] [] 17 [(2, .bool false)] k_ ?_
  refine RN.fin k_ ?_
  have e_1 : (validQ r && validQ t && !decide ((qv t) < (qv r))) = false := by simp_all [le_dec]
  refine J.ret (KR.ret (v := .bool false) (()) [none] [] [] k_ v1_ (trivial) v1_)
theorem iv_Valid_c (p : RA) (r' : Rat) (u : RA) (t' : Rat) (hr : Q 268435456 r') (ht : Q 268435456 t') : Spec Tryz.prog 84 #[.agg (ivC p (encQ r') u (encQ t'))] [fRat p (encQ r'), fRat u (encQ t')] (ι := Unit) (fun y => .bool (true && true && !decide (t' < r'))) (fun y => True) (fun y => []) := by
  have H := iv_Valid p (encQ r') u (encQ t') (RQ_enc hr) (RQ_enc ht)
  first | exact H | (simp only [qv_encQ, validQ_encQ] at H; exact H)
def foldLo (a : Rat) (l : List Rat) : Rat := l.foldl (fun m x => if x < m then x else m) a
def foldHi (a : Rat) (l : List Rat) : Rat := l.foldl (fun m x => if m < x then x else m) a
def qs (ps : List PR) : List Rat := ps.map fun p => qv p.2
theorem qs_len (ps : List PR) : (qs ps).length = ps.length := by simp [qs]
theorem foldLo_step {a : Rat} {l : List Rat} {i : Nat} (h : i < l.length) : foldLo a (l.take (i + 1)) = if l.getD i 0 < foldLo a (l.take i) then l.getD i 0 else foldLo a (l.take i) := by
  unfold foldLo
  rw [List.take_succ_eq_append_getElem h, List.foldl_append, List.getD_eq_getElem?_getD, List.getElem?_eq_getElem h]; rfl
theorem foldHi_step {a : Rat} {l : List Rat} {i : Nat} (h : i < l.length) : foldHi a (l.take (i + 1)) = if foldHi a (l.take i) < l.getD i 0 then l.getD i 0 else foldHi a (l.take i) := by
  unfold foldHi
  rw [List.take_succ_eq_append_getElem h, List.foldl_append, List.getD_eq_getElem?_getD, List.getElem?_eq_getElem h]; rfl
theorem qs_get {ps : List PR} {i : Nat} (h : i < ps.length) : (qs ps).getD i 0 = qv (ps.getD i pr0).2 := by
  simp [qs, List.getD_eq_getElem?_getD, List.getElem?_eq_getElem h]
theorem lo_t {ps : List PR} {a : Rat} {i : Nat} {r : Raw} (hi : i < ps.length) (hr : qv r = foldLo a ((qs ps).take i)) (h : qv (ps.getD i pr0).2 < qv r) : qv (ps.getD i pr0).2 = foldLo a ((qs ps).take (i + 1)) := by
  rw [foldLo_step (by rw [qs_len]; exact hi), qs_get hi, ← hr, if_pos h]
theorem lo_f {ps : List PR} {a : Rat} {i : Nat} {r : Raw} (hi : i < ps.length) (hr : qv r = foldLo a ((qs ps).take i)) (h : ¬ qv (ps.getD i pr0).2 < qv r) : qv r = foldLo a ((qs ps).take (i + 1)) := by
  rw [foldLo_step (by rw [qs_len]; exact hi), qs_get hi, ← hr, if_neg h]
theorem hi_t {ps : List PR} {a : Rat} {i : Nat} {r : Raw} (hi : i < ps.length) (hr : qv r = foldHi a ((qs ps).take i)) (h : qv r < qv (ps.getD i pr0).2) : qv (ps.getD i pr0).2 = foldHi a ((qs ps).take (i + 1)) := by
  rw [foldHi_step (by rw [qs_len]; exact hi), qs_get hi, ← hr, if_pos h]
theorem hi_f {ps : List PR} {a : Rat} {i : Nat} {r : Raw} (hi : i < ps.length) (hr : qv r = foldHi a ((qs ps).take i)) (h : ¬ qv r < qv (ps.getD i pr0).2) : qv r = foldHi a ((qs ps).take (i + 1)) := by
  rw [foldHi_step (by rw [qs_len]; exact hi), qs_get hi, ← hr, if_neg h]
theorem y_iv_hull {p : Prop} (h : p := by first | assumption | exact Lb_toL _ | omega | (simp; done) | exact hps _ (by omega) | exact hI2 | exact hI3) : p := h
theorem iv_hull (p : RA) (r : Raw) (s : SA) (ps : List PR) (hr : RQ 268435456 r) (hps : ∀ i, i < ps.length → RQ 268435456 (ps.getD i pr0).2) : Spec Tryz.prog 86 #[ratV p r, sl s ps.length] [fRat p r, fRats s ps] (ι := RA × RA) (fun y => .agg (ivC y.1 (encQ (foldLo (qv r) (qs ps))) y.2 (encQ (foldHi (qv r) (qs ps))))) (fun y => True) (fun y => [fRat y.1 (encQ (foldLo (qv r) (qs ps))), fRat y.2 (encQ (foldHi (qv r) (qs ps)))]) := by
 refine Spec.of_body _ (fn := Tryz.f86) k_ rfl k_ (fun X w0 => ?_)
 refine J.fact (φ := r.mag.length ≤ 140737488355328 ∧ r.den.length ≤ 140737488355328) (fun w h => by have h1 := (h _ (.head _)).1.1; have h2 := (h _ (.head _)).2.1; omega) (fun hl1 => ?_)
 refine J.fact (φ := ps.length ≤ 140737488355328) (fun w h => by have := (h _ (.tail _ ((.head _)))).1; omega) (fun hl2 => ?_)
 refine J.sreg ?_
 refine RN.new (fun b => pt b) (.cells (ratC p r) 40 (0, 0)) k_ k_ (fun w => by kernel_rfl) (fun b3 => ?_)
 refine RN.new (fun b => pt b) (.cells (ivC (⟨saNil, saNil⟩ : RA) (⟨false, ([] : List Nat), ([] : List Nat)⟩ : Raw) (⟨saNil, saNil⟩ : RA) (⟨false, ([] : List Nat), ([] : List Nat)⟩ : Raw)) 43 (0, 0)) k_ k_ (fun w => by kernel_rfl) (fun b4 => ?_)
 refine RN.fs k_ ?_
 refine RN.bq [some 1, some 1, none] [1, 4, 10] [b3, b3, b3, b3, b3, b3] 3 [(1, sl s ps.length), (4, pt b4), (10, .agg (ivC p r p r))] k_ ?_
 refine RN.new (fun b => pt b) (.cells (ivC (⟨saNil, saNil⟩ : RA) (⟨false, ([] : List Nat), ([] : List Nat)⟩ : Raw) (⟨saNil, saNil⟩ : RA) (⟨false, ([] : List Nat), ([] : List Nat)⟩ : Raw)) 43 (0, 0)) k_ k_ (fun w => by kernel_rfl) (fun b5 => ?_)
 refine RN.bs [some 0] [1, 4, 5] [b5, b5, b5, b5, b5, b5] 5 [(1, sl s ps.length), (4, pt b4), (5, pt b5)] ([(b5, .cells (ivC p r p r) 43 (0, 0)), (b4, .cells (ivC (⟨saNil, saNil⟩ : RA) (⟨false, ([] : List Nat), ([] : List Nat)⟩ : Raw) (⟨saNil, saNil⟩ : RA) (⟨false, ([] : List Nat), ([] : List Nat)⟩ : Raw)) 43 (0, 0)), (b3, .cells (ratC p r) 40 (0, 0))]) k_ ?_
 refine RN.fin k_ ?_
 refine J.seq ?_
 refine J.sreg ?_
 refine RN.bq (no 3) [4, 5, 11, 12, 13] [] 3 [(4, pt b4), (5, pt b5), (11, sl s ps.length), (12, .int .i64 ((ps.length : Nat) : Int)), (13, .int .i64 0)] k_ ?_
 refine RN.fin k_ ?_
 refine J.block ?_
 refine J.loop (ι := (Nat) × (RA) × (Raw) × (RA) × (Raw)) (fun x => x.1 ≤ ps.length ∧ RQ 268435456 x.2.2.1 ∧ RQ 268435456 x.2.2.2.2 ∧ qv x.2.2.1 = foldLo (qv r) ((qs ps).take x.1) ∧ qv x.2.2.2.2 = foldHi (qv r) ((qs ps).take x.1)) (fun x => ps.length - x.1) (fun x => [(4, pt b4), (5, pt b5), (11, sl s ps.length), (12, .int .i64 ((ps.length : Nat) : Int)), (13, .int .i64 ((x.1 : Nat) : Int))]) (fun x => [(b5, .cells (ivC x.2.1 x.2.2.1 x.2.2.2.1 x.2.2.2.2) 43 (0, 0)), (b4, .cells (ivC (⟨saNil, saNil⟩ : RA) (⟨false, ([] : List Nat), ([] : List Nat)⟩ : Raw) (⟨saNil, saNil⟩ : RA) (⟨false, ([] : List Nat), ([] : List Nat)⟩ : Raw)) 43 (0, 0)), (b3, .cells (ratC p r) 40 (0, 0))]) (fun x => [fRat x.2.1 x.2.2.1, fRat x.2.2.2.1 x.2.2.2.2, fRat p r, fRats s ps]) (0, p, r, p, r) [4, 5, 11, 12, 13] [0, 0, 0, 1] (⟨Nat.zero_le _, hr, hr, rfl, rfl⟩) k_ (by first | rfl | (simp only [encQ_zero]; done) | (simp only [encQ_zero]; rfl)) (by rfl) (fun x6 hI => ?_)
 obtain ⟨i, la, lr, ha, hb⟩ := x6
 replace hI : i ≤ ps.length ∧ RQ 268435456 lr ∧ RQ 268435456 hb ∧ qv lr = foldLo (qv r) ((qs ps).take i) ∧ qv hb = foldHi (qv r) ((qs ps).take i) := hI
 obtain ⟨hI1, hI2, hI3, hI4, hI5⟩ := hI
 refine J.sreg ?_
 refine RN.bq (no 1) [4, 5, 11, 12, 13, 14] [] 1 [(4, pt b4), (5, pt b5), (11, sl s ps.length), (12, .int .i64 ((ps.length : Nat) : Int)), (13, .int .i64 ((i : Nat) : Int)), (14, .bool (decide (((i : Nat) : Int) < ((ps.length : Nat) : Int))))] k_ ?_
 refine RN.fin k_ ?_
 refine J.seq ?_
 refine J.cond (decide (((i : Nat) : Int) < ((ps.length : Nat) : Int))) k_ (fun c7 => ?_) (fun c7 => ?_)
 ·replace c7 := of_decide_eq_true c7
  refine J.skip ?_
  refine KN.next ?_
  refine J.seq ?_
  refine J.block ?_
  refine J.sreg ?_
  refine RN.val _ k_ k_ (q_ridx (t := 28) (x := (.tmp 11)) (ix := (.tmp 13)) (K := .i64) (i0 := ((i : Nat) : Int)) (m := i) (e := 40) 3 rfl k_ k_ k_ k_ k_ (by omega) x_) ?_
  refine RN.val _ k_ k_ (q_rload (T := 40) (x := (.tmp 15)) (m := i) (s := s) (ps := ps) 3 rfl k_ k_ k_ k_ x_) ?_
  refine RN.also (fRat ((ps.getD i pr0).1) ((ps.getD i pr0).2)) (fun w h => rat_of (h _ (.tail _ ((.tail _ ((.tail _ ((.head _)))))))) x_) ?_
  refine RN.new (fun b => pt b) (.cells (ratC (⟨saNil, saNil⟩ : RA) (⟨false, ([] : List Nat), ([] : List Nat)⟩ : Raw)) 40 (0, 0)) k_ k_ (fun w => by kernel_rfl) (fun b8 => ?_)
  refine RN.bs [some 0] [4, 5, 7, 11, 12, 13] [b8, b8, b8] 4 [(4, pt b4), (5, pt b5), (7, pt b8), (11, sl s ps.length), (12, .int .i64 ((ps.length : Nat) : Int)), (13, .int .i64 ((i : Nat) : Int))] ([(b8, .cells (ratC ((ps.getD i pr0).1) ((ps.getD i pr0).2)) 40 (0, 0)), (b5, .cells (ivC la lr ha hb) 43 (0, 0)), (b4, .cells (ivC (⟨saNil, saNil⟩ : RA) (⟨false, ([] : List Nat), ([] : List Nat)⟩ : Raw) (⟨saNil, saNil⟩ : RA) (⟨false, ([] : List Nat), ([] : List Nat)⟩ : Raw)) 43 (0, 0)), (b3, .cells (ratC p r) 40 (0, 0))]) k_ ?_
  refine RN.fin k_ ?_
  refine J.seq ?_
  refine J.sreg ?_
  refine RN.bq [some 0, none, some 1] [4, 5, 7, 11, 12, 13, 17, 19] [b5, b5, b5, b8, b8, b8] 3 [(4, pt b4), (5, pt b5), (7, pt b8), (11, sl s ps.length), (12, .int .i64 ((ps.length : Nat) : Int)), (13, .int .i64 ((i : Nat) : Int)), (17, ratV ((ps.getD i pr0).1) ((ps.getD i pr0).2)), (19, ratV la lr)] k_ ?_
  refine RN.call (rational_Compare ((ps.getD i pr0).1) ((ps.getD i pr0).2) la lr y_iv_hull y_iv_hull) [0, 1] k_ k_ k_ rfl (fun y9 _ => ?_)
  refine RN.bq (no 1) [4, 5, 7, 11, 12, 13, 21] [] 5 [(4, pt b4), (5, pt b5), (7, pt b8), (11, sl s ps.length), (12, .int .i64 ((ps.length : Nat) : Int)), (13, .int .i64 ((i : Nat) : Int)), (21, .bool (decide ((cmpQ (qv ((ps.getD i pr0).2)) (qv lr)) < 0)))] k_ ?_
  refine RN.fin k_ ?_
  refine J.cond (decide ((cmpQ (qv ((ps.getD i pr0).2)) (qv lr)) < 0)) k_ (fun c10 => ?_) (fun c10 => ?_)
  ·replace c10 := of_decide_eq_true c10
   refine J.regN ?_
   refine RN.bs [some 0, none, some 1] [4, 5, 7, 11, 12, 13] [b5, b5, b5, b8, b8, b8] 3 [(4, pt b4), (5, pt b5), (7, pt b8), (11, sl s ps.length), (12, .int .i64 ((ps.length : Nat) : Int)), (13, .int .i64 ((i : Nat) : Int))] ([(b8, .cells (ratC ((ps.getD i pr0).1) ((ps.getD i pr0).2)) 40 (0, 0)), (b5, .cells (ivC ((ps.getD i pr0).1) ((ps.getD i pr0).2) ha hb) 43 (0, 0)), (b4, .cells (ivC (⟨saNil, saNil⟩ : RA) (⟨false, ([] : List Nat), ([] : List Nat)⟩ : Raw) (⟨saNil, saNil⟩ : RA) (⟨false, ([] : List Nat), ([] : List Nat)⟩ : Raw)) 43 (0, 0)), (b3, .cells (ratC p r) 40 (0, 0))]) k_ ?_
   refine RN.fs k_ ?_
   refine RN.bq [some 0, none, some 1] [4, 5, 7, 11, 12, 13, 24, 26] [b5, b5, b5, b8, b8, b8] 3 [(4, pt b4), (5, pt b5), (7, pt b8), (11, sl s ps.length), (12, .int .i64 ((ps.length : Nat) : Int)), (13, .int .i64 ((i : Nat) : Int)), (24, ratV ((ps.getD i pr0).1) ((ps.getD i pr0).2)), (26, ratV ha hb)] k_ ?_
   refine RN.call (rational_Compare ((ps.getD i pr0).1) ((ps.getD i pr0).2) ha hb y_iv_hull y_iv_hull) [0, 2] k_ k_ k_ rfl (fun y11 _ => ?_)
   refine RN.bq (no 1) [4, 5, 7, 11, 12, 13, 28] [] 5 [(4, pt b4), (5, pt b5), (7, pt b8), (11, sl s ps.length), (12, .int .i64 ((ps.length : Nat) : Int)), (13, .int .i64 ((i : Nat) : Int)), (28, .bool (decide ((cmpQ (qv ((ps.getD i pr0).2)) (qv hb)) > 0)))] k_ ?_
   refine RN.fin k_ ?_
   refine J.cond (decide ((cmpQ (qv ((ps.getD i pr0).2)) (qv hb)) > 0)) k_ (fun c12 => ?_) (fun c12 => ?_)
   ·replace c12 := of_decide_eq_true c12
    refine J.regN ?_
    refine RN.bs [some 0, none, some 1] [4, 5, 11, 12, 13] [b5, b5, b5, b8, b8, b8] 3 [(4, pt b4), (5, pt b5), (11, sl s ps.length), (12, .int .i64 ((ps.length : Nat) : Int)), (13, .int .i64 ((i : Nat) : Int))] ([(b8, .cells (ratC ((ps.getD i pr0).1) ((ps.getD i pr0).2)) 40 (0, 0)), (b5, .cells (ivC ((ps.getD i pr0).1) ((ps.getD i pr0).2) ((ps.getD i pr0).1) ((ps.getD i pr0).2)) 43 (0, 0)), (b4, .cells (ivC (⟨saNil, saNil⟩ : RA) (⟨false, ([] : List Nat), ([] : List Nat)⟩ : Raw) (⟨saNil, saNil⟩ : RA) (⟨false, ([] : List Nat), ([] : List Nat)⟩ : Raw)) 43 (0, 0)), (b3, .cells (ratC p r) 40 (0, 0))]) k_ ?_
    refine RN.done k_ ?_
    refine KN.blk ?_
    refine KN.next ?_
    refine J.regN ?_
    refine RN.bq (no 1) [4, 5, 11, 12, 31] [] 1 [(4, pt b4), (5, pt b5), (11, sl s ps.length), (12, .int .i64 ((ps.length : Nat) : Int)), (31, .int .i64 (IntKind.i64.wrap (((i : Nat) : Int) + 1)))] k_ ?_
    rw [show IntKind.i64.wrap (((i : Nat) : Int) + 1) = ((i + 1 : Nat) : Int) from by rw [IntKind.wrap_i64]; omega]
    refine RN.bq (no 1) [4, 5, 11, 12, 13] [] 2 [(4, pt b4), (5, pt b5), (11, sl s ps.length), (12, .int .i64 ((ps.length : Nat) : Int)), (13, .int .i64 ((i + 1 : Nat) : Int))] k_ ?_
    refine RN.done k_ ?_
    refine KN.dropF 1 ?_
    refine KN.roundE (i + 1, ((ps.getD i pr0).1), ((ps.getD i pr0).2), ((ps.getD i pr0).1), ((ps.getD i pr0).2)) [4, 5, 11, 12, 13] [0, 0, 3, 4] (l2 := [(4, pt b4), (5, pt b5), (11, sl s ps.length), (12, .int .i64 ((ps.length : Nat) : Int)), (13, .int .i64 ((i + 1 : Nat) : Int))]) (by (try dsimp only); omega) (by (try dsimp only); exact ⟨by omega, by first | exact hI2 | exact hps _ (by omega), by first | exact hI3 | exact hps _ (by omega), by first | exact lo_t (by omega) hI4 (cq_lt ‹_›) | exact lo_f (by omega) hI4 (cq_nlt ‹_›), by first | exact hi_t (by omega) hI5 (cq_gt ‹_›) | exact hi_f (by omega) hI5 (cq_ngt ‹_›)⟩) k_ (by rfl) (by rfl) (by rfl)
   ·replace c12 := of_decide_eq_false c12
    refine J.skip ?_
    refine KN.blk ?_
    refine KN.next ?_
    refine J.regN ?_
    refine RN.bq (no 1) [4, 5, 11, 12, 31] [] 1 [(4, pt b4), (5, pt b5), (11, sl s ps.length), (12, .int .i64 ((ps.length : Nat) : Int)), (31, .int .i64 (IntKind.i64.wrap (((i : Nat) : Int) + 1)))] k_ ?_
    rw [show IntKind.i64.wrap (((i : Nat) : Int) + 1) = ((i + 1 : Nat) : Int) from by rw [IntKind.wrap_i64]; omega]
    refine RN.bq (no 1) [4, 5, 11, 12, 13] [] 2 [(4, pt b4), (5, pt b5), (11, sl s ps.length), (12, .int .i64 ((ps.length : Nat) : Int)), (13, .int .i64 ((i + 1 : Nat) : Int))] k_ ?_
    refine RN.done k_ ?_
    refine KN.dropF 1 ?_
    refine KN.roundE (i + 1, ((ps.getD i pr0).1), ((ps.getD i pr0).2), ha, hb) [4, 5, 11, 12, 13] [0, 2, 3, 4] (l2 := [(4, pt b4), (5, pt b5), (11, sl s ps.length), (12, .int .i64 ((ps.length : Nat) : Int)), (13, .int .i64 ((i + 1 : Nat) : Int))]) (by (try dsimp only); omega) (by (try dsimp only); exact ⟨by omega, by first | exact hI2 | exact hps _ (by omega), by first | exact hI3 | exact hps _ (by omega), by first | exact lo_t (by omega) hI4 (cq_lt ‹_›) | exact lo_f (by omega) hI4 (cq_nlt ‹_›), by first | exact hi_t (by omega) hI5 (cq_gt ‹_›) | exact hi_f (by omega) hI5 (cq_ngt ‹_›)⟩) k_ (by rfl) (by rfl) (by rfl)
  ·replace c10 := of_decide_eq_false c10
   refine J.skip ?_
   refine KN.next ?_
   refine J.sreg ?_
   refine RN.bq [some 0, none, some 1] [4, 5, 7, 11, 12, 13, 24, 26] [b5, b5, b5, b8, b8, b8] 3 [(4, pt b4), (5, pt b5), (7, pt b8), (11, sl s ps.length), (12, .int .i64 ((ps.length : Nat) : Int)), (13, .int .i64 ((i : Nat) : Int)), (24, ratV ((ps.getD i pr0).1) ((ps.getD i pr0).2)), (26, ratV ha hb)] k_ ?_
   refine RN.call (rational_Compare ((ps.getD i pr0).1) ((ps.getD i pr0).2) ha hb y_iv_hull y_iv_hull) [0, 2] k_ k_ k_ rfl (fun y13 _ => ?_)
   refine RN.bq (no 1) [4, 5, 7, 11, 12, 13, 28] [] 5 [(4, pt b4), (5, pt b5), (7, pt b8), (11, sl s ps.length), (12, .int .i64 ((ps.length : Nat) : Int)), (13, .int .i64 ((i : Nat) : Int)), (28, .bool (decide ((cmpQ (qv ((ps.getD i pr0).2)) (qv hb)) > 0)))] k_ ?_
   refine RN.fin k_ ?_
   refine J.cond (decide ((cmpQ (qv ((ps.getD i pr0).2)) (qv hb)) > 0)) k_ (fun c14 => ?_) (fun c14 => ?_)
   ·replace c14 := of_decide_eq_true c14
    refine J.regN ?_
    refine RN.bs [some 0, none, some 1] [4, 5, 11, 12, 13] [b5, b5, b5, b8, b8, b8] 3 [(4, pt b4), (5, pt b5), (11, sl s ps.length), (12, .int .i64 ((ps.length : Nat) : Int)), (13, .int .i64 ((i : Nat) : Int))] ([(b8, .cells (ratC ((ps.getD i pr0).1) ((ps.getD i pr0).2)) 40 (0, 0)), (b5, .cells (ivC la lr ((ps.getD i pr0).1) ((ps.getD i pr0).2)) 43 (0, 0)), (b4, .cells (ivC (⟨saNil, saNil⟩ : RA) (⟨false, ([] : List Nat), ([] : List Nat)⟩ : Raw) (⟨saNil, saNil⟩ : RA) (⟨false, ([] : List Nat), ([] : List Nat)⟩ : Raw)) 43 (0, 0)), (b3, .cells (ratC p r) 40 (0, 0))]) k_ ?_
    refine RN.done k_ ?_
    refine KN.blk ?_
    refine KN.next ?_
    refine J.regN ?_
    refine RN.bq (no 1) [4, 5, 11, 12, 31] [] 1 [(4, pt b4), (5, pt b5), (11, sl s ps.length), (12, .int .i64 ((ps.length : Nat) : Int)), (31, .int .i64 (IntKind.i64.wrap (((i : Nat) : Int) + 1)))] k_ ?_
    rw [show IntKind.i64.wrap (((i : Nat) : Int) + 1) = ((i + 1 : Nat) : Int) from by rw [IntKind.wrap_i64]; omega]
    refine RN.bq (no 1) [4, 5, 11, 12, 13] [] 2 [(4, pt b4), (5, pt b5), (11, sl s ps.length), (12, .int .i64 ((ps.length : Nat) : Int)), (13, .int .i64 ((i + 1 : Nat) : Int))] k_ ?_
    refine RN.done k_ ?_
    refine KN.dropF 1 ?_
    refine KN.roundE (i + 1, la, lr, ((ps.getD i pr0).1), ((ps.getD i pr0).2)) [4, 5, 11, 12, 13] [1, 0, 3, 4] (l2 := [(4, pt b4), (5, pt b5), (11, sl s ps.length), (12, .int .i64 ((ps.length : Nat) : Int)), (13, .int .i64 ((i + 1 : Nat) : Int))]) (by (try dsimp only); omega) (by (try dsimp only); exact ⟨by omega, by first | exact hI2 | exact hps _ (by omega), by first | exact hI3 | exact hps _ (by omega), by first | exact lo_t (by omega) hI4 (cq_lt ‹_›) | exact lo_f (by omega) hI4 (cq_nlt ‹_›), by first | exact hi_t (by omega) hI5 (cq_gt ‹_›) | exact hi_f (by omega) hI5 (cq_ngt ‹_›)⟩) k_ (by rfl) (by rfl) (by rfl)
   ·replace c14 := of_decide_eq_false c14
    refine J.skip ?_
    refine KN.blk ?_
    refine KN.next ?_
    refine J.regN ?_
    refine RN.bq (no 1) [4, 5, 11, 12, 31] [] 1 [(4, pt b4), (5, pt b5), (11, sl s ps.length), (12, .int .i64 ((ps.length : Nat) : Int)), (31, .int .i64 (IntKind.i64.wrap (((i : Nat) : Int) + 1)))] k_ ?_
    rw [show IntKind.i64.wrap (((i : Nat) : Int) + 1) = ((i + 1 : Nat) : Int) from by rw [IntKind.wrap_i64]; omega]
    refine RN.bq (no 1) [4, 5, 11, 12, 13] [] 2 [(4, pt b4), (5, pt b5), (11, sl s ps.length), (12, .int .i64 ((ps.length : Nat) : Int)), (13, .int .i64 ((i + 1 : Nat) : Int))] k_ ?_
    refine RN.done k_ ?_
    refine KN.dropF 1 ?_
    refine KN.roundE (i + 1, la, lr, ha, hb) [4, 5, 11, 12, 13] [1, 2, 3, 4] (l2 := [(4, pt b4), (5, pt b5), (11, sl s ps.length), (12, .int .i64 ((ps.length : Nat) : Int)), (13, .int .i64 ((i + 1 : Nat) : Int))]) (by (try dsimp only); omega) (by (try dsimp only); exact ⟨by omega, by first | exact hI2 | exact hps _ (by omega), by first | exact hI3 | exact hps _ (by omega), by first | exact lo_t (by omega) hI4 (cq_lt ‹_›) | exact lo_f (by omega) hI4 (cq_nlt ‹_›), by first | exact hi_t (by omega) hI5 (cq_gt ‹_›) | exact hi_f (by omega) hI5 (cq_ngt ‹_›)⟩) k_ (by rfl) (by rfl) (by rfl)
 ·replace c7 := of_decide_eq_false c7
  refine J.exit (KX.next (KX.next (KX.hit ?_)))
  refine KN.next ?_
  refine J.seq ?_
  refine J.regD k_ [7] ?_
  refine RD.bq [(0, none), (1, some 0), (3, none), (4, some 0)] [4, 33, 36] [b5, b5, b5, b5, b5, b5] [(4, pt b4), (33, ratV la lr), (36, ratV ha hb)] k_ k_ ?_
  refine RD.call (i := 2) (iv_number la lr y_iv_hull) [0] k_ k_ k_ k_ k_ rfl (fun y15 _ => ?_)
  refine RD.call (i := 5) (iv_number ha hb y_iv_hull) [2] k_ k_ k_ k_ k_ rfl (fun y16 _ => ?_)
  refine RD.bq (nl [6]) [4, 38] [] [(4, pt b4), (38, .agg (ivC y15 (encQ (qv lr)) y16 (encQ (qv hb))))] k_ k_ ?_
  refine RD.last (i := 7) (some 1) [4] [b4, b4, b4, b4, b4, b4] k_ k_ k_ (l' := [(4, pt b4)]) (M' := [(b5, .cells (ivC la lr ha hb) 43 (0, 0)), (b4, .cells (ivC y15 (encQ (qv lr)) y16 (encQ (qv hb))) 43 (0, 0)), (b3, .cells (ratC p r) 40 (0, 0))]) k_ ?_
  refine RD.done k_ ?_
  refine KN.next ?_
  have e_1 : (foldLo (qv r) (qs ps) : Rat) = (qv lr : Rat) := by first | (rw [hI4, List.take_of_length_le (by rw [qs_len]; omega)]) | (rw [hI5, List.take_of_length_le (by rw [qs_len]; omega)])
  have e_2 : (foldHi (qv r) (qs ps) : Rat) = (qv hb : Rat) := by first | (rw [hI4, List.take_of_length_le (by rw [qs_len]; omega)]) | (rw [hI5, List.take_of_length_le (by rw [qs_len]; omega)])
  refine J.ret (KR.ret (v := .agg (ivC y15 (encQ (qv lr)) y16 (encQ (qv hb)))) (⟨y15, y16⟩) [some 1] [1, 0] [b4, b4, b4, b4, b4, b4] k_ v2_ (trivial) v2_)
theorem iv_hull_c (p : RA) (r' : Rat) (s : SA) (ps : List PR) (hr : Q 268435456 r') (hps : ∀ i, i < ps.length → RQ 268435456 (ps.getD i pr0).2) : Spec Tryz.prog 86 #[ratV p (encQ r'), sl s ps.length] [fRat p (encQ r'), fRats s ps] (ι := RA × RA) (fun y => .agg (ivC y.1 (encQ (foldLo r' (qs ps))) y.2 (encQ (foldHi r' (qs ps))))) (fun y => True) (fun y => [fRat y.1 (encQ (foldLo r' (qs ps))), fRat y.2 (encQ (foldHi r' (qs ps)))]) := by
  have H := iv_hull p (encQ r') s ps (RQ_enc hr) (by first | exact hps | simpa only [qv_encQ] using hps)
  first | exact H | (simp only [qv_encQ, validQ_encQ] at H; exact H)
theorem y_iv_Contains {p : Prop} (h : p := by first | assumption | exact Lb_toL _ | omega | (simp; done) | exact Q.le ha (by decide) | exact Q.le hb (by decide) | exact Q.le hc (by decide) | exact Q.le l1 (by decide) | exact Q.le r1 (by decide)) : p := h
theorem iv_Contains (p : RA) (a : Rat) (u : RA) (b : Rat) (v : RA) (c : Rat) (ha : Q 10000000 a) (hb : Q 10000000 b) (hc : Q 10000000 c) : Spec Tryz.prog 113 #[.agg (ivC p (encQ a) u (encQ b)), ratV v (encQ c)] [fRat p (encQ a), fRat u (encQ b), fRat v (encQ c)] (ι := Unit) (fun y => .bool (!decide (c < loQ a b) && !decide (hiQ a b < c))) (fun y => True) (fun y => []) := by
 refine Spec.of_body _ (fn := Tryz.f113) k_ rfl k_ (fun X w0 => ?_)
 refine J.fact (φ := (encQ a).mag.length ≤ 140737488355328 ∧ (encQ a).den.length ≤ 140737488355328) (fun w h => by have h1 := (h _ (.head _)).1.1; have h2 := (h _ (.head _)).2.1; omega) (fun hl1 => ?_)
 refine J.fact (φ := (encQ b).mag.length ≤ 140737488355328 ∧ (encQ b).den.length ≤ 140737488355328) (fun w h => by have h1 := (h _ (.tail _ ((.head _)))).1.1; have h2 := (h _ (.tail _ ((.head _)))).2.1; omega) (fun hl2 => ?_)
 refine J.fact (φ := (encQ c).mag.length ≤ 140737488355328 ∧ (encQ c).den.length ≤ 140737488355328) (fun w h => by have h1 := (h _ (.tail _ ((.tail _ ((.head _)))))).1.1; have h2 := (h _ (.tail _ ((.tail _ ((.head _)))))).2.1; omega) (fun hl3 => ?_)
 have l1 := Q_lo2 (b := b) ha (by decide)
 have r1 := Q_hi2 (a := a) hb (by decide)
 refine J.sreg ?_
 refine RN.new (fun b => pt b) (.cells (ivC p (encQ a) u (encQ b)) 43 (0, 0)) k_ k_ (fun w => by kernel_rfl) (fun b4 => ?_)
 refine RN.new (fun b => pt b) (.cells (ratC v (encQ c)) 40 (0, 0)) k_ k_ (fun w => by kernel_rfl) (fun b5 => ?_)
 refine RN.bq (no 1) [2, 3] [] 3 [(2, pt b4), (3, pt b5)] k_ ?_
 refine RN.fs k_ ?_
 refine RN.bq [some 1] [2, 3, 5] [b4, b4, b4, b4, b4, b4] 1 [(2, pt b4), (3, pt b5), (5, .agg (ivC p (encQ a) u (encQ b)))] k_ ?_
 refine RN.call (iv_value_c p a u b y_iv_Contains y_iv_Contains) [0, 1] k_ k_ k_ rfl (fun y6 _ => ?_)
 refine RN.bs [some 1] [2, 3] [b4, b4, b4, b4, b4, b4] 3 [(2, pt b4), (3, pt b5)] ([(b5, .cells (ratC v (encQ c)) 40 (0, 0)), (b4, .cells (ivC y6.1 (encQ (loQ a b)) y6.2 (encQ (hiQ a b))) 43 (0, 0))]) k_ ?_
 refine RN.fs k_ ?_
 refine RN.bq [none, some 1, some 0] [2, 3, 8, 9] [b5, b5, b5, b4, b4, b4] 3 [(2, pt b4), (3, pt b5), (8, ratV y6.1 (encQ (loQ a b))), (9, ratV v (encQ c))] k_ ?_
 refine RN.call (rational_Compare_c y6.1 (loQ a b) v c y_iv_Contains y_iv_Contains) [0, 4] k_ k_ k_ rfl (fun y7 _ => ?_)
 refine RN.bq (no 2) [2, 3, 12] [] 6 [(2, pt b4), (3, pt b5), (12, .bool (decide ((cmpQ (loQ a b) c) ≤ 0)))] k_ ?_
 refine RN.split 12 (decide ((cmpQ (loQ a b) c) ≤ 0)) k_ (fun c8 => ?_) (fun c8 => ?_)
 ·replace c8 := of_decide_eq_true c8
  refine RN.bq [some 0, none, some 1] [12, 13, 15] [b4, b4, b4, b5, b5, b5] 9 [(12, .bool true), (13, ratV v (encQ c)), (15, ratV y6.2 (encQ (hiQ a b)))] k_ ?_
  refine RN.call (rational_Compare_c v c y6.2 (hiQ a b) y_iv_Contains y_iv_Contains) [4, 1] k_ k_ k_ rfl (fun y9 _ => ?_)
  refine RN.bq (no 3) [4] [] 13 [(4, .bool (decide ((cmpQ c (hiQ a b)) ≤ 0)))] k_ ?_
  refine RN.fin k_ ?_
  have e_1 : (!decide (c < loQ a b) && !decide (hiQ a b < c)) = (decide ((cmpQ c (hiQ a b)) ≤ 0)) := by first | (have h1 := cmpQ_le.1 ‹cmpQ _ _ ≤ 0›; simp [le_dec, h1]) | (have h1 := cmpQ_gt.1 (Int.not_le.1 ‹¬ cmpQ _ _ ≤ 0›); simp [le_dec, h1])
  refine J.ret (KR.ret (v := .bool (decide ((cmpQ c (hiQ a b)) ≤ 0))) (()) [none] [] [] k_ v1_ (trivial) v1_)
 ·replace c8 := of_decide_eq_false c8
  refine RN.bq (no 7) [4] [] 13 [(4, .bool false)] k_ ?_
  refine RN.fin k_ ?_
  have e_1 : (!decide (c < loQ a b) && !decide (hiQ a b < c)) = false := by first | (have h1 := cmpQ_le.1 ‹cmpQ _ _ ≤ 0›; simp [le_dec, h1]) | (have h1 := cmpQ_gt.1 (Int.not_le.1 ‹¬ cmpQ _ _ ≤ 0›); simp [le_dec, h1])
  refine J.ret (KR.ret (v := .bool false) (()) [none] [] [] k_ v1_ (trivial) v1_)
theorem y_iv_Sub {p : Prop} (h : p := by first | assumption | exact Lb_toL _ | omega | (simp; done) | exact Q.le ha (by decide) | exact Q.le hb (by decide) | exact Q.le hc (by decide) | exact Q.le hd (by decide) | exact Q.le l1 (by decide) | exact Q.le l2 (by decide) | exact Q.le r1 (by decide) | exact Q.le r2 (by decide)) : p := h
theorem iv_Sub (p : RA) (a : Rat) (u : RA) (b : Rat) (v : RA) (c : Rat) (w : RA) (d : Rat) (ha : Q 1000000 a) (hb : Q 1000000 b) (hc : Q 1000000 c) (hd : Q 1000000 d) : Spec Tryz.prog 66 #[.agg (ivC p (encQ a) u (encQ b)), .agg (ivC v (encQ c) w (encQ d))] [fRat p (encQ a), fRat u (encQ b), fRat v (encQ c), fRat w (encQ d)] (ι := RA × RA) (fun y => .agg (ivC y.1 (encQ (loQ a b - hiQ c d)) y.2 (encQ (hiQ a b - loQ c d)))) (fun y => True) (fun y => [fRat y.1 (encQ (loQ a b - hiQ c d)), fRat y.2 (encQ (hiQ a b - loQ c d))]) := by
 refine Spec.of_body _ (fn := Tryz.f66) k_ rfl k_ (fun X w0 => ?_)
 refine J.fact (φ := (encQ a).mag.length ≤ 140737488355328 ∧ (encQ a).den.length ≤ 140737488355328) (fun w h => by have h1 := (h _ (.head _)).1.1; have h2 := (h _ (.head _)).2.1; omega) (fun hl1 => ?_)
 refine J.fact (φ := (encQ b).mag.length ≤ 140737488355328 ∧ (encQ b).den.length ≤ 140737488355328) (fun w h => by have h1 := (h _ (.tail _ ((.head _)))).1.1; have h2 := (h _ (.tail _ ((.head _)))).2.1; omega) (fun hl2 => ?_)
 refine J.fact (φ := (encQ c).mag.length ≤ 140737488355328 ∧ (encQ c).den.length ≤ 140737488355328) (fun w h => by have h1 := (h _ (.tail _ ((.tail _ ((.head _)))))).1.1; have h2 := (h _ (.tail _ ((.tail _ ((.head _)))))).2.1; omega) (fun hl3 => ?_)
 refine J.fact (φ := (encQ d).mag.length ≤ 140737488355328 ∧ (encQ d).den.length ≤ 140737488355328) (fun w h => by have h1 := (h _ (.tail _ ((.tail _ ((.tail _ ((.head _)))))))).1.1; have h2 := (h _ (.tail _ ((.tail _ ((.tail _ ((.head _)))))))).2.1; omega) (fun hl4 => ?_)
 have l1 := Q_lo2 (b := b) ha (by decide)
 have l2 := Q_lo2 (b := d) hc (by decide)
 have r1 := Q_hi2 (a := a) hb (by decide)
 have r2 := Q_hi2 (a := c) hd (by decide)
 refine J.sreg ?_
 refine RN.new (fun b => pt b) (.cells (ivC p (encQ a) u (encQ b)) 43 (0, 0)) k_ k_ (fun w => by kernel_rfl) (fun b5 => ?_)
 refine RN.new (fun b => pt b) (.cells (ivC v (encQ c) w (encQ d)) 43 (0, 0)) k_ k_ (fun w => by kernel_rfl) (fun b6 => ?_)
 refine RN.new (fun b => pt b) (.cells (ivC (⟨saNil, saNil⟩ : RA) (⟨false, ([] : List Nat), ([] : List Nat)⟩ : Raw) (⟨saNil, saNil⟩ : RA) (⟨false, ([] : List Nat), ([] : List Nat)⟩ : Raw)) 43 (0, 0)) k_ k_ (fun w => by kernel_rfl) (fun b7 => ?_)
 refine RN.fin k_ ?_
 refine J.seq ?_
 refine J.regD k_ [4, 5] ?_
 refine RD.bq [(0, some 2), (2, some 1)] [2, 3, 4, 5, 7] [b6, b6, b6, b6, b6, b6, b5, b5, b5, b5, b5, b5] [(2, pt b5), (3, pt b6), (4, pt b7), (5, .agg (ivC p (encQ a) u (encQ b))), (7, .agg (ivC v (encQ c) w (encQ d)))] k_ k_ ?_
 refine RD.call (i := 1) (iv_value_c p a u b y_iv_Sub y_iv_Sub) [0, 1] k_ k_ k_ k_ k_ rfl (fun y8 _ => ?_)
 refine RD.call (i := 3) (iv_value_c v c w d y_iv_Sub y_iv_Sub) [4, 5] k_ k_ k_ k_ k_ rfl (fun y9 _ => ?_)
 refine RD.last (i := 4) (some 2) [2, 3, 4, 8] [b5, b5, b5, b5, b5, b5] k_ k_ k_ (l' := [(2, pt b5), (3, pt b6), (4, pt b7), (8, .agg (ivC y9.1 (encQ (loQ c d)) y9.2 (encQ (hiQ c d))))]) (M' := [(b7, .cells (ivC (⟨saNil, saNil⟩ : RA) (⟨false, ([] : List Nat), ([] : List Nat)⟩ : Raw) (⟨saNil, saNil⟩ : RA) (⟨false, ([] : List Nat), ([] : List Nat)⟩ : Raw)) 43 (0, 0)), (b6, .cells (ivC v (encQ c) w (encQ d)) 43 (0, 0)), (b5, .cells (ivC y8.1 (encQ (loQ a b)) y8.2 (encQ (hiQ a b))) 43 (0, 0))]) k_ ?_
 refine RD.last (i := 5) (some 1) [2, 3, 4] [b6, b6, b6, b6, b6, b6] k_ k_ k_ (l' := [(2, pt b5), (3, pt b6), (4, pt b7)]) (M' := [(b7, .cells (ivC (⟨saNil, saNil⟩ : RA) (⟨false, ([] : List Nat), ([] : List Nat)⟩ : Raw) (⟨saNil, saNil⟩ : RA) (⟨false, ([] : List Nat), ([] : List Nat)⟩ : Raw)) 43 (0, 0)), (b6, .cells (ivC y9.1 (encQ (loQ c d)) y9.2 (encQ (hiQ c d))) 43 (0, 0)), (b5, .cells (ivC y8.1 (encQ (loQ a b)) y8.2 (encQ (hiQ a b))) 43 (0, 0))]) k_ ?_
 refine RD.done k_ ?_
 refine KN.next ?_
 refine J.seq ?_
 refine J.regD k_ [11] ?_
 refine RD.bq [(0, none), (1, some 2), (2, none), (3, some 1), (5, none), (6, some 2), (7, none), (8, some 1)] [4, 10, 12, 15, 17] [b6, b6, b6, b5, b5, b5, b6, b6, b6, b5, b5, b5] [(4, pt b7), (10, ratV y8.1 (encQ (loQ a b))), (12, ratV y9.2 (encQ (hiQ c d))), (15, ratV y8.2 (encQ (hiQ a b))), (17, ratV y9.1 (encQ (loQ c d)))] k_ k_ ?_
 refine RD.call (i := 4) (rational_Sub_c y8.1 (loQ a b) y9.2 (hiQ c d) y_iv_Sub y_iv_Sub) [2, 1] k_ k_ k_ k_ k_ rfl (fun y10 _ => ?_)
 refine RD.call (i := 9) (rational_Sub_c y8.2 (hiQ a b) y9.1 (loQ c d) y_iv_Sub y_iv_Sub) [4, 1] k_ k_ k_ k_ k_ rfl (fun y11 _ => ?_)
 refine RD.bq (nl [10]) [4, 19] [] [(4, pt b7), (19, .agg (ivC y10 (encQ ((loQ a b) - (hiQ c d))) y11 (encQ ((hiQ a b) - (loQ c d)))))] k_ k_ ?_
 refine RD.last (i := 11) (some 0) [4] [b7, b7, b7, b7, b7, b7] k_ k_ k_ (l' := [(4, pt b7)]) (M' := [(b7, .cells (ivC y10 (encQ ((loQ a b) - (hiQ c d))) y11 (encQ ((hiQ a b) - (loQ c d)))) 43 (0, 0)), (b6, .cells (ivC y9.1 (encQ (loQ c d)) y9.2 (encQ (hiQ c d))) 43 (0, 0)), (b5, .cells (ivC y8.1 (encQ (loQ a b)) y8.2 (encQ (hiQ a b))) 43 (0, 0))]) k_ ?_
 refine RD.done k_ ?_
 refine KN.next ?_
 have e_1 : (loQ a b - hiQ c d : Rat) = ((loQ a b) - (hiQ c d) : Rat) := by rfl
 have e_2 : (hiQ a b - loQ c d : Rat) = ((hiQ a b) - (loQ c d) : Rat) := by rfl
 refine J.ret (KR.ret (v := .agg (ivC y10 (encQ ((loQ a b) - (hiQ c d))) y11 (encQ ((hiQ a b) - (loQ c d))))) (⟨y10, y11⟩) [some 0] [1, 0] [b7, b7, b7, b7, b7, b7] k_ v2_ (trivial) v2_)
def prods (a b c d : Rat) : List Rat := [a * d, b * c, b * d]
def mulLo (a b c d : Rat) : Rat := foldLo (loQ a b * loQ c d) (prods (loQ a b) (hiQ a b) (loQ c d) (hiQ c d))
def mulHi (a b c d : Rat) : Rat := foldHi (loQ a b * loQ c d) (prods (loQ a b) (hiQ a b) (loQ c d) (hiQ c d))
theorem get3 {P : Raw → Prop} {x y z : PR} (h1 : P x.2) (h2 : P y.2) (h3 : P z.2) : ∀ i, i < [x, y, z].length → P ([x, y, z].getD i pr0).2 := fun i hi => by
  match i, hi with
  | 0, _ => exact h1
  | 1, _ => exact h2
  | 2, _ => exact h3
theorem y_iv_Mul {p : Prop} (h : p := by first | assumption | exact Lb_toL _ | omega | (simp; done) | exact Q.le ha (by decide) | exact Q.le hb (by decide) | exact Q.le hc (by decide) | exact Q.le hd (by decide) | exact Q.le l1 (by decide) | exact Q.le l2 (by decide) | exact Q.le r1 (by decide) | exact Q.le r2 (by decide) | exact Q.le m1 (by decide) | exact Q.le m2 (by decide) | exact Q.le m3 (by decide) | exact Q.le m4 (by decide) | exact get3 (RQ_enc (Q.le m2 (by decide))) (RQ_enc (Q.le m3 (by decide))) (RQ_enc (Q.le m4 (by decide)))) : p := h
theorem iv_Mul (p : RA) (a : Rat) (u : RA) (b : Rat) (v : RA) (c : Rat) (w : RA) (d : Rat) (ha : Q 1000000 a) (hb : Q 1000000 b) (hc : Q 1000000 c) (hd : Q 1000000 d) : Spec Tryz.prog 67 #[.agg (ivC p (encQ a) u (encQ b)), .agg (ivC v (encQ c) w (encQ d))] [fRat p (encQ a), fRat u (encQ b), fRat v (encQ c), fRat w (encQ d)] (ι := RA × RA) (fun y => .agg (ivC y.1 (encQ (mulLo a b c d)) y.2 (encQ (mulHi a b c d)))) (fun y => True) (fun y => [fRat y.1 (encQ (mulLo a b c d)), fRat y.2 (encQ (mulHi a b c d))]) := by
 refine Spec.of_body _ (fn := Tryz.f67) k_ rfl k_ (fun X w0 => ?_)
 refine J.fact (φ := (encQ a).mag.length ≤ 140737488355328 ∧ (encQ a).den.length ≤ 140737488355328) (fun w h => by have h1 := (h _ (.head _)).1.1; have h2 := (h _ (.head _)).2.1; omega) (fun hl1 => ?_)
 refine J.fact (φ := (encQ b).mag.length ≤ 140737488355328 ∧ (encQ b).den.length ≤ 140737488355328) (fun w h => by have h1 := (h _ (.tail _ ((.head _)))).1.1; have h2 := (h _ (.tail _ ((.head _)))).2.1; omega) (fun hl2 => ?_)
 refine J.fact (φ := (encQ c).mag.length ≤ 140737488355328 ∧ (encQ c).den.length ≤ 140737488355328) (fun w h => by have h1 := (h _ (.tail _ ((.tail _ ((.head _)))))).1.1; have h2 := (h _ (.tail _ ((.tail _ ((.head _)))))).2.1; omega) (fun hl3 => ?_)
 refine J.fact (φ := (encQ d).mag.length ≤ 140737488355328 ∧ (encQ d).den.length ≤ 140737488355328) (fun w h => by have h1 := (h _ (.tail _ ((.tail _ ((.tail _ ((.head _)))))))).1.1; have h2 := (h _ (.tail _ ((.tail _ ((.tail _ ((.head _)))))))).2.1; omega) (fun hl4 => ?_)
 have l1 := Q_lo2 (b := b) ha (by decide)
 have l2 := Q_lo2 (b := d) hc (by decide)
 have r1 := Q_hi2 (a := a) hb (by decide)
 have r2 := Q_hi2 (a := c) hd (by decide)
 have m1 := l1.mul l2
 have m2 := l1.mul r2
 have m3 := r1.mul l2
 have m4 := r1.mul r2
 refine J.sreg ?_
 refine RN.new (fun b => pt b) (.cells (ivC p (encQ a) u (encQ b)) 43 (0, 0)) k_ k_ (fun w => by kernel_rfl) (fun b5 => ?_)
 refine RN.new (fun b => pt b) (.cells (ivC v (encQ c) w (encQ d)) 43 (0, 0)) k_ k_ (fun w => by kernel_rfl) (fun b6 => ?_)
 refine RN.new (fun b => pt b) (.cells (ivC (⟨saNil, saNil⟩ : RA) (⟨false, ([] : List Nat), ([] : List Nat)⟩ : Raw) (⟨saNil, saNil⟩ : RA) (⟨false, ([] : List Nat), ([] : List Nat)⟩ : Raw)) 43 (0, 0)) k_ k_ (fun w => by kernel_rfl) (fun b7 => ?_)
 refine RN.fin k_ ?_
 refine J.seq ?_
 refine J.regD k_ [4, 5] ?_
 refine RD.bq [(0, some 2), (2, some 1)] [2, 3, 4, 5, 7] [b6, b6, b6, b6, b6, b6, b5, b5, b5, b5, b5, b5] [(2, pt b5), (3, pt b6), (4, pt b7), (5, .agg (ivC p (encQ a) u (encQ b))), (7, .agg (ivC v (encQ c) w (encQ d)))] k_ k_ ?_
 refine RD.call (i := 1) (iv_value_c p a u b y_iv_Mul y_iv_Mul) [0, 1] k_ k_ k_ k_ k_ rfl (fun y8 _ => ?_)
 refine RD.call (i := 3) (iv_value_c v c w d y_iv_Mul y_iv_Mul) [4, 5] k_ k_ k_ k_ k_ rfl (fun y9 _ => ?_)
 refine RD.last (i := 4) (some 2) [2, 3, 4, 8] [b5, b5, b5, b5, b5, b5] k_ k_ k_ (l' := [(2, pt b5), (3, pt b6), (4, pt b7), (8, .agg (ivC y9.1 (encQ (loQ c d)) y9.2 (encQ (hiQ c d))))]) (M' := [(b7, .cells (ivC (⟨saNil, saNil⟩ : RA) (⟨false, ([] : List Nat), ([] : List Nat)⟩ : Raw) (⟨saNil, saNil⟩ : RA) (⟨false, ([] : List Nat), ([] : List Nat)⟩ : Raw)) 43 (0, 0)), (b6, .cells (ivC v (encQ c) w (encQ d)) 43 (0, 0)), (b5, .cells (ivC y8.1 (encQ (loQ a b)) y8.2 (encQ (hiQ a b))) 43 (0, 0))]) k_ ?_
 refine RD.last (i := 5) (some 1) [2, 3, 4] [b6, b6, b6, b6, b6, b6] k_ k_ k_ (l' := [(2, pt b5), (3, pt b6), (4, pt b7)]) (M' := [(b7, .cells (ivC (⟨saNil, saNil⟩ : RA) (⟨false, ([] : List Nat), ([] : List Nat)⟩ : Raw) (⟨saNil, saNil⟩ : RA) (⟨false, ([] : List Nat), ([] : List Nat)⟩ : Raw)) 43 (0, 0)), (b6, .cells (ivC y9.1 (encQ (loQ c d)) y9.2 (encQ (hiQ c d))) 43 (0, 0)), (b5, .cells (ivC y8.1 (encQ (loQ a b)) y8.2 (encQ (hiQ a b))) 43 (0, 0))]) k_ ?_
 refine RD.done k_ ?_
 refine KN.next ?_
 refine J.seq ?_
 refine J.regD k_ [22] ?_
 refine RD.bq [(0, none), (1, some 2), (2, none), (3, some 1), (5, none), (6, some 2), (7, none), (8, some 1), (10, none), (11, some 2), (12, none), (13, some 1), (15, none), (16, some 2), (17, none), (18, some 1)] [4, 10, 12, 15, 17, 20, 22, 25, 27] [b6, b6, b6, b5, b5, b5, b6, b6, b6, b5, b5, b5, b6, b6, b6, b5, b5, b5, b6, b6, b6, b5, b5, b5] [(4, pt b7), (10, ratV y8.1 (encQ (loQ a b))), (12, ratV y9.1 (encQ (loQ c d))), (15, ratV y8.1 (encQ (loQ a b))), (17, ratV y9.2 (encQ (hiQ c d))), (20, ratV y8.2 (encQ (hiQ a b))), (22, ratV y9.1 (encQ (loQ c d))), (25, ratV y8.2 (encQ (hiQ a b))), (27, ratV y9.2 (encQ (hiQ c d)))] k_ k_ ?_
 refine RD.call (i := 4) (rational_Mul_c y8.1 (loQ a b) y9.1 (loQ c d) y_iv_Mul y_iv_Mul) [2, 0] k_ k_ k_ k_ k_ rfl (fun y10 _ => ?_)
 refine RD.call (i := 9) (rational_Mul_c y8.1 (loQ a b) y9.2 (hiQ c d) y_iv_Mul y_iv_Mul) [3, 2] k_ k_ k_ k_ k_ rfl (fun y11 _ => ?_)
 refine RD.call (i := 14) (rational_Mul_c y8.2 (hiQ a b) y9.1 (loQ c d) y_iv_Mul y_iv_Mul) [5, 2] k_ k_ k_ k_ k_ rfl (fun y12 _ => ?_)
 refine RD.call (i := 19) (rational_Mul_c y8.2 (hiQ a b) y9.2 (hiQ c d) y_iv_Mul y_iv_Mul) [6, 4] k_ k_ k_ k_ k_ rfl (fun y13 _ => ?_)
 refine RD.new (i := 20) (fun b => .slice (some ⟨b, 0, none⟩) 3 3) (.cells (encR ([(y11, (encQ ((loQ a b) * (hiQ c d)))), (y12, (encQ ((hiQ a b) * (loQ c d)))), (y13, (encQ ((hiQ a b) * (hiQ c d))))] : List PR)) 40 (0, 0)) k_ k_ k_ k_ (fun w => by kernel_rfl) (fun b14 => ?_)
 refine RD.share 0 rfl rfl k_ ?_
 refine RD.also (allRat ([(y11, (encQ ((loQ a b) * (hiQ c d)))), (y12, (encQ ((hiQ a b) * (loQ c d)))), (y13, (encQ ((hiQ a b) * (hiQ c d))))] : List PR)) (fun w h => allRat_cons (h _ (.tail _ ((.tail _ ((.tail _ ((.head _)))))))) (allRat_cons (h _ (.tail _ ((.tail _ ((.head _)))))) (allRat_cons (h _ (.tail _ ((.head _)))) (allRat_nil _)))) k_ ?_
 refine RD.also (fRats (⟨some ⟨b14, 0, none⟩, 3⟩ : SA) ([(y11, (encQ ((loQ a b) * (hiQ c d)))), (y12, (encQ ((hiQ a b) * (loQ c d)))), (y13, (encQ ((hiQ a b) * (hiQ c d))))] : List PR)) (fun w h => fRats_own (h _ (.tail _ ((.head _)))) (h _ (.head _)) x_ x_) k_ ?_
 refine RD.turn 29 (v := .slice (some ⟨b14, 0, none⟩) 3 3) (v' := sl (⟨some ⟨b14, 0, none⟩, 3⟩ : SA) ([(y11, (encQ ((loQ a b) * (hiQ c d)))), (y12, (encQ ((hiQ a b) * (loQ c d)))), (y13, (encQ ((hiQ a b) * (hiQ c d))))] : List PR).length) k_ (sl_eq x_) ?_
 refine RD.call (i := 21) (iv_hull_c y10 ((loQ a b) * (loQ c d)) (⟨some ⟨b14, 0, none⟩, 3⟩ : SA) ([(y11, (encQ ((loQ a b) * (hiQ c d)))), (y12, (encQ ((hiQ a b) * (loQ c d)))), (y13, (encQ ((hiQ a b) * (hiQ c d))))] : List PR) y_iv_Mul y_iv_Mul) [6, 0] k_ k_ k_ k_ k_ rfl (fun y15 _ => ?_)
 refine RD.last (i := 22) (some 0) [4] [b7, b7, b7, b7, b7, b7] k_ k_ k_ (l' := [(4, pt b7)]) (M' := [(b7, .cells (ivC y15.1 (encQ (foldLo ((loQ a b) * (loQ c d)) (qs ([(y11, (encQ ((loQ a b) * (hiQ c d)))), (y12, (encQ ((hiQ a b) * (loQ c d)))), (y13, (encQ ((hiQ a b) * (hiQ c d))))] : List PR)))) y15.2 (encQ (foldHi ((loQ a b) * (loQ c d)) (qs ([(y11, (encQ ((loQ a b) * (hiQ c d)))), (y12, (encQ ((hiQ a b) * (loQ c d)))), (y13, (encQ ((hiQ a b) * (hiQ c d))))] : List PR))))) 43 (0, 0)), (b6, .cells (ivC y9.1 (encQ (loQ c d)) y9.2 (encQ (hiQ c d))) 43 (0, 0)), (b5, .cells (ivC y8.1 (encQ (loQ a b)) y8.2 (encQ (hiQ a b))) 43 (0, 0))]) k_ ?_
 refine RD.done k_ ?_
 refine KN.next ?_
 have e_1 : (mulLo a b c d : Rat) = (foldLo ((loQ a b) * (loQ c d)) (qs ([(y11, (encQ ((loQ a b) * (hiQ c d)))), (y12, (encQ ((hiQ a b) * (loQ c d)))), (y13, (encQ ((hiQ a b) * (hiQ c d))))] : List PR)) : Rat) := by simp [mulLo, mulHi, prods, qs, qv_encQ]
 have e_2 : (mulHi a b c d : Rat) = (foldHi ((loQ a b) * (loQ c d)) (qs ([(y11, (encQ ((loQ a b) * (hiQ c d)))), (y12, (encQ ((hiQ a b) * (loQ c d)))), (y13, (encQ ((hiQ a b) * (hiQ c d))))] : List PR)) : Rat) := by simp [mulLo, mulHi, prods, qs, qv_encQ]
 refine J.ret (KR.ret (v := .agg (ivC y15.1 (encQ (foldLo ((loQ a b) * (loQ c d)) (qs ([(y11, (encQ ((loQ a b) * (hiQ c d)))), (y12, (encQ ((hiQ a b) * (loQ c d)))), (y13, (encQ ((hiQ a b) * (hiQ c d))))] : List PR)))) y15.2 (encQ (foldHi ((loQ a b) * (loQ c d)) (qs ([(y11, (encQ ((loQ a b) * (hiQ c d)))), (y12, (encQ ((hiQ a b) * (loQ c d)))), (y13, (encQ ((hiQ a b) * (hiQ c d))))] : List PR)))))) (⟨y15.1, y15.2⟩) [some 0] [0, 1] [b7, b7, b7, b7, b7, b7] k_ v2_ (trivial) v2_)
theorem y_iv_Hull {p : Prop} (h : p := by first | assumption | exact Lb_toL _ | omega | (simp; done) | exact Q.le ha (by decide) | exact Q.le hb (by decide) | exact Q.le hc (by decide) | exact Q.le hd (by decide) | exact Q.le l1 (by decide) | exact Q.le l2 (by decide) | exact Q.le r1 (by decide) | exact Q.le r2 (by decide) | exact get3 (RQ_enc (Q.le r1 (by decide))) (RQ_enc (Q.le l2 (by decide))) (RQ_enc (Q.le r2 (by decide)))) : p := h
theorem iv_Hull (p : RA) (a : Rat) (u : RA) (b : Rat) (v : RA) (c : Rat) (w : RA) (d : Rat) (ha : Q 10000000 a) (hb : Q 10000000 b) (hc : Q 10000000 c) (hd : Q 10000000 d) : Spec Tryz.prog 51 #[.agg (ivC p (encQ a) u (encQ b)), .agg (ivC v (encQ c) w (encQ d))] [fRat p (encQ a), fRat u (encQ b), fRat v (encQ c), fRat w (encQ d)] (ι := RA × RA) (fun y => .agg (ivC y.1 (encQ (foldLo (loQ a b) [hiQ a b, loQ c d, hiQ c d])) y.2 (encQ (foldHi (loQ a b) [hiQ a b, loQ c d, hiQ c d])))) (fun y => True) (fun y => [fRat y.1 (encQ (foldLo (loQ a b) [hiQ a b, loQ c d, hiQ c d])), fRat y.2 (encQ (foldHi (loQ a b) [hiQ a b, loQ c d, hiQ c d]))]) := by
 refine Spec.of_body _ (fn := Tryz.f51) k_ rfl k_ (fun X w0 => ?_)
 refine J.fact (φ := (encQ a).mag.length ≤ 140737488355328 ∧ (encQ a).den.length ≤ 140737488355328) (fun w h => by have h1 := (h _ (.head _)).1.1; have h2 := (h _ (.head _)).2.1; omega) (fun hl1 => ?_)
 refine J.fact (φ := (encQ b).mag.length ≤ 140737488355328 ∧ (encQ b).den.length ≤ 140737488355328) (fun w h => by have h1 := (h _ (.tail _ ((.head _)))).1.1; have h2 := (h _ (.tail _ ((.head _)))).2.1; omega) (fun hl2 => ?_)
 refine J.fact (φ := (encQ c).mag.length ≤ 140737488355328 ∧ (encQ c).den.length ≤ 140737488355328) (fun w h => by have h1 := (h _ (.tail _ ((.tail _ ((.head _)))))).1.1; have h2 := (h _ (.tail _ ((.tail _ ((.head _)))))).2.1; omega) (fun hl3 => ?_)
 refine J.fact (φ := (encQ d).mag.length ≤ 140737488355328 ∧ (encQ d).den.length ≤ 140737488355328) (fun w h => by have h1 := (h _ (.tail _ ((.tail _ ((.tail _ ((.head _)))))))).1.1; have h2 := (h _ (.tail _ ((.tail _ ((.tail _ ((.head _)))))))).2.1; omega) (fun hl4 => ?_)
 have l1 := Q_lo2 (b := b) ha (by decide)
 have l2 := Q_lo2 (b := d) hc (by decide)
 have r1 := Q_hi2 (a := a) hb (by decide)
 have r2 := Q_hi2 (a := c) hd (by decide)
 refine J.sreg ?_
 refine RN.new (fun b => pt b) (.cells (ivC p (encQ a) u (encQ b)) 43 (0, 0)) k_ k_ (fun w => by kernel_rfl) (fun b5 => ?_)
 refine RN.new (fun b => pt b) (.cells (ivC v (encQ c) w (encQ d)) 43 (0, 0)) k_ k_ (fun w => by kernel_rfl) (fun b6 => ?_)
 refine RN.new (fun b => pt b) (.cells (ivC (⟨saNil, saNil⟩ : RA) (⟨false, ([] : List Nat), ([] : List Nat)⟩ : Raw) (⟨saNil, saNil⟩ : RA) (⟨false, ([] : List Nat), ([] : List Nat)⟩ : Raw)) 43 (0, 0)) k_ k_ (fun w => by kernel_rfl) (fun b7 => ?_)
 refine RN.fin k_ ?_
 refine J.seq ?_
 refine J.regD k_ [4, 5] ?_
 refine RD.bq [(0, some 2), (2, some 1)] [2, 3, 4, 5, 7] [b6, b6, b6, b6, b6, b6, b5, b5, b5, b5, b5, b5] [(2, pt b5), (3, pt b6), (4, pt b7), (5, .agg (ivC p (encQ a) u (encQ b))), (7, .agg (ivC v (encQ c) w (encQ d)))] k_ k_ ?_
 refine RD.call (i := 1) (iv_value_c p a u b y_iv_Hull y_iv_Hull) [0, 1] k_ k_ k_ k_ k_ rfl (fun y8 _ => ?_)
 refine RD.call (i := 3) (iv_value_c v c w d y_iv_Hull y_iv_Hull) [4, 5] k_ k_ k_ k_ k_ rfl (fun y9 _ => ?_)
 refine RD.last (i := 4) (some 2) [2, 3, 4, 8] [b5, b5, b5, b5, b5, b5] k_ k_ k_ (l' := [(2, pt b5), (3, pt b6), (4, pt b7), (8, .agg (ivC y9.1 (encQ (loQ c d)) y9.2 (encQ (hiQ c d))))]) (M' := [(b7, .cells (ivC (⟨saNil, saNil⟩ : RA) (⟨false, ([] : List Nat), ([] : List Nat)⟩ : Raw) (⟨saNil, saNil⟩ : RA) (⟨false, ([] : List Nat), ([] : List Nat)⟩ : Raw)) 43 (0, 0)), (b6, .cells (ivC v (encQ c) w (encQ d)) 43 (0, 0)), (b5, .cells (ivC y8.1 (encQ (loQ a b)) y8.2 (encQ (hiQ a b))) 43 (0, 0))]) k_ ?_
 refine RD.last (i := 5) (some 1) [2, 3, 4] [b6, b6, b6, b6, b6, b6] k_ k_ k_ (l' := [(2, pt b5), (3, pt b6), (4, pt b7)]) (M' := [(b7, .cells (ivC (⟨saNil, saNil⟩ : RA) (⟨false, ([] : List Nat), ([] : List Nat)⟩ : Raw) (⟨saNil, saNil⟩ : RA) (⟨false, ([] : List Nat), ([] : List Nat)⟩ : Raw)) 43 (0, 0)), (b6, .cells (ivC y9.1 (encQ (loQ c d)) y9.2 (encQ (hiQ c d))) 43 (0, 0)), (b5, .cells (ivC y8.1 (encQ (loQ a b)) y8.2 (encQ (hiQ a b))) 43 (0, 0))]) k_ ?_
 refine RD.done k_ ?_
 refine KN.next ?_
 refine J.sreg ?_
 refine RN.bq [none, some 2, none, some 2, none, some 1, none, some 1] [4, 10, 12, 14, 16] [b6, b6, b6, b6, b6, b6, b5, b5, b5, b5, b5, b5] 8 [(4, pt b7), (10, ratV y8.1 (encQ (loQ a b))), (12, ratV y8.2 (encQ (hiQ a b))), (14, ratV y9.1 (encQ (loQ c d))), (16, ratV y9.2 (encQ (hiQ c d)))] k_ ?_
 refine RN.new (fun b => .slice (some ⟨b, 0, none⟩) 3 3) (.cells (encR ([(y8.2, (encQ (hiQ a b))), (y9.1, (encQ (loQ c d))), (y9.2, (encQ (hiQ c d)))] : List PR)) 40 (0, 0)) k_ k_ (fun w => by kernel_rfl) (fun b10 => ?_)
 refine RN.share 0 rfl rfl ?_
 refine RN.also (allRat ([(y8.2, (encQ (hiQ a b))), (y9.1, (encQ (loQ c d))), (y9.2, (encQ (hiQ c d)))] : List PR)) (fun w h => allRat_cons (h _ (.tail _ ((.tail _ ((.tail _ ((.tail _ ((.head _)))))))))) (allRat_cons (h _ (.tail _ ((.head _)))) (allRat_cons (h _ (.tail _ ((.tail _ ((.head _)))))) (allRat_nil _)))) ?_
 refine RN.also (fRats (⟨some ⟨b10, 0, none⟩, 3⟩ : SA) ([(y8.2, (encQ (hiQ a b))), (y9.1, (encQ (loQ c d))), (y9.2, (encQ (hiQ c d)))] : List PR)) (fun w h => fRats_own (h _ (.tail _ ((.head _)))) (h _ (.head _)) x_ x_) ?_
 refine RN.turn 17 (v := .slice (some ⟨b10, 0, none⟩) 3 3) (v' := sl (⟨some ⟨b10, 0, none⟩, 3⟩ : SA) ([(y8.2, (encQ (hiQ a b))), (y9.1, (encQ (loQ c d))), (y9.2, (encQ (hiQ c d)))] : List PR).length) k_ (sl_eq x_) ?_
 refine RN.call (iv_hull_c y8.1 (loQ a b) (⟨some ⟨b10, 0, none⟩, 3⟩ : SA) ([(y8.2, (encQ (hiQ a b))), (y9.1, (encQ (loQ c d))), (y9.2, (encQ (hiQ c d)))] : List PR) y_iv_Hull y_iv_Hull) [5, 0] k_ k_ k_ rfl (fun y11 _ => ?_)
 refine RN.bs [some 0] [4] [b7, b7, b7, b7, b7, b7] 11 [(4, pt b7)] ([(b7, .cells (ivC y11.1 (encQ (foldLo (loQ a b) (qs ([(y8.2, (encQ (hiQ a b))), (y9.1, (encQ (loQ c d))), (y9.2, (encQ (hiQ c d)))] : List PR)))) y11.2 (encQ (foldHi (loQ a b) (qs ([(y8.2, (encQ (hiQ a b))), (y9.1, (encQ (loQ c d))), (y9.2, (encQ (hiQ c d)))] : List PR))))) 43 (0, 0)), (b6, .cells (ivC y9.1 (encQ (loQ c d)) y9.2 (encQ (hiQ c d))) 43 (0, 0)), (b5, .cells (ivC y8.1 (encQ (loQ a b)) y8.2 (encQ (hiQ a b))) 43 (0, 0))]) k_ ?_
 refine RN.fin k_ ?_
 have e_1 : (foldLo (loQ a b) [hiQ a b, loQ c d, hiQ c d] : Rat) = (foldLo (loQ a b) (qs ([(y8.2, (encQ (hiQ a b))), (y9.1, (encQ (loQ c d))), (y9.2, (encQ (hiQ c d)))] : List PR)) : Rat) := by simp [qs, qv_encQ]
 have e_2 : (foldHi (loQ a b) [hiQ a b, loQ c d, hiQ c d] : Rat) = (foldHi (loQ a b) (qs ([(y8.2, (encQ (hiQ a b))), (y9.1, (encQ (loQ c d))), (y9.2, (encQ (hiQ c d)))] : List PR)) : Rat) := by simp [qs, qv_encQ]
 refine J.ret (KR.ret (v := .agg (ivC y11.1 (encQ (foldLo (loQ a b) (qs ([(y8.2, (encQ (hiQ a b))), (y9.1, (encQ (loQ c d))), (y9.2, (encQ (hiQ c d)))] : List PR)))) y11.2 (encQ (foldHi (loQ a b) (qs ([(y8.2, (encQ (hiQ a b))), (y9.1, (encQ (loQ c d))), (y9.2, (encQ (hiQ c d)))] : List PR)))))) (⟨y11.1, y11.2⟩) [some 0] [0, 1] [b7, b7, b7, b7, b7, b7] k_ v2_ (trivial) v2_)
end Go.Proofs.YtbiifkfbkaejlaaGreat.E
namespace Go.Proofs.YtbiifkfbkaejlaaGreat.E
open Go Go.RowKit
set_option linter.unusedVariables false
set_option linter.unusedSimpArgs false
def proper (xs : List PRow) (n : Nat) : Prop := fm xs ∧ 1 ≤ xs.length ∧ xs.length ≤ 64 ∧ (xs.getD 0 (saNil, [])).2.length ≤ 12 ∧ n = xs.length
instance (xs : List PRow) (n : Nat) : Decidable (proper xs n) := by unfold proper; infer_instance
theorem errno_fm {xs : List PRow} (h : (if fm xs then (0 : Int) else 6) = 0) : fm xs := Classical.byContradiction fun hh => by rw [if_neg hh] at h; exact absurd h (by decide)
theorem errno_nfm {xs : List PRow} (h : ¬ (if fm xs then (0 : Int) else 6) = 0) : ¬ fm xs := fun hh => h (if_pos hh)
theorem y_ls_Proper {p : Prop} (h : p := by first | assumption | exact Lb_toL _ | omega | (simp; done) | exact hq) : p := h
theorem ls_Proper (s : SA) (xs : List PRow) (t : SA) (ys : List PR) (hq : rowsQ xs) : Spec Tryz.prog 32 #[sl s xs.length, sl t ys.length] [fL elM s xs, fRats t ys] (ι := Unit) (fun y => .bool (decide (proper xs ys.length))) (fun y => True) (fun y => []) := by
 refine Spec.of_body _ (fn := Tryz.f32) k_ rfl k_ (fun X w0 => ?_)
 refine J.fact (φ := xs.length ≤ 140737488355328) (fun w h => (h _ (.head _)).1.2) (fun hl1 => ?_)
 refine J.fact (φ := ys.length ≤ 140737488355328) (fun w h => by have := (h _ (.tail _ ((.head _)))).1; omega) (fun hl2 => ?_)
 refine J.sreg ?_
 refine RN.bq (no 1) [0, 1] [] 1 [(0, sl s xs.length), (1, sl t ys.length)] k_ ?_
 refine RN.fs k_ ?_
 refine RN.bq (no 1) [0, 1, 8] [] 1 [(0, sl s xs.length), (1, sl t ys.length), (8, sl s xs.length)] k_ ?_
 refine RN.call (mx_Transpose s xs y_ls_Proper) [0] k_ k_ k_ rfl (fun y3 _ => ?_)
 refine RN.bq (no 5) [0, 1, 6] [] 7 [(0, sl s xs.length), (1, sl t ys.length), (6, .int .i64 (if fm xs then 0 else 6))] k_ ?_
 refine RN.fs k_ ?_
 refine RN.bq (no 3) [0, 1, 14] [] 3 [(0, sl s xs.length), (1, sl t ys.length), (14, .bool (((if fm xs then 0 else 6) : Int) == 0))] k_ ?_
 refine RN.split 14 (((if fm xs then 0 else 6) : Int) == 0) k_ (fun c4 => ?_) (fun c4 => ?_)
 ·replace c4 := eq_of_beq c4
  have hf := errno_fm (by simpa using c4)
  refine RN.bq (no 5) [0, 1, 19] [] 8 [(0, sl s xs.length), (1, sl t ys.length), (19, .bool (decide (((xs.length : Nat) : Int) ≥ 1)))] k_ ?_
  refine RN.split 19 (decide (((xs.length : Nat) : Int) ≥ 1)) k_ (fun c5 => ?_) (fun c5 => ?_)
  ·replace c5 := of_decide_eq_true c5
   refine RN.bq (no 5) [0, 1, 24] [] 13 [(0, sl s xs.length), (1, sl t ys.length), (24, .bool (decide (((xs.length : Nat) : Int) ≤ 64)))] k_ ?_
   refine RN.split 24 (decide (((xs.length : Nat) : Int) ≤ 64)) k_ (fun c6 => ?_) (fun c6 => ?_)
   ·replace c6 := of_decide_eq_true c6
    refine RN.bq (no 1) [0, 1, 24, 25] [] 14 [(0, sl s xs.length), (1, sl t ys.length), (24, .bool true), (25, sl s xs.length)] k_ ?_
    refine RN.val _ k_ k_ (q_lidx (t := 27) (x := (.tmp 25)) (ix := (.const (.int .i64 0))) (K := .i64) (i0 := 0) (m := 0) (e := 28) (E := elM) (sz := 1) (s := s) (xs := xs) 0 rfl rfl k_ k_ k_ k_ k_ (by omega) x_) ?_
    refine RN.val _ k_ k_ (q_lload1 (T := 28) (x := (.tmp 26)) (m := 0) (s := s) (E := elM) (xs := xs) 0 rfl rfl k_ k_ k_ rfl x_) ?_
    refine RN.also (fRats ((xs.getD 0 (saNil, [])).1) ((xs.getD 0 (saNil, [])).2)) (fun w h => (fL_elem (h _ (.head _)) x_)) ?_
    refine RN.bq (no 4) [0, 1, 31] [] 20 [(0, sl s xs.length), (1, sl t ys.length), (31, .bool (decide (((((xs.getD 0 (saNil, [])).2).length : Nat) : Int) ≤ 12)))] k_ ?_
    refine RN.split 31 (decide (((((xs.getD 0 (saNil, [])).2).length : Nat) : Int) ≤ 12)) k_ (fun c7 => ?_) (fun c7 => ?_)
    ·replace c7 := of_decide_eq_true c7
     refine RN.bq (no 7) [4] [] 27 [(4, .bool ((((ys.length : Nat) : Int) : Int) == ((xs.length : Nat) : Int)))] k_ ?_
     refine RN.fin k_ ?_
     have e_1 : (decide (proper xs ys.length)) = ((((ys.length : Nat) : Int) : Int) == ((xs.length : Nat) : Int)) := by first | exact decide_eq_false (fun h => by obtain ⟨h1, h2, h3, h4, h5⟩ := h; first | exact absurd h1 (by assumption) | omega) | (rw [Bool.eq_iff_iff, decide_eq_true_iff, beq_iff_eq]; exact ⟨fun h => by have := h.2.2.2.2; omega, fun h => ⟨by assumption, by omega, by omega, by omega, by omega⟩⟩)
     refine J.ret (KR.ret (v := .bool ((((ys.length : Nat) : Int) : Int) == ((xs.length : Nat) : Int))) (()) [none] [] [] k_ v1_ (trivial) v1_)
    ·replace c7 := of_decide_eq_false c7
     refine RN.bq (no 7) [4] [] 27 [(4, .bool false)] k_ ?_
     refine RN.fin k_ ?_
     have e_1 : (decide (proper xs ys.length)) = false := by first | exact decide_eq_false (fun h => by obtain ⟨h1, h2, h3, h4, h5⟩ := h; first | exact absurd h1 (by assumption) | omega) | (rw [Bool.eq_iff_iff, decide_eq_true_iff, beq_iff_eq]; exact ⟨fun h => by have := h.2.2.2.2; omega, fun h => ⟨by assumption, by omega, by omega, by omega, by omega⟩⟩)
     refine J.ret (KR.ret (v := .bool false) (()) [none] [] [] k_ v1_ (trivial) v1_)
   ·replace c6 := of_decide_eq_false c6
    refine RN.bq (no 14) [4] [] 27 [(4, .bool false)] k_ ?_
    refine RN.fin k_ ?_
    have e_1 : (decide (proper xs ys.length)) = false := by first | exact decide_eq_false (fun h => by obtain ⟨h1, h2, h3, h4, h5⟩ := h; first | exact absurd h1 (by assumption) | omega) | (rw [Bool.eq_iff_iff, decide_eq_true_iff, beq_iff_eq]; exact ⟨fun h => by have := h.2.2.2.2; omega, fun h => ⟨by assumption, by omega, by omega, by omega, by omega⟩⟩)
    refine J.ret (KR.ret (v := .bool false) (()) [none] [] [] k_ v1_ (trivial) v1_)
  ·replace c5 := of_decide_eq_false c5
   refine RN.bq (no 19) [4] [] 27 [(4, .bool false)] k_ ?_
   refine RN.fin k_ ?_
   have e_1 : (decide (proper xs ys.length)) = false := by first | exact decide_eq_false (fun h => by obtain ⟨h1, h2, h3, h4, h5⟩ := h; first | exact absurd h1 (by assumption) | omega) | (rw [Bool.eq_iff_iff, decide_eq_true_iff, beq_iff_eq]; exact ⟨fun h => by have := h.2.2.2.2; omega, fun h => ⟨by assumption, by omega, by omega, by omega, by omega⟩⟩)
   refine J.ret (KR.ret (v := .bool false) (()) [none] [] [] k_ v1_ (trivial) v1_)
 ·replace c4 := ne_of_beq_false c4
  have hnf := errno_nfm (by simpa using c4)
  refine RN.bq (no 24) [4] [] 27 [(4, .bool false)] k_ ?_
  refine RN.fin k_ ?_
  have e_1 : (decide (proper xs ys.length)) = false := by first | exact decide_eq_false (fun h => by obtain ⟨h1, h2, h3, h4, h5⟩ := h; first | exact absurd h1 (by assumption) | omega) | (rw [Bool.eq_iff_iff, decide_eq_true_iff, beq_iff_eq]; exact ⟨fun h => by have := h.2.2.2.2; omega, fun h => ⟨by assumption, by omega, by omega, by omega, by omega⟩⟩)
  refine J.ret (KR.ret (v := .bool false) (()) [none] [] [] k_ v1_ (trivial) v1_)
def cel (m : Int) : Nat → Int
  | 0 => 1
  | k + 1 => if 4097 < cel m k * (if 4097 < m then 4097 else m) then 4097 else cel m k * (if 4097 < m then 4097 else m)
theorem mul_b {a b : Int} (h1 : 1 ≤ a) (h2 : a ≤ 4097) (h3 : 1 ≤ b) (h4 : b ≤ 4097) : 1 ≤ a * b ∧ a * b ≤ 16785409 ∧ (a = 4097 → 4097 ≤ a * b) := by
  have e1 : 1 * 1 ≤ a * b := Int.mul_le_mul h1 h3 (by omega) (by omega)
  have e2 : a * b ≤ 4097 * 4097 := Int.mul_le_mul h2 h4 (by omega) (by omega)
  refine ⟨by omega, by omega, fun h => ?_⟩
  rw [h]; omega
theorem min_b {m : Int} (h : 1 ≤ m) : 1 ≤ (if 4097 < m then 4097 else m) ∧ (if 4097 < m then 4097 else m) ≤ 4097 := by split <;> omega
theorem top_b {p : Int} (h : 1 ≤ p) : 1 ≤ (if 4097 < p then 4097 else p) ∧ (if 4097 < p then 4097 else p) ≤ 4097 := by split <;> omega
theorem top_eq {p : Int} (h : 4097 ≤ p) : (if 4097 < p then 4097 else p) = 4097 := by split <;> omega
theorem top_id {p : Int} (h : ¬ 4096 < p) : (if 4097 < p then 4097 else p) = p := by split <;> omega
theorem cel_b {m : Int} (h : 1 ≤ m) : ∀ k, 1 ≤ cel m k ∧ cel m k ≤ 4097
  | 0 => by simp [cel]
  | k + 1 => by
    have ih := cel_b h k
    have hm := min_b h
    have hb := mul_b ih.1 ih.2 hm.1 hm.2
    exact top_b hb.1
theorem cel_next {m : Int} (h : 1 ≤ m) {k : Nat} (hk : ¬ 4096 < cel m k * (if 4097 < m then 4097 else m)) : cel m (k + 1) = cel m k * (if 4097 < m then 4097 else m) := top_id hk
theorem cel_sat {m : Int} (h : 1 ≤ m) {k : Nat} (hk : cel m k = 4097) : ∀ j, k ≤ j → cel m j = 4097 := fun j hj => by
  induction hj with
  | refl => exact hk
  | step hj ih =>
    have hm := min_b h
    exact top_eq ((mul_b (by rw [ih]; decide) (by rw [ih]; decide) hm.1 hm.2).2.2 ih)
theorem cel_top {m : Int} (h : 1 ≤ m) {k n : Nat} (hk : 4096 < cel m k * (if 4097 < m then 4097 else m)) (hn : k < n) : cel m n = 4097 :=
  cel_sat h (k := k + 1) (top_eq (by omega)) n hn
theorem sg_count (k : Nat) (m : Int) (hm : 1 ≤ m) (hk : k ≤ 1000000) : Spec Tryz.prog 48 #[.int .i64 ((k : Nat) : Int), .int .i64 m] [] (ι := Unit) (fun y => .int .i64 (cel m k)) (fun y => True) (fun y => []) := by
 refine Spec.of_body _ (fn := Tryz.f48) k_ rfl k_ (fun X w0 => ?_)
 refine J.sreg ?_
 refine RN.bq (no 1) [0, 1] [] 1 [(0, .int .i64 ((k : Nat) : Int)), (1, .int .i64 m)] k_ ?_
 refine RN.fs k_ ?_
 refine RN.bq (no 1) [0, 1, 5] [] 1 [(0, .int .i64 ((k : Nat) : Int)), (1, .int .i64 m), (5, .int .i64 1)] k_ ?_
 refine RN.fin k_ ?_
 refine J.seq ?_
 refine J.sreg ?_
 refine RN.bq (no 2) [1, 5, 6, 7] [] 2 [(1, .int .i64 m), (5, .int .i64 1), (6, .int .i64 ((k : Nat) : Int)), (7, .int .i64 0)] k_ ?_
 refine RN.fin k_ ?_
 refine J.block ?_
 refine J.loop (ι := (Nat) × (Int)) (fun x => x.1 ≤ k ∧ x.2 = cel m x.1 ∧ x.2 ≤ 4096) (fun x => k - x.1) (fun x => [(1, .int .i64 m), (5, .int .i64 x.2), (6, .int .i64 ((k : Nat) : Int)), (7, .int .i64 ((x.1 : Nat) : Int))]) (fun x => []) (fun x => []) (0, 1) [1, 5, 6, 7] [] (⟨Nat.zero_le _, rfl, by decide⟩) k_ (by first | rfl | (simp only [encQ_zero]; done) | (simp only [encQ_zero]; rfl)) (by rfl) (fun x1 hI => ?_)
 obtain ⟨i, n⟩ := x1
 replace hI : i ≤ k ∧ n = cel m i ∧ n ≤ 4096 := hI
 obtain ⟨hI1, hI2, hI3⟩ := hI
 have hmb := min_b hm
 have hcb := cel_b hm i
 have hmul := mul_b (a := n) (by omega) (by omega) hmb.1 hmb.2
 refine J.sreg ?_
 refine RN.bq (no 1) [1, 5, 6, 7, 8] [] 1 [(1, .int .i64 m), (5, .int .i64 n), (6, .int .i64 ((k : Nat) : Int)), (7, .int .i64 ((i : Nat) : Int)), (8, .bool (decide (((i : Nat) : Int) < ((k : Nat) : Int))))] k_ ?_
 refine RN.fin k_ ?_
 refine J.seq ?_
 refine J.cond (decide (((i : Nat) : Int) < ((k : Nat) : Int))) k_ (fun c2 => ?_) (fun c2 => ?_)
 ·replace c2 := of_decide_eq_true c2
  refine J.skip ?_
  refine KN.next ?_
  refine J.seq ?_
  refine J.block ?_
  refine J.sreg ?_
  refine RN.bq (no 4) [1, 6, 7, 12] [] 4 [(1, .int .i64 m), (6, .int .i64 ((k : Nat) : Int)), (7, .int .i64 ((i : Nat) : Int)), (12, .int .i64 (IntKind.i64.wrap (n * (if 4097 < m then 4097 else m))))] k_ ?_
  rw [show (IntKind.i64.wrap (n * (if 4097 < m then 4097 else m))) = n * (if 4097 < m then 4097 else m) from by rw [IntKind.wrap_i64] <;> omega]
  refine RN.bq (no 1) [1, 5, 6, 7] [] 5 [(1, .int .i64 m), (5, .int .i64 (n * (if 4097 < m then 4097 else m))), (6, .int .i64 ((k : Nat) : Int)), (7, .int .i64 ((i : Nat) : Int))] k_ ?_
  refine RN.fs k_ ?_
  refine RN.bq (no 2) [1, 5, 6, 7, 14] [] 2 [(1, .int .i64 m), (5, .int .i64 (n * (if 4097 < m then 4097 else m))), (6, .int .i64 ((k : Nat) : Int)), (7, .int .i64 ((i : Nat) : Int)), (14, .bool (decide ((n * (if 4097 < m then 4097 else m)) > 4096)))] k_ ?_
  refine RN.fin k_ ?_
  refine J.cond (decide ((n * (if 4097 < m then 4097 else m)) > 4096)) k_ (fun c3 => ?_) (fun c3 => ?_)
  ·replace c3 := of_decide_eq_true c3
   refine J.sreg ?_
   refine RN.bq (no 1) [4] [] 1 [(4, .int .i64 4097)] k_ ?_
   refine RN.fin k_ ?_
   have e_1 : (cel m k : Int) = (4097 : Int) := by first | exact cel_top hm (by rw [← hI2]; omega) (by omega) | (rw [hI2]; congr 1; omega)
   refine J.ret (KR.blk (KR.next (KR.next (KR.blk (KR.next (KR.ret (v := .int .i64 4097) (()) [none] [] [] k_ v1_ (trivial) v1_))))))
  ·replace c3 := of_decide_eq_false c3
   refine J.skip ?_
   refine KN.blk ?_
   refine KN.next ?_
   refine J.regN ?_
   refine RN.bq (no 1) [1, 5, 6, 15] [] 1 [(1, .int .i64 m), (5, .int .i64 (n * (if 4097 < m then 4097 else m))), (6, .int .i64 ((k : Nat) : Int)), (15, .int .i64 (IntKind.i64.wrap (((i : Nat) : Int) + 1)))] k_ ?_
   rw [show IntKind.i64.wrap (((i : Nat) : Int) + 1) = ((i + 1 : Nat) : Int) from by rw [IntKind.wrap_i64]; omega]
   refine RN.bq (no 1) [1, 5, 6, 7] [] 2 [(1, .int .i64 m), (5, .int .i64 (n * (if 4097 < m then 4097 else m))), (6, .int .i64 ((k : Nat) : Int)), (7, .int .i64 ((i + 1 : Nat) : Int))] k_ ?_
   refine RN.done k_ ?_
   refine KN.roundE (i + 1, n * (if 4097 < m then 4097 else m)) [1, 5, 6, 7] [] (l2 := [(1, .int .i64 m), (5, .int .i64 (n * (if 4097 < m then 4097 else m))), (6, .int .i64 ((k : Nat) : Int)), (7, .int .i64 ((i + 1 : Nat) : Int))]) (by (try dsimp only); omega) (by (try dsimp only); exact ⟨by omega, by rw [cel_next hm (by rw [← hI2]; omega), hI2], by omega⟩) k_ (by rfl) (by rfl) (by rfl)
 ·replace c2 := of_decide_eq_false c2
  refine J.exit (KX.next (KX.next (KX.hit ?_)))
  refine KN.next ?_
  refine J.sreg ?_
  refine RN.bq (no 2) [4] [] 2 [(4, .int .i64 n)] k_ ?_
  refine RN.fin k_ ?_
  have e_1 : (cel m k : Int) = (n : Int) := by first | exact cel_top hm (by rw [← hI2]; omega) (by omega) | (rw [hI2]; congr 1; omega)
  refine J.ret (KR.ret (v := .int .i64 n) (()) [none] [] [] k_ v1_ (trivial) v1_)
def partQ (a b : Rat) (m k : Int) : Rat := a + ((k : Rat) / (m : Rat)) * (b - a)
theorem Q_part {a b : Rat} {m k : Int} (ha : Q 100000 a) (hb : Q 100000 b) (h1 : -9223372036854775808 ≤ k) (h2 : k < 9223372036854775808) (h3 : -9223372036854775808 ≤ m) (h4 : m < 9223372036854775808) : Q 5 ((k : Rat) / (m : Rat)) ∧ Q 200001 (b - a) ∧ Q 200006 (((k : Rat) / (m : Rat)) * (b - a)) ∧ Q 300007 (partQ a b m k) := by
  have q1 := (Q_int (v := k) (by omega)).div (Q_int (v := m) (by omega))
  have q2 := hb.sub ha
  have q3 := q1.mul q2
  exact ⟨q1, q2, q3, (ha.add q3).le (by decide)⟩
theorem y_sl_end {p : Prop} (h : p := by first | assumption | exact Lb_toL _ | omega | (simp; done) | exact Q.le ha (by decide) | exact Q.le hb (by decide) | exact Q.le q1 (by decide) | exact Q.le q2 (by decide) | exact Q.le q3 (by decide) | exact Q.le hk2 (by decide) | exact Q.le hm2 (by decide)) : p := h
theorem sl_end (k : Int) (b1 : Nat) (b2 : Nat) (m : Int) (p : RA) (a : Rat) (u : RA) (b : Rat) (ha : Q 100000 a) (hb : Q 100000 b) (h1 : -9223372036854775808 ≤ k) (h2 : k < 9223372036854775808) (h3 : -9223372036854775808 ≤ m) (h4 : m < 9223372036854775808) : SpecM Tryz.prog 124 #[.int .i64 k, pt b1, pt b2] [(b1, .cells #[.int .i64 m] 3 (0, 0)), (b2, .cells (ivC p (encQ a) u (encQ b)) 43 (0, 0))] [fRat p (encQ a), fRat u (encQ b)] (ι := RA) (fun y => ratV y (encQ (partQ a b m k))) (fun y => True) (fun y => [(b1, .cells #[.int .i64 m] 3 (0, 0)), (b2, .cells (ivC p (encQ a) u (encQ b)) 43 (0, 0))]) (fun y => [fRat y (encQ (partQ a b m k))]) := by
 refine SpecM.of_body _ (fn := Tryz.f124) k_ rfl k_ (fun X w0 => ?_)
 refine J.fact (φ := (encQ a).mag.length ≤ 140737488355328 ∧ (encQ a).den.length ≤ 140737488355328) (fun w h => by have h1 := (h _ (.head _)).1.1; have h2 := (h _ (.head _)).2.1; omega) (fun hl1 => ?_)
 refine J.fact (φ := (encQ b).mag.length ≤ 140737488355328 ∧ (encQ b).den.length ≤ 140737488355328) (fun w h => by have h1 := (h _ (.tail _ ((.head _)))).1.1; have h2 := (h _ (.tail _ ((.head _)))).2.1; omega) (fun hl2 => ?_)
 obtain ⟨q1, q2, q3, q4⟩ := Q_part ha hb h1 h2 h3 h4
 have hk2 := Q_int (v := k) (by omega)
 have hm2 := Q_int (v := m) (by omega)
 refine J.sreg ?_
 refine RN.new (fun b => pt b) (.cells (ratC (⟨saNil, saNil⟩ : RA) (⟨false, ([] : List Nat), ([] : List Nat)⟩ : Raw)) 40 (0, 0)) k_ k_ (fun w => by kernel_rfl) (fun b3 => ?_)
 refine RN.fin k_ ?_
 refine J.seqC (ι := (RA) × (RA) × (RA) × (Nat)) (fun x => True) (fun x => [(2, pt b2), (4, pt b3), (5, .pointer (some ⟨x.2.2.2, 0, none⟩))]) (fun x => [(x.2.2.2, .cells (ratC x.2.2.1 (encQ (((k : Int) : Rat) / ((m : Int) : Rat)))) 40 (0, 0)), (b3, .cells (ratC (⟨saNil, saNil⟩ : RA) (⟨false, ([] : List Nat), ([] : List Nat)⟩ : Raw)) 40 (0, 0)), (b1, .cells #[.int .i64 m] 3 (0, 0)), (b2, .cells (ivC p (encQ a) u (encQ b)) 43 (0, 0))]) (fun x => [fRat x.2.2.1 (encQ (((k : Int) : Rat) / ((m : Int) : Rat))), fRat x.2.1 (encQ ((m : Int) : Rat)), fRat x.1 (encQ ((k : Int) : Rat)), fRat p (encQ a), fRat u (encQ b)]) ?_ ?_
 ·refine J.regD k_ [9] ?_
  refine RD.bq [(0, none), (2, some 1)] [2, 4, 8, 10] [b1] [(2, pt b2), (4, pt b3), (8, .int .i64 k), (10, .int .i64 m)] k_ k_ ?_
  refine RD.forkL (is := [1, 8]) k_ rfl k_ ⟨?_, ?_, trivial⟩
  ·refine RDi.call (i := 1) (rational_FromInt k y_sl_end y_sl_end) [] k_ k_ k_ k_ rfl (fun y4 _ => ?_)
   refine RD.forkL (is := [3, 8]) k_ rfl k_ ⟨?_, ?_, trivial⟩
   ·refine RDi.call (i := 3) (rational_FromInt m y_sl_end y_sl_end) [] k_ k_ k_ k_ rfl (fun y5 _ => ?_)
    refine RD.forkL (is := [4, 8]) k_ rfl k_ ⟨?_, ?_, trivial⟩
    ·refine RDi.call (i := 4) (rational_Div_c y4 ((k : Int) : Rat) y5 ((m : Int) : Rat) y_sl_end y_sl_end) [1, 0] k_ k_ k_ k_ rfl (fun y6 _ => ?_)
     refine RD.bq (nl [5, 6, 7]) [2, 4, 13, 14] [] [(2, pt b2), (4, pt b3), (13, ratV y6 (encQ (((k : Int) : Rat) / ((m : Int) : Rat)))), (14, .int .i64 (if ((m : Int) : Rat) = 0 then 5 else 0))] k_ k_ ?_
     refine RD.new (i := 8) (fun b => pt b) (.cells (ratC (⟨saNil, saNil⟩ : RA) (⟨false, ([] : List Nat), ([] : List Nat)⟩ : Raw)) 40 (0, 0)) k_ k_ k_ k_ (fun w => by kernel_rfl) (fun b7 => ?_)
     refine RD.last (i := 9) (some 0) [2, 4, 5, 14] [b7, b7, b7] k_ k_ k_ (l' := [(2, pt b2), (4, pt b3), (5, pt b7), (14, .int .i64 (if ((m : Int) : Rat) = 0 then 5 else 0))]) (M' := [(b7, .cells (ratC y6 (encQ (((k : Int) : Rat) / ((m : Int) : Rat)))) 40 (0, 0)), (b3, .cells (ratC (⟨saNil, saNil⟩ : RA) (⟨false, ([] : List Nat), ([] : List Nat)⟩ : Raw)) 40 (0, 0)), (b1, .cells #[.int .i64 m] 3 (0, 0)), (b2, .cells (ivC p (encQ a) u (encQ b)) 43 (0, 0))]) k_ ?_
     refine RD.bq (nl [10]) [2, 4, 5] [] [(2, pt b2), (4, pt b3), (5, pt b7)] k_ k_ ?_
     refine RD.done k_ ?_
     refine KN.meet (y4, y5, y6, b7) [2, 4, 5] [0, 1, 2, 3, 4] (l2 := [(2, pt b2), (4, pt b3), (5, pt b7)]) (by exact trivial) k_ (by rfl) (by rfl) (by rfl)
    ·refine RDi.new (i := 8) (fun b => pt b) (.cells (ratC (⟨saNil, saNil⟩ : RA) (⟨false, ([] : List Nat), ([] : List Nat)⟩ : Raw)) 40 (0, 0)) k_ k_ k_ (fun w => by kernel_rfl) (fun b8 => ?_)
     refine RD.call (i := 4) (rational_Div_c y4 ((k : Int) : Rat) y5 ((m : Int) : Rat) y_sl_end y_sl_end) [1, 0] k_ k_ k_ k_ k_ rfl (fun y9 _ => ?_)
     refine RD.bq (nl [5, 6, 7]) [2, 4, 5, 13, 14] [] [(2, pt b2), (4, pt b3), (5, pt b8), (13, ratV y9 (encQ (((k : Int) : Rat) / ((m : Int) : Rat)))), (14, .int .i64 (if ((m : Int) : Rat) = 0 then 5 else 0))] k_ k_ ?_
     refine RD.last (i := 9) (some 0) [2, 4, 5, 14] [b8, b8, b8] k_ k_ k_ (l' := [(2, pt b2), (4, pt b3), (5, pt b8), (14, .int .i64 (if ((m : Int) : Rat) = 0 then 5 else 0))]) (M' := [(b8, .cells (ratC y9 (encQ (((k : Int) : Rat) / ((m : Int) : Rat)))) 40 (0, 0)), (b3, .cells (ratC (⟨saNil, saNil⟩ : RA) (⟨false, ([] : List Nat), ([] : List Nat)⟩ : Raw)) 40 (0, 0)), (b1, .cells #[.int .i64 m] 3 (0, 0)), (b2, .cells (ivC p (encQ a) u (encQ b)) 43 (0, 0))]) k_ ?_
     refine RD.bq (nl [10]) [2, 4, 5] [] [(2, pt b2), (4, pt b3), (5, pt b8)] k_ k_ ?_
     refine RD.done k_ ?_
     refine KN.meet (y4, y5, y9, b8) [2, 4, 5] [0, 1, 2, 3, 4] (l2 := [(2, pt b2), (4, pt b3), (5, pt b8)]) (by exact trivial) k_ (by rfl) (by rfl) (by rfl)
   ·refine RDi.new (i := 8) (fun b => pt b) (.cells (ratC (⟨saNil, saNil⟩ : RA) (⟨false, ([] : List Nat), ([] : List Nat)⟩ : Raw)) 40 (0, 0)) k_ k_ k_ (fun w => by kernel_rfl) (fun b10 => ?_)
    refine RD.call (i := 3) (rational_FromInt m y_sl_end y_sl_end) [] k_ k_ k_ k_ k_ rfl (fun y11 _ => ?_)
    refine RD.call (i := 4) (rational_Div_c y4 ((k : Int) : Rat) y11 ((m : Int) : Rat) y_sl_end y_sl_end) [1, 0] k_ k_ k_ k_ k_ rfl (fun y12 _ => ?_)
    refine RD.bq (nl [5, 6, 7]) [2, 4, 5, 13, 14] [] [(2, pt b2), (4, pt b3), (5, pt b10), (13, ratV y12 (encQ (((k : Int) : Rat) / ((m : Int) : Rat)))), (14, .int .i64 (if ((m : Int) : Rat) = 0 then 5 else 0))] k_ k_ ?_
    refine RD.last (i := 9) (some 0) [2, 4, 5, 14] [b10, b10, b10] k_ k_ k_ (l' := [(2, pt b2), (4, pt b3), (5, pt b10), (14, .int .i64 (if ((m : Int) : Rat) = 0 then 5 else 0))]) (M' := [(b10, .cells (ratC y12 (encQ (((k : Int) : Rat) / ((m : Int) : Rat)))) 40 (0, 0)), (b3, .cells (ratC (⟨saNil, saNil⟩ : RA) (⟨false, ([] : List Nat), ([] : List Nat)⟩ : Raw)) 40 (0, 0)), (b1, .cells #[.int .i64 m] 3 (0, 0)), (b2, .cells (ivC p (encQ a) u (encQ b)) 43 (0, 0))]) k_ ?_
    refine RD.bq (nl [10]) [2, 4, 5] [] [(2, pt b2), (4, pt b3), (5, pt b10)] k_ k_ ?_
    refine RD.done k_ ?_
    refine KN.meet (y4, y11, y12, b10) [2, 4, 5] [0, 1, 2, 3, 4] (l2 := [(2, pt b2), (4, pt b3), (5, pt b10)]) (by exact trivial) k_ (by rfl) (by rfl) (by rfl)
  ·refine RDi.new (i := 8) (fun b => pt b) (.cells (ratC (⟨saNil, saNil⟩ : RA) (⟨false, ([] : List Nat), ([] : List Nat)⟩ : Raw)) 40 (0, 0)) k_ k_ k_ (fun w => by kernel_rfl) (fun b13 => ?_)
   refine RD.call (i := 1) (rational_FromInt k y_sl_end y_sl_end) [] k_ k_ k_ k_ k_ rfl (fun y14 _ => ?_)
   refine RD.call (i := 3) (rational_FromInt m y_sl_end y_sl_end) [] k_ k_ k_ k_ k_ rfl (fun y15 _ => ?_)
   refine RD.call (i := 4) (rational_Div_c y14 ((k : Int) : Rat) y15 ((m : Int) : Rat) y_sl_end y_sl_end) [1, 0] k_ k_ k_ k_ k_ rfl (fun y16 _ => ?_)
   refine RD.bq (nl [5, 6, 7]) [2, 4, 5, 13, 14] [] [(2, pt b2), (4, pt b3), (5, pt b13), (13, ratV y16 (encQ (((k : Int) : Rat) / ((m : Int) : Rat)))), (14, .int .i64 (if ((m : Int) : Rat) = 0 then 5 else 0))] k_ k_ ?_
   refine RD.last (i := 9) (some 0) [2, 4, 5, 14] [b13, b13, b13] k_ k_ k_ (l' := [(2, pt b2), (4, pt b3), (5, pt b13), (14, .int .i64 (if ((m : Int) : Rat) = 0 then 5 else 0))]) (M' := [(b13, .cells (ratC y16 (encQ (((k : Int) : Rat) / ((m : Int) : Rat)))) 40 (0, 0)), (b3, .cells (ratC (⟨saNil, saNil⟩ : RA) (⟨false, ([] : List Nat), ([] : List Nat)⟩ : Raw)) 40 (0, 0)), (b1, .cells #[.int .i64 m] 3 (0, 0)), (b2, .cells (ivC p (encQ a) u (encQ b)) 43 (0, 0))]) k_ ?_
   refine RD.bq (nl [10]) [2, 4, 5] [] [(2, pt b2), (4, pt b3), (5, pt b13)] k_ k_ ?_
   refine RD.done k_ ?_
   refine KN.meet (y14, y15, y16, b13) [2, 4, 5] [0, 1, 2, 3, 4] (l2 := [(2, pt b2), (4, pt b3), (5, pt b13)]) (by exact trivial) k_ (by rfl) (by rfl) (by rfl)
 ·intro x17 hx18
  obtain ⟨y4, y5, y6, b7⟩ := x17
  replace hx18 : True := hx18
  refine J.seq ?_
  refine J.regD k_ [10] ?_
  refine RD.bq [(0, none), (1, some 3), (2, some 0), (3, none), (4, some 3), (5, none), (6, some 3)] [4, 16, 17, 19, 21] [b2, b2, b2, b2, b2, b2, b7, b7, b7, b2, b2, b2] [(4, pt b3), (16, ratV p (encQ a)), (17, ratV y6 (encQ (((k : Int) : Rat) / ((m : Int) : Rat)))), (19, ratV u (encQ b)), (21, ratV p (encQ a))] k_ k_ ?_
  refine RD.call (i := 7) (rational_Sub_c u b p a y_sl_end y_sl_end) [4, 3] k_ k_ k_ k_ k_ rfl (fun y19 _ => ?_)
  refine RD.call (i := 8) (rational_Mul_c y6 (((k : Int) : Rat) / ((m : Int) : Rat)) y19 (b - a) y_sl_end y_sl_end) [1, 0] k_ k_ k_ k_ k_ rfl (fun y20 _ => ?_)
  refine RD.call (i := 9) (rational_Add_c p a y20 ((((k : Int) : Rat) / ((m : Int) : Rat)) * (b - a)) y_sl_end y_sl_end) [5, 0] k_ k_ k_ k_ k_ rfl (fun y21 _ => ?_)
  refine RD.last (i := 10) (some 1) [4] [b3, b3, b3] k_ k_ k_ (l' := [(4, pt b3)]) (M' := [(b7, .cells (ratC y6 (encQ (((k : Int) : Rat) / ((m : Int) : Rat)))) 40 (0, 0)), (b3, .cells (ratC y21 (encQ (a + ((((k : Int) : Rat) / ((m : Int) : Rat)) * (b - a))))) 40 (0, 0)), (b1, .cells #[.int .i64 m] 3 (0, 0)), (b2, .cells (ivC p (encQ a) u (encQ b)) 43 (0, 0))]) k_ ?_
  refine RD.done k_ ?_
  refine KN.next ?_
  have e_1 : (encQ (partQ a b m k)) = (encQ (a + ((((k : Int) : Rat) / ((m : Int) : Rat)) * (b - a)))) := by rfl
  refine J.ret (KR.retMd 2 (v := ratV y21 (encQ (a + ((((k : Int) : Rat) / ((m : Int) : Rat)) * (b - a))))) (y21) [some 1] [0] [b3, b3, b3] k_ v1_ (trivial) v1_ v1_)
theorem y_sl_part {p : Prop} (h : p := by first | omega | assumption | exact Lb_toL _ | (simp; done) | omega) : p := h
theorem sl_part (p : RA) (a : Rat) (u : RA) (b : Rat) (k : Int) (m : Int) (ha : Q 100000 a) (hb : Q 100000 b) (hk0 : 0 ≤ k) (hk : k ≤ 1000000) (h3 : -9223372036854775808 ≤ m) (h4 : m < 9223372036854775808) : Spec Tryz.prog 83 #[.agg (ivC p (encQ a) u (encQ b)), .int .i64 k, .int .i64 m] [fRat p (encQ a), fRat u (encQ b)] (ι := RA × RA) (fun y => .agg (ivC y.1 (encQ (partQ a b m k)) y.2 (encQ (partQ a b m (k + 1))))) (fun y => True) (fun y => [fRat y.1 (encQ (partQ a b m k)), fRat y.2 (encQ (partQ a b m (k + 1)))]) := by
 refine Spec.of_body _ (fn := Tryz.f83) k_ rfl k_ (fun X w0 => ?_)
 refine J.fact (φ := (encQ a).mag.length ≤ 140737488355328 ∧ (encQ a).den.length ≤ 140737488355328) (fun w h => by have h1 := (h _ (.head _)).1.1; have h2 := (h _ (.head _)).2.1; omega) (fun hl1 => ?_)
 refine J.fact (φ := (encQ b).mag.length ≤ 140737488355328 ∧ (encQ b).den.length ≤ 140737488355328) (fun w h => by have h1 := (h _ (.tail _ ((.head _)))).1.1; have h2 := (h _ (.tail _ ((.head _)))).2.1; omega) (fun hl2 => ?_)
 refine J.sreg ?_
 refine RN.new (fun b => pt b) (.cells (ivC p (encQ a) u (encQ b)) 43 (0, 0)) k_ k_ (fun w => by kernel_rfl) (fun b3 => ?_)
 refine RN.new (fun b => pt b) (.cells #[.int .i64 m] 3 (0, 0)) k_ k_ (fun w => by kernel_rfl) (fun b4 => ?_)
 refine RN.new (fun b => pt b) (.cells (ivC (⟨saNil, saNil⟩ : RA) (⟨false, ([] : List Nat), ([] : List Nat)⟩ : Raw) (⟨saNil, saNil⟩ : RA) (⟨false, ([] : List Nat), ([] : List Nat)⟩ : Raw)) 43 (0, 0)) k_ k_ (fun w => by kernel_rfl) (fun b5 => ?_)
 refine RN.fs k_ ?_
 refine RN.bq (no 2) [1, 6, 7] [] 2 [(1, .int .i64 k), (6, pt b5), (7, .func (.func 124) #[] #[pt b4, pt b3])] k_ ?_
 refine RN.fs k_ ?_
 refine RN.bq (no 2) [1, 6, 7, 9, 10] [] 2 [(1, .int .i64 k), (6, pt b5), (7, .func (.func 124) #[] #[pt b4, pt b3]), (9, .func (.func 124) #[] #[pt b4, pt b3]), (10, .int .i64 k)] k_ ?_
 refine RN.callM (sl_end k b4 b3 m p a u b y_sl_part y_sl_part y_sl_part y_sl_part y_sl_part y_sl_part) [(b5, .cells (ivC (⟨saNil, saNil⟩ : RA) (⟨false, ([] : List Nat), ([] : List Nat)⟩ : Raw) (⟨saNil, saNil⟩ : RA) (⟨false, ([] : List Nat), ([] : List Nat)⟩ : Raw)) 43 (0, 0))] ([]) [0, 1] k_ k_ k_ rfl rfl (fun y6 _ => ?_)
 refine RN.bq (no 3) [6, 11, 12, 14] [] 6 [(6, pt b5), (11, ratV y6 (encQ (partQ a b m k))), (12, .func (.func 124) #[] #[pt b4, pt b3]), (14, .int .i64 (IntKind.i64.wrap (k + 1)))] k_ ?_
 rw [show IntKind.i64.wrap (k + 1) = (k + 1) from by rw [IntKind.wrap_i64]; omega]
 refine RN.callM (sl_end (k + 1) b4 b3 m p a u b y_sl_part y_sl_part y_sl_part y_sl_part y_sl_part y_sl_part) [(b5, .cells (ivC (⟨saNil, saNil⟩ : RA) (⟨false, ([] : List Nat), ([] : List Nat)⟩ : Raw) (⟨saNil, saNil⟩ : RA) (⟨false, ([] : List Nat), ([] : List Nat)⟩ : Raw)) 43 (0, 0))] ([]) [1, 2] k_ k_ k_ rfl rfl (fun y7 _ => ?_)
 refine RN.bs [none, some 0] [6] [b5, b5, b5, b5, b5, b5] 9 [(6, pt b5)] ([(b5, .cells (ivC y6 (encQ (partQ a b m k)) y7 (encQ (partQ a b m (k + 1)))) 43 (0, 0)), (b4, .cells #[.int .i64 m] 3 (0, 0)), (b3, .cells (ivC p (encQ a) u (encQ b)) 43 (0, 0))]) k_ ?_
 refine RN.fin k_ ?_
 refine J.ret (KR.ret (v := .agg (ivC y6 (encQ (partQ a b m k)) y7 (encQ (partQ a b m (k + 1))))) (⟨y6, y7⟩) [some 0] [1, 0] [b5, b5, b5, b5, b5, b5] k_ rfl (trivial) rfl)
theorem y_sl_Parts {p : Prop} (h : p := by first | omega | assumption | exact Lb_toL _ | (simp; done) | omega) : p := h
theorem sl_Parts (p : RA) (a : Rat) (u : RA) (b : Rat) (n : Nat) (ha : Q 100000 a) (hb : Q 100000 b) (hn : n ≤ 100000) : Spec Tryz.prog 49 #[.agg (ivC p (encQ a) u (encQ b)), .int .i64 ((n : Nat) : Int)] [fRat p (encQ a), fRat u (encQ b)] (ι := SA × List QV) (fun y => sl y.1 y.2.length) (fun y => y.2.length = n ∧ ∀ k, k < y.2.length → (y.2.getD k qv0).1.2 = partQ a b n k ∧ (y.2.getD k qv0).2.2 = partQ a b n ((k : Int) + 1)) (fun y => [fL elv y.1 y.2]) := by
 refine Spec.of_body _ (fn := Tryz.f49) k_ rfl k_ (fun X w0 => ?_)
 refine J.fact (φ := (encQ a).mag.length ≤ 140737488355328 ∧ (encQ a).den.length ≤ 140737488355328) (fun w h => by have h1 := (h _ (.head _)).1.1; have h2 := (h _ (.head _)).2.1; omega) (fun hl1 => ?_)
 refine J.fact (φ := (encQ b).mag.length ≤ 140737488355328 ∧ (encQ b).den.length ≤ 140737488355328) (fun w h => by have h1 := (h _ (.tail _ ((.head _)))).1.1; have h2 := (h _ (.tail _ ((.head _)))).2.1; omega) (fun hl2 => ?_)
 refine J.sreg ?_
 refine RN.new (fun b => pt b) (.cells (ivC p (encQ a) u (encQ b)) 43 (0, 0)) k_ k_ (fun w => by kernel_rfl) (fun b3 => ?_)
 refine RN.bq (no 1) [1, 2] [] 2 [(1, .int .i64 ((n : Nat) : Int)), (2, pt b3)] k_ ?_
 refine RN.fs k_ ?_
 refine RN.bq (no 1) [1, 2, 5] [] 1 [(1, .int .i64 ((n : Nat) : Int)), (2, pt b3), (5, .slice none 0 0)] k_ ?_
 refine RN.fin k_ ?_
 refine J.seq ?_
 refine J.sreg ?_
 refine RN.bq (no 2) [1, 2, 5, 7, 8] [] 2 [(1, .int .i64 ((n : Nat) : Int)), (2, pt b3), (5, .slice none 0 0), (7, .int .i64 ((n : Nat) : Int)), (8, .int .i64 0)] k_ ?_
 refine RN.fin k_ ?_
 refine J.block ?_
 refine J.also (allL elv ([] : List QV)) (fun w h => allL_nil elv w) ?_
 refine J.loop (ι := (Option GB) × (List QV) × (Nat)) (fun x => x.2.2 ≤ n ∧ gOk 6 x.1 x.2.1.length ∧ x.2.1.length = x.2.2 ∧ ∀ k, k < x.2.1.length → (x.2.1.getD k qv0).1.2 = partQ a b n k ∧ (x.2.1.getD k qv0).2.2 = partQ a b n ((k : Int) + 1)) (fun x => n - x.2.2) (fun x => [(1, .int .i64 ((n : Nat) : Int)), (2, pt b3), (5, sl (glS x.1) x.2.1.length), (7, .int .i64 ((n : Nat) : Int)), (8, .int .i64 ((x.2.2 : Nat) : Int))]) (fun x => [(b3, .cells (ivC p (encQ a) u (encQ b)) 43 (0, 0))] ++ (glM x.1 (encv x.2.1) 43 ++ ([]))) (fun x => [allL elv x.2.1, fRat p (encQ a), fRat u (encQ b)]) (none, ([] : List QV), 0) [1, 2, 5, 7, 8] [0, 1, 2] (⟨Nat.zero_le _, rfl, rfl, fun k h => absurd h (Nat.not_lt_zero _)⟩) k_ (by first | rfl | (simp only [encQ_zero]; done) | (simp only [encQ_zero]; rfl)) (by rfl) (fun x4 hI => ?_)
 obtain ⟨go, out, i⟩ := x4
 replace hI : i ≤ n ∧ gOk 6 go out.length ∧ out.length = i ∧ ∀ k, k < out.length → (out.getD k qv0).1.2 = partQ a b n k ∧ (out.getD k qv0).2.2 = partQ a b n ((k : Int) + 1) := hI
 obtain ⟨hI1, hI2, hI3, hI4⟩ := hI
 refine J.sreg ?_
 refine RN.bq (no 1) [1, 2, 5, 7, 8, 9] [] 1 [(1, .int .i64 ((n : Nat) : Int)), (2, pt b3), (5, sl (glS go) out.length), (7, .int .i64 ((n : Nat) : Int)), (8, .int .i64 ((i : Nat) : Int)), (9, .bool (decide (((i : Nat) : Int) < ((n : Nat) : Int))))] k_ ?_
 refine RN.fin k_ ?_
 refine J.seq ?_
 refine J.cond (decide (((i : Nat) : Int) < ((n : Nat) : Int))) k_ (fun c5 => ?_) (fun c5 => ?_)
 ·replace c5 := of_decide_eq_true c5
  refine J.skip ?_
  refine KN.next ?_
  refine J.seq ?_
  refine J.block ?_
  refine J.sreg ?_
  refine RN.bq (no 2) [1, 2, 5, 6, 7, 8] [] 2 [(1, .int .i64 ((n : Nat) : Int)), (2, pt b3), (5, sl (glS go) out.length), (6, .int .i64 ((i : Nat) : Int)), (7, .int .i64 ((n : Nat) : Int)), (8, .int .i64 ((i : Nat) : Int))] k_ ?_
  refine RN.fin k_ ?_
  refine J.regN ?_
  refine RN.bq [none, some 0, none, none] [1, 2, 7, 8, 11, 12, 13, 14] [b3, b3, b3, b3, b3, b3] 4 [(1, .int .i64 ((n : Nat) : Int)), (2, pt b3), (7, .int .i64 ((n : Nat) : Int)), (8, .int .i64 ((i : Nat) : Int)), (11, sl (glS go) out.length), (12, .agg (ivC p (encQ a) u (encQ b))), (13, .int .i64 ((i : Nat) : Int)), (14, .int .i64 ((n : Nat) : Int))] k_ ?_
  refine RN.call (sl_part p a u b ((i : Nat) : Int) ((n : Nat) : Int) y_sl_Parts y_sl_Parts y_sl_Parts y_sl_Parts y_sl_Parts y_sl_Parts) [1, 2] k_ k_ k_ rfl (fun y6 _ => ?_)
  refine RN.new (fun b => .slice (some ⟨b, 0, none⟩) 1 1) (.cells (encv ([((y6.1, ((partQ a b ((n : Nat) : Int) ((i : Nat) : Int)) : Rat)), (y6.2, ((partQ a b ((n : Nat) : Int) (((i : Nat) : Int) + 1)) : Rat)))] : List QV)) 43 (0, 0)) k_ k_ (fun w => by kernel_rfl) (fun b7 => ?_)
  refine RN.also (allL elv ([((y6.1, ((partQ a b ((n : Nat) : Int) ((i : Nat) : Int)) : Rat)), (y6.2, ((partQ a b ((n : Nat) : Int) (((i : Nat) : Int) + 1)) : Rat)))] : List QV)) (fun w h => allL_cons (And.intro (h _ (.head _)) (h _ (.tail _ ((.head _))))) (allL_nil _ _)) ?_
  refine RN.ot k_ k_ (ot_lapp (z := .agg #[.bool false, .slice none 0 0, .slice none 0 0, .bool false, .slice none 0 0, .slice none 0 0]) (E := elv) (sz := 6) (T := 31) (e := 43) (by_ := 112) (mi := 0) (b := b7) (k := 1) (c := 1) (x := (.tmp 11)) (y := (.tmp 16)) (go := go) (xs := out) (ys := ([((y6.1, ((partQ a b ((n : Nat) : Int) ((i : Nat) : Int)) : Rat)), (y6.2, ((partQ a b ((n : Nat) : Int) (((i : Nat) : Int) + 1)) : Rat)))] : List QV)) [(b7, .cells (encv ([((y6.1, ((partQ a b ((n : Nat) : Int) ((i : Nat) : Int)) : Rat)), (y6.2, ((partQ a b ((n : Nat) : Int) (((i : Nat) : Int) + 1)) : Rat)))] : List QV)) 43 (0, 0)), (b3, .cells (ivC p (encQ a) u (encQ b)) 43 (0, 0))] ([]) rfl rfl rfl k_ k_ k_ k_ k_ k_ rfl rfl (by first | decide | exact Nat.zero_lt_one | simp) (by assumption) x_ x_) (fun g8 hg9 => ?_)
  refine RN.also (allL elv (out ++ ([((y6.1, ((partQ a b ((n : Nat) : Int) ((i : Nat) : Int)) : Rat)), (y6.2, ((partQ a b ((n : Nat) : Int) (((i : Nat) : Int) + 1)) : Rat)))] : List QV))) (fun w h => allL_app (h _ (.tail _ ((.tail _ ((.tail _ ((.head _)))))))) (h _ (.head _))) ?_
  refine RN.dropM 0 rfl ?_
  refine RN.bq (no 1) [1, 2, 5, 7, 8] [] 8 [(1, .int .i64 ((n : Nat) : Int)), (2, pt b3), (5, sl (glS (some g8)) (out ++ ([((y6.1, ((partQ a b ((n : Nat) : Int) ((i : Nat) : Int)) : Rat)), (y6.2, ((partQ a b ((n : Nat) : Int) (((i : Nat) : Int) + 1)) : Rat)))] : List QV)).length), (7, .int .i64 ((n : Nat) : Int)), (8, .int .i64 ((i : Nat) : Int))] k_ ?_
  refine RN.done k_ ?_
  refine KN.blk ?_
  refine KN.next ?_
  refine J.regN ?_
  refine RN.bq (no 1) [1, 2, 5, 7, 18] [] 1 [(1, .int .i64 ((n : Nat) : Int)), (2, pt b3), (5, sl (glS (some g8)) (out ++ ([((y6.1, ((partQ a b ((n : Nat) : Int) ((i : Nat) : Int)) : Rat)), (y6.2, ((partQ a b ((n : Nat) : Int) (((i : Nat) : Int) + 1)) : Rat)))] : List QV)).length), (7, .int .i64 ((n : Nat) : Int)), (18, .int .i64 (IntKind.i64.wrap (((i : Nat) : Int) + 1)))] k_ ?_
  rw [show IntKind.i64.wrap (((i : Nat) : Int) + 1) = ((i + 1 : Nat) : Int) from by rw [IntKind.wrap_i64]; omega]
  refine RN.bq (no 1) [1, 2, 5, 7, 8] [] 2 [(1, .int .i64 ((n : Nat) : Int)), (2, pt b3), (5, sl (glS (some g8)) (out ++ ([((y6.1, ((partQ a b ((n : Nat) : Int) ((i : Nat) : Int)) : Rat)), (y6.2, ((partQ a b ((n : Nat) : Int) (((i : Nat) : Int) + 1)) : Rat)))] : List QV)).length), (7, .int .i64 ((n : Nat) : Int)), (8, .int .i64 ((i + 1 : Nat) : Int))] k_ ?_
  refine RN.done k_ ?_
  refine KN.roundE (some g8, out ++ ([((y6.1, ((partQ a b ((n : Nat) : Int) ((i : Nat) : Int)) : Rat)), (y6.2, ((partQ a b ((n : Nat) : Int) (((i : Nat) : Int) + 1)) : Rat)))] : List QV), i + 1) [1, 2, 5, 7, 8] [0, 5, 6] (l2 := [(1, .int .i64 ((n : Nat) : Int)), (2, pt b3), (5, sl (glS (some g8)) (out ++ ([((y6.1, ((partQ a b ((n : Nat) : Int) ((i : Nat) : Int)) : Rat)), (y6.2, ((partQ a b ((n : Nat) : Int) (((i : Nat) : Int) + 1)) : Rat)))] : List QV)).length), (7, .int .i64 ((n : Nat) : Int)), (8, .int .i64 ((i + 1 : Nat) : Int))]) (by (try dsimp only); omega) (by (try dsimp only); exact ⟨by omega, by assumption, by simp; omega, snocP (P := fun k (e : QV) => e.1.2 = partQ a b n k ∧ e.2.2 = partQ a b n ((k : Int) + 1)) hI4 (by rw [hI3]; exact ⟨rfl, rfl⟩)⟩) k_ (by rfl) (by rfl) (by rfl)
 ·replace c5 := of_decide_eq_false c5
  refine J.exit (KX.next (KX.next (KX.hit ?_)))
  refine KN.next ?_
  refine J.sreg ?_
  refine RN.bq (no 2) [4] [] 2 [(4, sl (glS go) out.length)] k_ ?_
  refine RN.fin k_ ?_
  refine J.shareG [(b3, .cells (ivC p (encQ a) u (encQ b)) 43 (0, 0))] ([]) rfl (fL elv (glS go) out) (fun w hb h => fL_gl hb (h _ (.head _)) (by assumption) x_) ?_
  refine J.ret (KR.ret (v := sl (glS go) out.length) (⟨glS go, out⟩) [none] [0] [] k_ rfl (⟨by show out.length = _; omega, hI4⟩) rfl)
theorem hullLo {a b : Rat} : foldLo (loQ a b) [hiQ a b, loQ a b, hiQ a b] = loQ a b := by
  unfold foldLo loQ hiQ; by_cases h : b < a <;> simp [h, Rat.lt_irrefl]
theorem hullHi {a b : Rat} : foldHi (loQ a b) [hiQ a b, loQ a b, hiQ a b] = hiQ a b := by
  unfold foldHi loQ hiQ
  by_cases h : b < a
  · simp [h, Rat.lt_irrefl]
  · by_cases h1 : a < b
    · simp [h, h1, Rat.lt_irrefl]
    · obtain rfl : a = b := Rat.le_antisymm (Rat.not_lt.1 h) (Rat.not_lt.1 h1)
      simp [Rat.lt_irrefl]
theorem y_sg_value {p : Prop} (h : p := by first | assumption | exact Lb_toL _ | omega | (simp; done) | exact Q.le ha (by decide) | exact Q.le hb (by decide)) : p := h
theorem sg_value (p : RA) (a : Rat) (u : RA) (b : Rat) (ha : Q 10000000 a) (hb : Q 10000000 b) : Spec Tryz.prog 50 #[.agg (ivC p (encQ a) u (encQ b))] [fRat p (encQ a), fRat u (encQ b)] (ι := RA × RA) (fun y => .agg (ivC y.1 (encQ (loQ a b)) y.2 (encQ (hiQ a b)))) (fun y => True) (fun y => [fRat y.1 (encQ (loQ a b)), fRat y.2 (encQ (hiQ a b))]) := by
 refine Spec.of_body _ (fn := Tryz.f50) k_ rfl k_ (fun X w0 => ?_)
 refine J.fact (φ := (encQ a).mag.length ≤ 140737488355328 ∧ (encQ a).den.length ≤ 140737488355328) (fun w h => by have h1 := (h _ (.head _)).1.1; have h2 := (h _ (.head _)).2.1; omega) (fun hl1 => ?_)
 refine J.fact (φ := (encQ b).mag.length ≤ 140737488355328 ∧ (encQ b).den.length ≤ 140737488355328) (fun w h => by have h1 := (h _ (.tail _ ((.head _)))).1.1; have h2 := (h _ (.tail _ ((.head _)))).2.1; omega) (fun hl2 => ?_)
 refine J.sreg ?_
 refine RN.new (fun b => pt b) (.cells (ivC p (encQ a) u (encQ b)) 43 (0, 0)) k_ k_ (fun w => by kernel_rfl) (fun b3 => ?_)
 refine RN.new (fun b => pt b) (.cells (ivC (⟨saNil, saNil⟩ : RA) (⟨false, ([] : List Nat), ([] : List Nat)⟩ : Raw) (⟨saNil, saNil⟩ : RA) (⟨false, ([] : List Nat), ([] : List Nat)⟩ : Raw)) 43 (0, 0)) k_ k_ (fun w => by kernel_rfl) (fun b4 => ?_)
 refine RN.fin k_ ?_
 refine J.seq ?_
 refine J.sreg ?_
 refine RN.bq [some 1] [1, 2, 3] [b3, b3, b3, b3, b3, b3] 1 [(1, pt b3), (2, pt b4), (3, .agg (ivC p (encQ a) u (encQ b)))] k_ ?_
 refine RN.call (iv_Valid_c p a u b y_sg_value y_sg_value) [0, 1] k_ k_ k_ rfl (fun y5 _ => ?_)
 refine RN.bq (no 1) [1, 2, 5] [] 3 [(1, pt b3), (2, pt b4), (5, .bool (!(true && true && !decide (b < a))))] k_ ?_
 refine RN.fin k_ ?_
 refine J.cond (!(true && true && !decide (b < a))) k_ (fun c6 => ?_) (fun c6 => ?_)
 ·have hv : b < a := by simpa using c6
  refine J.sreg ?_
  refine RN.bs [none, some 0] [2] [b4, b4, b4, b4, b4, b4] 2 [(2, pt b4)] ([(b4, .cells (ivC (⟨saNil, saNil⟩ : RA) (⟨false, ([] : List Nat), ([] : List Nat)⟩ : Raw) (⟨saNil, saNil⟩ : RA) (⟨false, ([] : List Nat), ([] : List Nat)⟩ : Raw)) 43 (0, 0)), (b3, .cells (ivC p (encQ a) u (encQ b)) 43 (0, 0))]) k_ ?_
  refine RN.fin k_ ?_
  have e_1 : (loQ a b) = (0 : Rat) := by first | exact loQ_t hv | exact hiQ_t hv
  have e_2 : (hiQ a b) = (0 : Rat) := by first | exact loQ_t hv | exact hiQ_t hv
  refine J.also (fRat (⟨saNil, saNil⟩ : RA) (⟨false, ([] : List Nat), ([] : List Nat)⟩ : Raw)) (fun w h => ⟨fU_nil w, fU_nil w⟩) ?_
  refine J.ret (KR.next (KR.ret (v := .agg (ivC (⟨saNil, saNil⟩ : RA) (⟨false, ([] : List Nat), ([] : List Nat)⟩ : Raw) (⟨saNil, saNil⟩ : RA) (⟨false, ([] : List Nat), ([] : List Nat)⟩ : Raw))) (⟨⟨saNil, saNil⟩, ⟨saNil, saNil⟩⟩) [some 0] [0, 0] [b4, b4, b4, b4, b4, b4] k_ v2_ (trivial) v2_))
 ·have hv : ¬ b < a := by simpa using c6
  refine J.skip ?_
  refine KN.next ?_
  refine J.sreg ?_
  refine RN.bq [some 1, some 1] [2, 7, 8] [b3, b3, b3, b3, b3, b3, b3, b3, b3, b3, b3, b3] 2 [(2, pt b4), (7, .agg (ivC p (encQ a) u (encQ b))), (8, .agg (ivC p (encQ a) u (encQ b)))] k_ ?_
  refine RN.call (iv_Hull p a u b p a u b y_sg_value y_sg_value y_sg_value y_sg_value) [0, 1, 0, 1] k_ k_ k_ rfl (fun y7 _ => ?_)
  refine RN.bs [some 0] [2] [b4, b4, b4, b4, b4, b4] 4 [(2, pt b4)] ([(b4, .cells (ivC y7.1 (encQ (foldLo (loQ a b) [hiQ a b, loQ a b, hiQ a b])) y7.2 (encQ (foldHi (loQ a b) [hiQ a b, loQ a b, hiQ a b]))) 43 (0, 0)), (b3, .cells (ivC p (encQ a) u (encQ b)) 43 (0, 0))]) k_ ?_
  refine RN.fin k_ ?_
  have e_1 : (loQ a b : Rat) = (foldLo (loQ a b) [hiQ a b, loQ a b, hiQ a b] : Rat) := by first | exact hullLo.symm | exact hullHi.symm
  have e_2 : (hiQ a b : Rat) = (foldHi (loQ a b) [hiQ a b, loQ a b, hiQ a b] : Rat) := by first | exact hullLo.symm | exact hullHi.symm
  refine J.ret (KR.ret (v := .agg (ivC y7.1 (encQ (foldLo (loQ a b) [hiQ a b, loQ a b, hiQ a b])) y7.2 (encQ (foldHi (loQ a b) [hiQ a b, loQ a b, hiQ a b])))) (⟨y7.1, y7.2⟩) [some 0] [0, 1] [b4, b4, b4, b4, b4, b4] k_ v2_ (trivial) v2_)
def divOk (n : Nat) (e : QV) (row : QVRow) : Prop := row.2.length = n ∧ ∀ k, k < row.2.length → (row.2.getD k qv0).1.2 = partQ (loQ e.1.2 e.2.2) (hiQ e.1.2 e.2.2) n k ∧ (row.2.getD k qv0).2.2 = partQ (loQ e.1.2 e.2.2) (hiQ e.1.2 e.2.2) n ((k : Int) + 1)
def pLo (e : QV) (n k : Nat) : Rat := partQ (loQ e.1.2 e.2.2) (hiQ e.1.2 e.2.2) n k
def pHi (e : QV) (n k : Nat) : Rat := partQ (loQ e.1.2 e.2.2) (hiQ e.1.2 e.2.2) n ((k : Int) + 1)
def celEl (xs : List QV) (n i j : Nat) (e : QV) : Prop := e.1.2 = loQ (pLo (xs.getD j qv0) n (i / n ^ j % n)) (pHi (xs.getD j qv0) n (i / n ^ j % n)) ∧ e.2.2 = hiQ (pLo (xs.getD j qv0) n (i / n ^ j % n)) (pHi (xs.getD j qv0) n (i / n ^ j % n))
def cellOk (xs : List QV) (n i : Nat) (row : QVRow) : Prop := row.2.length = xs.length ∧ ∀ j, j < row.2.length → celEl xs n i j (row.2.getD j qv0)
def boxQ (xs : List QV) : Prop := ∀ i, i < xs.length → Q 100000 (xs.getD i qv0).1.2 ∧ Q 100000 (xs.getD i qv0).2.2
theorem boxQ_lo {xs : List QV} (h : boxQ xs) {i : Nat} (hi : i < xs.length) : Q 100000 (loQ (xs.getD i qv0).1.2 (xs.getD i qv0).2.2) ∧ Q 100000 (hiQ (xs.getD i qv0).1.2 (xs.getD i qv0).2.2) := ⟨Q_lo2 (h i hi).1 (by decide), Q_hi2 (h i hi).2 (by decide)⟩
theorem divQ {xs : List QV} (h : boxQ xs) {n : Nat} (hn : n ≤ 100000) {dv : List QVRow} (hl : dv.length = xs.length) (hd : ∀ j, j < dv.length → divOk n (xs.getD j qv0) (dv.getD j (saNil, []))) : ∀ j, j < dv.length → ∀ k, k < (dv.getD j (saNil, [])).2.length → Q 10000000 ((dv.getD j (saNil, [])).2.getD k qv0).1.2 ∧ Q 10000000 ((dv.getD j (saNil, [])).2.getD k qv0).2.2 := fun j hj k hk => by
  have h1 := hd j hj
  have h2 := h1.2 k hk
  have hq := boxQ_lo h (i := j) (by omega)
  have hk' : k < n := by rw [← h1.1]; exact hk
  rw [h2.1, h2.2]
  exact ⟨(Q_part hq.1 hq.2 (by omega) (by omega) (by omega) (by omega)).2.2.2.le (by decide), (Q_part hq.1 hq.2 (by omega) (by omega) (by omega) (by omega)).2.2.2.le (by decide)⟩
theorem celEl_of {xs : List QV} {n i j q : Nat} {dv : List QVRow} (hq : q = i / n ^ j) (hn : 1 ≤ n) (hd : divOk n (xs.getD j qv0) (dv.getD j (saNil, []))) {e : QV} (h1 : e.1.2 = foldLo (loQ ((dv.getD j (saNil, [])).2.getD (q % n) qv0).1.2 ((dv.getD j (saNil, [])).2.getD (q % n) qv0).2.2) [hiQ ((dv.getD j (saNil, [])).2.getD (q % n) qv0).1.2 ((dv.getD j (saNil, [])).2.getD (q % n) qv0).2.2, loQ ((dv.getD j (saNil, [])).2.getD (q % n) qv0).1.2 ((dv.getD j (saNil, [])).2.getD (q % n) qv0).2.2, hiQ ((dv.getD j (saNil, [])).2.getD (q % n) qv0).1.2 ((dv.getD j (saNil, [])).2.getD (q % n) qv0).2.2])
    (h2 : e.2.2 = foldHi (loQ ((dv.getD j (saNil, [])).2.getD (q % n) qv0).1.2 ((dv.getD j (saNil, [])).2.getD (q % n) qv0).2.2) [hiQ ((dv.getD j (saNil, [])).2.getD (q % n) qv0).1.2 ((dv.getD j (saNil, [])).2.getD (q % n) qv0).2.2, loQ ((dv.getD j (saNil, [])).2.getD (q % n) qv0).1.2 ((dv.getD j (saNil, [])).2.getD (q % n) qv0).2.2, hiQ ((dv.getD j (saNil, [])).2.getD (q % n) qv0).1.2 ((dv.getD j (saNil, [])).2.getD (q % n) qv0).2.2]) : celEl xs n i j e := by
  rw [hullLo] at h1
  rw [hullHi] at h2
  have h3 := hd.2 (q % n) (by rw [hd.1]; exact Nat.mod_lt _ hn)
  rw [h3.1, h3.2] at h1 h2
  unfold celEl pLo pHi
  rw [← hq]
  exact ⟨h1, h2⟩
theorem div_next {i n j q : Nat} (hq : q = i / n ^ j) : q / n = i / n ^ (j + 1) := by rw [hq, Nat.div_div_eq_div_mul, Nat.pow_succ]
theorem y_sg_Cells {p : Prop} (h : p := by first | omega | assumption | exact Lb_toL _ | (simp; done) | exact (hQ i (by omega)).1.le (by decide) | exact (hQ i (by omega)).2.le (by decide) | exact (boxQ_lo hQ (by omega)).1 | exact (boxQ_lo hQ (by omega)).2 | exact (hQQ j (by omega) _ (by have := hdj (by omega); omega)).1 | exact (hQQ j (by omega) _ (by have := hdj (by omega); omega)).2) : p := h
theorem sg_Cells (s : SA) (xs : List QV) (n : Nat) (hl : 1 ≤ xs.length) (hl2 : xs.length ≤ 12) (hn : 1 ≤ n) (hn2 : n ≤ 4096) (hc : cel n xs.length ≤ 4096) (hQ : boxQ xs) : Spec Tryz.prog 20 #[sl s xs.length, .int .i64 ((n : Nat) : Int)] [fL elv s xs] (ι := SA × List QVRow) (fun y => .tuple #[sl y.1 y.2.length, .int .i64 0]) (fun y => ((y.2.length : Nat) : Int) = cel n xs.length ∧ ∀ k, k < y.2.length → cellOk xs n k (y.2.getD k (saNil, []))) (fun y => [fL elw y.1 y.2]) := by
 refine Spec.of_body _ (fn := Tryz.f20) k_ rfl k_ (fun X w0 => ?_)
 refine J.fact (φ := xs.length ≤ 140737488355328) (fun w h => (h _ (.head _)).1.2) (fun hl1 => ?_)
 have hcb := cel_b (m := n) (by omega) xs.length
 refine J.sreg ?_
 refine RN.bq (no 2) [0, 1] [] 2 [(0, sl s xs.length), (1, .int .i64 ((n : Nat) : Int))] k_ ?_
 refine RN.fin k_ ?_
 refine J.seq ?_
 refine J.block ?_
 refine J.sreg ?_
 refine RN.bq (no 4) [0, 1, 18] [] 4 [(0, sl s xs.length), (1, .int .i64 ((n : Nat) : Int)), (18, .bool ((((xs.length : Nat) : Int) : Int) == 0))] k_ ?_
 refine RN.split 18 ((((xs.length : Nat) : Int) : Int) == 0) k_ (fun c2 => ?_) (fun c2 => ?_)
 ·replace c2 := eq_of_beq c2
  exact absurd c2 (by omega)
 ·replace c2 := ne_of_beq_false c2
  refine RN.bq (no 5) [0, 1, 14] [] 9 [(0, sl s xs.length), (1, .int .i64 ((n : Nat) : Int)), (14, .bool (decide (((xs.length : Nat) : Int) > 12)))] k_ ?_
  refine RN.fin k_ ?_
  refine J.cond (decide (((xs.length : Nat) : Int) > 12)) k_ (fun c3 => ?_) (fun c3 => ?_)
  ·replace c3 := of_decide_eq_true c3
   exact absurd c3 (by omega)
  ·replace c3 := of_decide_eq_false c3
   refine J.sreg ?_
   refine RN.bq (no 3) [0, 1, 23] [] 3 [(0, sl s xs.length), (1, .int .i64 ((n : Nat) : Int)), (23, .bool (decide (((n : Nat) : Int) < 1)))] k_ ?_
   refine RN.fin k_ ?_
   refine J.cond (decide (((n : Nat) : Int) < 1)) k_ (fun c4 => ?_) (fun c4 => ?_)
   ·replace c4 := of_decide_eq_true c4
    exact absurd c4 (by omega)
   ·replace c4 := of_decide_eq_false c4
    refine J.sreg ?_
    refine RN.bq (no 3) [0, 1, 28, 29] [] 3 [(0, sl s xs.length), (1, .int .i64 ((n : Nat) : Int)), (28, .int .i64 ((xs.length : Nat) : Int)), (29, .int .i64 ((n : Nat) : Int))] k_ ?_
    refine RN.call (sg_count xs.length ((n : Nat) : Int) y_sg_Cells y_sg_Cells) [] k_ k_ k_ rfl (fun y5 _ => ?_)
    refine RN.bq (no 2) [0, 1, 26] [] 6 [(0, sl s xs.length), (1, .int .i64 ((n : Nat) : Int)), (26, .bool (decide ((cel ((n : Nat) : Int) xs.length) > 4096)))] k_ ?_
    refine RN.fin k_ ?_
    refine J.cond (decide ((cel ((n : Nat) : Int) xs.length) > 4096)) k_ (fun c6 => ?_) (fun c6 => ?_)
    ·replace c6 := of_decide_eq_true c6
     exact absurd c6 (by omega)
    ·replace c6 := of_decide_eq_false c6
     refine J.skip ?_
     refine KN.blk ?_
     refine KN.next ?_
     refine J.sreg ?_
     refine RN.bq (no 1) [0, 1, 6] [] 1 [(0, sl s xs.length), (1, .int .i64 ((n : Nat) : Int)), (6, .slice none 0 0)] k_ ?_
     refine RN.fin k_ ?_
     refine J.seq ?_
     refine J.sreg ?_
     refine RN.bq (no 3) [0, 1, 6, 32, 33, 34] [] 3 [(0, sl s xs.length), (1, .int .i64 ((n : Nat) : Int)), (6, .slice none 0 0), (32, sl s xs.length), (33, .int .i64 ((xs.length : Nat) : Int)), (34, .int .i64 0)] k_ ?_
     refine RN.fin k_ ?_
     refine J.block ?_
     refine J.also (allL elw ([] : List QVRow)) (fun w h => allL_nil elw w) ?_
     refine J.loop (ι := (Option GB) × (List QVRow) × (Nat)) (fun x => x.2.2 ≤ xs.length ∧ gOk 1 x.1 x.2.1.length ∧ x.2.1.length = x.2.2 ∧ ∀ k, k < x.2.1.length → divOk n (xs.getD k qv0) (x.2.1.getD k (saNil, []))) (fun x => xs.length - x.2.2) (fun x => [(0, sl s xs.length), (1, .int .i64 ((n : Nat) : Int)), (6, sl (glS x.1) x.2.1.length), (32, sl s xs.length), (33, .int .i64 ((xs.length : Nat) : Int)), (34, .int .i64 ((x.2.2 : Nat) : Int))]) (fun x => [] ++ (glM x.1 (encw x.2.1) 31 ++ ([]))) (fun x => [allL elw x.2.1, fL elv s xs]) (none, ([] : List QVRow), 0) [0, 1, 6, 32, 33, 34] [0, 1] (⟨Nat.zero_le _, rfl, rfl, fun k h => absurd h (Nat.not_lt_zero _)⟩) k_ (by first | rfl | (simp only [encQ_zero]; done) | (simp only [encQ_zero]; rfl)) (by rfl) (fun x7 hI => ?_)
     obtain ⟨go, dv, i⟩ := x7
     replace hI : i ≤ xs.length ∧ gOk 1 go dv.length ∧ dv.length = i ∧ ∀ k, k < dv.length → divOk n (xs.getD k qv0) (dv.getD k (saNil, [])) := hI
     obtain ⟨hI1, hI2, hI3, hI4⟩ := hI
     refine J.sreg ?_
     refine RN.bq (no 1) [0, 1, 6, 32, 33, 34, 35] [] 1 [(0, sl s xs.length), (1, .int .i64 ((n : Nat) : Int)), (6, sl (glS go) dv.length), (32, sl s xs.length), (33, .int .i64 ((xs.length : Nat) : Int)), (34, .int .i64 ((i : Nat) : Int)), (35, .bool (decide (((i : Nat) : Int) < ((xs.length : Nat) : Int))))] k_ ?_
     refine RN.fin k_ ?_
     refine J.seq ?_
     refine J.cond (decide (((i : Nat) : Int) < ((xs.length : Nat) : Int))) k_ (fun c8 => ?_) (fun c8 => ?_)
     ·replace c8 := of_decide_eq_true c8
      refine J.skip ?_
      refine KN.next ?_
      refine J.seq ?_
      refine J.block ?_
      refine J.sreg ?_
      refine RN.val _ k_ k_ (q_lidx (t := 31) (x := (.tmp 32)) (ix := (.tmp 34)) (K := .i64) (i0 := ((i : Nat) : Int)) (m := i) (e := 43) (E := elv) (sz := 6) (s := s) (xs := xs) 1 rfl rfl k_ k_ k_ k_ k_ (by omega) x_) ?_
      refine RN.val _ k_ k_ (q_lload (T := 43) (x := (.tmp 36)) (m := i) (s := s) (E := elv) (sz := 6) (xs := xs) 1 rfl rfl k_ k_ k_ k_ x_) ?_
      refine RN.also (fRat ((xs.getD i qv0).1.1) (encQ ((xs.getD i qv0).1.2))) (fun w h => (fL_elem (h _ (.tail _ ((.head _)))) x_).1) ?_
      refine RN.also (fRat ((xs.getD i qv0).2.1) (encQ ((xs.getD i qv0).2.2))) (fun w h => (fL_elem (h _ (.tail _ ((.tail _ ((.head _)))))) x_).2) ?_
      refine RN.new (fun b => pt b) (.cells (ivC (⟨saNil, saNil⟩ : RA) (⟨false, ([] : List Nat), ([] : List Nat)⟩ : Raw) (⟨saNil, saNil⟩ : RA) (⟨false, ([] : List Nat), ([] : List Nat)⟩ : Raw)) 43 (0, 0)) k_ k_ (fun w => by kernel_rfl) (fun b9 => ?_)
      refine RN.bs [some 0] [0, 1, 6, 8, 32, 33, 34] [b9, b9, b9, b9, b9, b9] 4 [(0, sl s xs.length), (1, .int .i64 ((n : Nat) : Int)), (6, sl (glS go) dv.length), (8, pt b9), (32, sl s xs.length), (33, .int .i64 ((xs.length : Nat) : Int)), (34, .int .i64 ((i : Nat) : Int))] ([(b9, .cells (ivC ((xs.getD i qv0).1.1) (encQ ((xs.getD i qv0).1.2)) ((xs.getD i qv0).2.1) (encQ ((xs.getD i qv0).2.2))) 43 (0, 0))] ++ (glM go (encw dv) 31 ++ ([]))) k_ ?_
      refine RN.fin k_ ?_
      refine J.regN ?_
      refine RN.bq [none, some 0] [0, 1, 32, 33, 34, 38, 39] [b9, b9, b9, b9, b9, b9] 2 [(0, sl s xs.length), (1, .int .i64 ((n : Nat) : Int)), (32, sl s xs.length), (33, .int .i64 ((xs.length : Nat) : Int)), (34, .int .i64 ((i : Nat) : Int)), (38, sl (glS go) dv.length), (39, .agg (ivC ((xs.getD i qv0).1.1) (encQ ((xs.getD i qv0).1.2)) ((xs.getD i qv0).2.1) (encQ ((xs.getD i qv0).2.2))))] k_ ?_
      refine RN.call (sg_value ((xs.getD i qv0).1.1) ((xs.getD i qv0).1.2) ((xs.getD i qv0).2.1) ((xs.getD i qv0).2.2) y_sg_Cells y_sg_Cells) [1, 0] k_ k_ k_ rfl (fun y10 _ => ?_)
      refine RN.bq (no 1) [0, 1, 32, 33, 34, 38, 40, 41] [] 4 [(0, sl s xs.length), (1, .int .i64 ((n : Nat) : Int)), (32, sl s xs.length), (33, .int .i64 ((xs.length : Nat) : Int)), (34, .int .i64 ((i : Nat) : Int)), (38, sl (glS go) dv.length), (40, .agg (ivC y10.1 (encQ (loQ ((xs.getD i qv0).1.2) ((xs.getD i qv0).2.2))) y10.2 (encQ (hiQ ((xs.getD i qv0).1.2) ((xs.getD i qv0).2.2))))), (41, .int .i64 ((n : Nat) : Int))] k_ ?_
      refine RN.call (sl_Parts y10.1 (loQ ((xs.getD i qv0).1.2) ((xs.getD i qv0).2.2)) y10.2 (hiQ ((xs.getD i qv0).1.2) ((xs.getD i qv0).2.2)) n y_sg_Cells y_sg_Cells y_sg_Cells) [0, 1] k_ k_ k_ rfl (fun y11 h12 => ?_)
      have hpp : divOk n (xs.getD i qv0) y11 := h12
      refine RN.new (fun b => .slice (some ⟨b, 0, none⟩) 1 1) (.cells (encw ([(y11.1, y11.2)] : List QVRow)) 31 (0, 0)) k_ k_ (fun w => by kernel_rfl) (fun b13 => ?_)
      refine RN.also (allL elw ([(y11.1, y11.2)] : List QVRow)) (fun w h => allL_cons (h _ (.head _)) (allL_nil _ _)) ?_
      refine RN.ot k_ k_ (ot_lapp (z := .slice none 0 0) (E := elw) (sz := 1) (T := 54) (e := 31) (by_ := 24) (mi := 0) (b := b13) (k := 1) (c := 1) (x := (.tmp 38)) (y := (.tmp 43)) (go := go) (xs := dv) (ys := ([(y11.1, y11.2)] : List QVRow)) [(b13, .cells (encw ([(y11.1, y11.2)] : List QVRow)) 31 (0, 0)), (b9, .cells (ivC ((xs.getD i qv0).1.1) (encQ ((xs.getD i qv0).1.2)) ((xs.getD i qv0).2.1) (encQ ((xs.getD i qv0).2.2))) 43 (0, 0))] ([]) rfl rfl rfl k_ k_ k_ k_ k_ k_ rfl rfl (by first | decide | exact Nat.zero_lt_one | simp) (by assumption) x_ x_) (fun g14 hg15 => ?_)
      refine RN.also (allL elw (dv ++ ([(y11.1, y11.2)] : List QVRow))) (fun w h => allL_app (h _ (.tail _ ((.tail _ ((.tail _ ((.tail _ ((.tail _ ((.tail _ ((.head _)))))))))))))) (h _ (.head _))) ?_
      refine RN.dropM 0 rfl ?_
      refine RN.bq (no 1) [0, 1, 6, 32, 33, 34] [] 8 [(0, sl s xs.length), (1, .int .i64 ((n : Nat) : Int)), (6, sl (glS (some g14)) (dv ++ ([(y11.1, y11.2)] : List QVRow)).length), (32, sl s xs.length), (33, .int .i64 ((xs.length : Nat) : Int)), (34, .int .i64 ((i : Nat) : Int))] k_ ?_
      refine RN.done k_ ?_
      refine KN.blk ?_
      refine KN.next ?_
      refine J.regN ?_
      refine RN.bq (no 1) [0, 1, 6, 32, 33, 45] [] 1 [(0, sl s xs.length), (1, .int .i64 ((n : Nat) : Int)), (6, sl (glS (some g14)) (dv ++ ([(y11.1, y11.2)] : List QVRow)).length), (32, sl s xs.length), (33, .int .i64 ((xs.length : Nat) : Int)), (45, .int .i64 (IntKind.i64.wrap (((i : Nat) : Int) + 1)))] k_ ?_
      rw [show IntKind.i64.wrap (((i : Nat) : Int) + 1) = ((i + 1 : Nat) : Int) from by rw [IntKind.wrap_i64]; omega]
      refine RN.bq (no 1) [0, 1, 6, 32, 33, 34] [] 2 [(0, sl s xs.length), (1, .int .i64 ((n : Nat) : Int)), (6, sl (glS (some g14)) (dv ++ ([(y11.1, y11.2)] : List QVRow)).length), (32, sl s xs.length), (33, .int .i64 ((xs.length : Nat) : Int)), (34, .int .i64 ((i + 1 : Nat) : Int))] k_ ?_
      refine RN.done k_ ?_
      refine KN.dropF 1 ?_
      refine KN.roundE (some g14, dv ++ ([(y11.1, y11.2)] : List QVRow), i + 1) [0, 1, 6, 32, 33, 34] [0, 8] (l2 := [(0, sl s xs.length), (1, .int .i64 ((n : Nat) : Int)), (6, sl (glS (some g14)) (dv ++ ([(y11.1, y11.2)] : List QVRow)).length), (32, sl s xs.length), (33, .int .i64 ((xs.length : Nat) : Int)), (34, .int .i64 ((i + 1 : Nat) : Int))]) (by (try dsimp only); omega) (by (try dsimp only); exact ⟨by omega, by assumption, by simp; omega, snocP (P := fun k (e : QVRow) => divOk n (xs.getD k qv0) e) hI4 (by rw [hI3]; exact hpp)⟩) k_ (by rfl) (by rfl) (by rfl)
     ·replace c8 := of_decide_eq_false c8
      refine J.exit (KX.next (KX.next (KX.hit ?_)))
      refine KN.next ?_
      refine J.sreg ?_
      refine RN.bq (no 1) [0, 1, 6, 9] [] 1 [(0, sl s xs.length), (1, .int .i64 ((n : Nat) : Int)), (6, sl (glS go) dv.length), (9, .slice none 0 0)] k_ ?_
      refine RN.fin k_ ?_
      refine J.seq ?_
      refine J.sreg ?_
      refine RN.bq (no 3) [1, 6, 9, 47, 48] [] 3 [(1, .int .i64 ((n : Nat) : Int)), (6, sl (glS go) dv.length), (9, .slice none 0 0), (47, .int .i64 ((xs.length : Nat) : Int)), (48, .int .i64 ((n : Nat) : Int))] k_ ?_
      refine RN.call (sg_count xs.length ((n : Nat) : Int) y_sg_Cells y_sg_Cells) [] k_ k_ k_ rfl (fun y16 _ => ?_)
      refine RN.bq (no 1) [1, 6, 9, 49, 50] [] 5 [(1, .int .i64 ((n : Nat) : Int)), (6, sl (glS go) dv.length), (9, .slice none 0 0), (49, .int .i64 (cel ((n : Nat) : Int) xs.length)), (50, .int .i64 0)] k_ ?_
      refine RN.fin k_ ?_
      refine J.block ?_
      refine J.shareG [] ([]) rfl (fL elw (glS go) dv) (fun w hb h => fL_gl hb (h _ (.head _)) (by assumption) x_) ?_
      refine J.also (allL elw ([] : List QVRow)) (fun w h => allL_nil elw w) ?_
      have hdl : dv.length = xs.length := by omega
      have hQQ := divQ hQ (by omega : n ≤ 100000) hdl hI4
      refine J.loop (ι := (Option GB) × (List QVRow) × (Nat)) (fun x => ((x.2.2 : Nat) : Int) ≤ cel n xs.length ∧ gOk 1 x.1 x.2.1.length ∧ x.2.1.length = x.2.2 ∧ ∀ k, k < x.2.1.length → cellOk xs n k (x.2.1.getD k (saNil, []))) (fun x => (cel n xs.length).toNat - x.2.2) (fun x => [(1, .int .i64 ((n : Nat) : Int)), (6, sl (glS go) dv.length), (9, sl (glS x.1) x.2.1.length), (49, .int .i64 (cel ((n : Nat) : Int) xs.length)), (50, .int .i64 ((x.2.2 : Nat) : Int))]) (fun x => [] ++ (glM x.1 (encw x.2.1) 31 ++ ([]))) (fun x => [fL elw (glS go) dv, allL elw x.2.1, allL elw dv, fL elv s xs]) (none, ([] : List QVRow), 0) [1, 6, 9, 49, 50] [1, 0, 2, 3] (⟨by have := (cel_b (m := n) (by omega) xs.length).1; show ((0 : Nat) : Int) ≤ _; omega, rfl, rfl, fun k h => absurd h (Nat.not_lt_zero _)⟩) k_ (by first | rfl | (simp only [encQ_zero]; done) | (simp only [encQ_zero]; rfl)) (by rfl) (fun x17 hK => ?_)
      obtain ⟨go2, out, i2⟩ := x17
      replace hK : ((i2 : Nat) : Int) ≤ cel n xs.length ∧ gOk 1 go2 out.length ∧ out.length = i2 ∧ ∀ k, k < out.length → cellOk xs n k (out.getD k (saNil, [])) := hK
      obtain ⟨hK1, hK2, hK3, hK4⟩ := hK
      refine J.sreg ?_
      refine RN.bq (no 1) [1, 6, 9, 49, 50, 51] [] 1 [(1, .int .i64 ((n : Nat) : Int)), (6, sl (glS go) dv.length), (9, sl (glS go2) out.length), (49, .int .i64 (cel ((n : Nat) : Int) xs.length)), (50, .int .i64 ((i2 : Nat) : Int)), (51, .bool (decide (((i2 : Nat) : Int) < (cel ((n : Nat) : Int) xs.length))))] k_ ?_
      refine RN.fin k_ ?_
      refine J.seq ?_
      refine J.cond (decide (((i2 : Nat) : Int) < (cel ((n : Nat) : Int) xs.length))) k_ (fun c18 => ?_) (fun c18 => ?_)
      ·replace c18 := of_decide_eq_true c18
       refine J.skip ?_
       refine KN.next ?_
       refine J.seq ?_
       refine J.block ?_
       refine J.sreg ?_
       refine RN.bq (no 2) [1, 6, 9, 10, 49, 50] [] 2 [(1, .int .i64 ((n : Nat) : Int)), (6, sl (glS go) dv.length), (9, sl (glS go2) out.length), (10, .int .i64 ((i2 : Nat) : Int)), (49, .int .i64 (cel ((n : Nat) : Int) xs.length)), (50, .int .i64 ((i2 : Nat) : Int))] k_ ?_
       refine RN.fs k_ ?_
       refine RN.bq (no 1) [1, 6, 9, 10, 11, 49, 50] [] 1 [(1, .int .i64 ((n : Nat) : Int)), (6, sl (glS go) dv.length), (9, sl (glS go2) out.length), (10, .int .i64 ((i2 : Nat) : Int)), (11, .slice none 0 0), (49, .int .i64 (cel ((n : Nat) : Int) xs.length)), (50, .int .i64 ((i2 : Nat) : Int))] k_ ?_
       refine RN.fin k_ ?_
       refine J.seq ?_
       refine J.sreg ?_
       refine RN.bq (no 3) [1, 6, 9, 10, 11, 49, 50, 53, 54, 55] [] 3 [(1, .int .i64 ((n : Nat) : Int)), (6, sl (glS go) dv.length), (9, sl (glS go2) out.length), (10, .int .i64 ((i2 : Nat) : Int)), (11, .slice none 0 0), (49, .int .i64 (cel ((n : Nat) : Int) xs.length)), (50, .int .i64 ((i2 : Nat) : Int)), (53, sl (glS go) dv.length), (54, .int .i64 ((dv.length : Nat) : Int)), (55, .int .i64 0)] k_ ?_
       refine RN.fin k_ ?_
       refine J.block ?_
       refine J.also (allL elv ([] : List QV)) (fun w h => allL_nil elv w) ?_
       refine J.loop (ι := (Option GB) × (List QV) × (Nat) × (Nat)) (fun x => x.2.2.1 ≤ dv.length ∧ gOk 6 x.1 x.2.1.length ∧ x.2.1.length = x.2.2.1 ∧ x.2.2.2 = i2 / n ^ x.2.2.1 ∧ ∀ k, k < x.2.1.length → celEl xs n i2 k (x.2.1.getD k qv0)) (fun x => dv.length - x.2.2.1) (fun x => [(1, .int .i64 ((n : Nat) : Int)), (6, sl (glS go) dv.length), (9, sl (glS go2) out.length), (10, .int .i64 ((x.2.2.2 : Nat) : Int)), (11, sl (glS x.1) x.2.1.length), (49, .int .i64 (cel ((n : Nat) : Int) xs.length)), (50, .int .i64 ((i2 : Nat) : Int)), (53, sl (glS go) dv.length), (54, .int .i64 ((dv.length : Nat) : Int)), (55, .int .i64 ((x.2.2.1 : Nat) : Int))]) (fun x => [] ++ (glM x.1 (encv x.2.1) 43 ++ (glM go2 (encw out) 31 ++ ([])))) (fun x => [allL elv x.2.1, fL elw (glS go) dv, allL elw out, allL elw dv, fL elv s xs]) (none, ([] : List QV), 0, i2) [1, 6, 9, 10, 11, 49, 50, 53, 54, 55] [0, 1, 2, 3, 4] (⟨Nat.zero_le _, rfl, rfl, by simp, fun k h => absurd h (Nat.not_lt_zero _)⟩) k_ (by first | rfl | (simp only [encQ_zero]; done) | (simp only [encQ_zero]; rfl)) (by rfl) (fun x19 hJ => ?_)
       obtain ⟨go3, row, j, q⟩ := x19
       replace hJ : j ≤ dv.length ∧ gOk 6 go3 row.length ∧ row.length = j ∧ q = i2 / n ^ j ∧ ∀ k, k < row.length → celEl xs n i2 k (row.getD k qv0) := hJ
       obtain ⟨hJ1, hJ2, hJ3, hJ4, hJ5⟩ := hJ
       have hqb : q ≤ 4096 := by rw [hJ4]; exact Nat.le_trans (Nat.div_le_self _ _) (by omega)
       have hqm : q % n < n := Nat.mod_lt _ hn
       have hqd : q / n ≤ q := Nat.div_le_self _ _
       have hqd2 : (0 : Int) ≤ (q : Int) / (n : Int) := Int.ediv_nonneg (by omega) (by omega)
       have hdj : j < dv.length → (dv.getD j (saNil, [])).2.length = n := fun h => (hI4 j h).1
       refine J.sreg ?_
       refine RN.bq (no 1) [1, 6, 9, 10, 11, 49, 50, 53, 54, 55, 56] [] 1 [(1, .int .i64 ((n : Nat) : Int)), (6, sl (glS go) dv.length), (9, sl (glS go2) out.length), (10, .int .i64 ((q : Nat) : Int)), (11, sl (glS go3) row.length), (49, .int .i64 (cel ((n : Nat) : Int) xs.length)), (50, .int .i64 ((i2 : Nat) : Int)), (53, sl (glS go) dv.length), (54, .int .i64 ((dv.length : Nat) : Int)), (55, .int .i64 ((j : Nat) : Int)), (56, .bool (decide (((j : Nat) : Int) < ((dv.length : Nat) : Int))))] k_ ?_
       refine RN.fin k_ ?_
       refine J.seq ?_
       refine J.cond (decide (((j : Nat) : Int) < ((dv.length : Nat) : Int))) k_ (fun c20 => ?_) (fun c20 => ?_)
       ·replace c20 := of_decide_eq_true c20
        refine J.skip ?_
        refine KN.next ?_
        refine J.seq ?_
        refine J.block ?_
        refine J.sreg ?_
        refine RN.val _ k_ k_ (q_lidx (t := 54) (x := (.tmp 53)) (ix := (.tmp 55)) (K := .i64) (i0 := ((j : Nat) : Int)) (m := j) (e := 31) (E := elw) (sz := 1) (s := (glS go)) (xs := dv) 1 rfl rfl k_ k_ k_ k_ k_ (by omega) x_) ?_
        refine RN.val _ k_ k_ (q_lload1 (T := 31) (x := (.tmp 57)) (m := j) (s := (glS go)) (E := elw) (xs := dv) 1 rfl rfl k_ k_ k_ rfl x_) ?_
        refine RN.also (fL elv ((dv.getD j (saNil, [])).1) ((dv.getD j (saNil, [])).2)) (fun w h => (fL_elem (h _ (.tail _ ((.head _)))) x_)) ?_
        refine RN.bq (no 1) [1, 6, 9, 10, 11, 13, 49, 50, 53, 54, 55] [] 3 [(1, .int .i64 ((n : Nat) : Int)), (6, sl (glS go) dv.length), (9, sl (glS go2) out.length), (10, .int .i64 ((q : Nat) : Int)), (11, sl (glS go3) row.length), (13, sl ((dv.getD j (saNil, [])).1) ((dv.getD j (saNil, [])).2).length), (49, .int .i64 (cel ((n : Nat) : Int) xs.length)), (50, .int .i64 ((i2 : Nat) : Int)), (53, sl (glS go) dv.length), (54, .int .i64 ((dv.length : Nat) : Int)), (55, .int .i64 ((j : Nat) : Int))] k_ ?_
        refine RN.fin k_ ?_
        refine J.seq ?_
        refine J.regD k_ [15] ?_
        refine RD.bq (nl [0, 1, 2, 3, 7, 8, 9]) [1, 6, 9, 10, 49, 50, 53, 54, 55, 59, 60, 61, 62, 66, 67, 68] [] [(1, .int .i64 ((n : Nat) : Int)), (6, sl (glS go) dv.length), (9, sl (glS go2) out.length), (10, .int .i64 ((q : Nat) : Int)), (49, .int .i64 (cel ((n : Nat) : Int) xs.length)), (50, .int .i64 ((i2 : Nat) : Int)), (53, sl (glS go) dv.length), (54, .int .i64 ((dv.length : Nat) : Int)), (55, .int .i64 ((j : Nat) : Int)), (59, sl (glS go3) row.length), (60, sl ((dv.getD j (saNil, [])).1) ((dv.getD j (saNil, [])).2).length), (61, .int .i64 ((q : Nat) : Int)), (62, .int .i64 ((n : Nat) : Int)), (66, sl ((dv.getD j (saNil, [])).1) ((dv.getD j (saNil, [])).2).length), (67, .int .i64 ((q : Nat) : Int)), (68, .int .i64 ((n : Nat) : Int))] k_ k_ ?_
        refine RD.val (i := 4) _ k_ k_ k_ (q_rem (T := 3) (T' := 3) (x := (.tmp 61)) (y := (.tmp 62)) (k := .i64) (a := ((q : Nat) : Int)) (b := ((n : Nat) : Int)) k_ k_ k_ (by omega)) ?_
        rw [show Int.tmod ((q : Nat) : Int) ((n : Nat) : Int) = ((q % n : Nat) : Int) from by rw [show (n : Int) = ((n : Nat) : Int) from rfl, tmodn]]
        refine RD.val (i := 5) _ k_ k_ k_ (q_lidx (t := 31) (x := (.tmp 60)) (ix := (.tmp 63)) (K := .i64) (i0 := ((q % n : Nat) : Int)) (m := (q % n)) (e := 43) (E := elv) (sz := 6) (s := ((dv.getD j (saNil, [])).1)) (xs := ((dv.getD j (saNil, [])).2)) 0 rfl rfl k_ k_ k_ k_ k_ (by omega) (by (have := hdj (by omega); omega))) ?_
        refine RD.val (i := 6) _ k_ k_ k_ (q_lload (T := 43) (x := (.tmp 64)) (m := (q % n)) (s := ((dv.getD j (saNil, [])).1)) (E := elv) (sz := 6) (xs := ((dv.getD j (saNil, [])).2)) 0 rfl rfl k_ k_ k_ k_ (by (have := hdj (by omega); omega))) ?_
        refine RD.also (fRat ((((dv.getD j (saNil, [])).2).getD (q % n) qv0).1.1) (encQ ((((dv.getD j (saNil, [])).2).getD (q % n) qv0).1.2))) (fun w h => (fL_elem (h _ (.head _)) (by (have := hdj (by omega); omega))).1) k_ ?_
        refine RD.also (fRat ((((dv.getD j (saNil, [])).2).getD (q % n) qv0).2.1) (encQ ((((dv.getD j (saNil, [])).2).getD (q % n) qv0).2.2))) (fun w h => (fL_elem (h _ (.tail _ ((.head _)))) (by (have := hdj (by omega); omega))).2) k_ ?_
        refine RD.val (i := 10) _ k_ k_ k_ (q_rem (T := 3) (T' := 3) (x := (.tmp 67)) (y := (.tmp 68)) (k := .i64) (a := ((q : Nat) : Int)) (b := ((n : Nat) : Int)) k_ k_ k_ (by omega)) ?_
        rw [show Int.tmod ((q : Nat) : Int) ((n : Nat) : Int) = ((q % n : Nat) : Int) from by rw [show (n : Int) = ((n : Nat) : Int) from rfl, tmodn]]
        refine RD.val (i := 11) _ k_ k_ k_ (q_lidx (t := 31) (x := (.tmp 66)) (ix := (.tmp 69)) (K := .i64) (i0 := ((q % n : Nat) : Int)) (m := (q % n)) (e := 43) (E := elv) (sz := 6) (s := ((dv.getD j (saNil, [])).1)) (xs := ((dv.getD j (saNil, [])).2)) 2 rfl rfl k_ k_ k_ k_ k_ (by omega) (by (have := hdj (by omega); omega))) ?_
        refine RD.val (i := 12) _ k_ k_ k_ (q_lload (T := 43) (x := (.tmp 70)) (m := (q % n)) (s := ((dv.getD j (saNil, [])).1)) (E := elv) (sz := 6) (xs := ((dv.getD j (saNil, [])).2)) 2 rfl rfl k_ k_ k_ k_ (by (have := hdj (by omega); omega))) ?_
        refine RD.also (fRat ((((dv.getD j (saNil, [])).2).getD (q % n) qv0).1.1) (encQ ((((dv.getD j (saNil, [])).2).getD (q % n) qv0).1.2))) (fun w h => (fL_elem (h _ (.tail _ ((.tail _ ((.head _)))))) (by (have := hdj (by omega); omega))).1) k_ ?_
        refine RD.also (fRat ((((dv.getD j (saNil, [])).2).getD (q % n) qv0).2.1) (encQ ((((dv.getD j (saNil, [])).2).getD (q % n) qv0).2.2))) (fun w h => (fL_elem (h _ (.tail _ ((.tail _ ((.tail _ ((.head _)))))))) (by (have := hdj (by omega); omega))).2) k_ ?_
        refine RD.call (i := 13) (iv_Hull ((((dv.getD j (saNil, [])).2).getD (q % n) qv0).1.1) ((((dv.getD j (saNil, [])).2).getD (q % n) qv0).1.2) ((((dv.getD j (saNil, [])).2).getD (q % n) qv0).2.1) ((((dv.getD j (saNil, [])).2).getD (q % n) qv0).2.2) ((((dv.getD j (saNil, [])).2).getD (q % n) qv0).1.1) ((((dv.getD j (saNil, [])).2).getD (q % n) qv0).1.2) ((((dv.getD j (saNil, [])).2).getD (q % n) qv0).2.1) ((((dv.getD j (saNil, [])).2).getD (q % n) qv0).2.2) y_sg_Cells y_sg_Cells y_sg_Cells y_sg_Cells) [1, 0, 1, 0] k_ k_ k_ k_ k_ rfl (fun y21 _ => ?_)
        refine RD.new (i := 14) (fun b => .slice (some ⟨b, 0, none⟩) 1 1) (.cells (encv ([((y21.1, ((foldLo (loQ ((((dv.getD j (saNil, [])).2).getD (q % n) qv0).1.2) ((((dv.getD j (saNil, [])).2).getD (q % n) qv0).2.2)) [hiQ ((((dv.getD j (saNil, [])).2).getD (q % n) qv0).1.2) ((((dv.getD j (saNil, [])).2).getD (q % n) qv0).2.2), loQ ((((dv.getD j (saNil, [])).2).getD (q % n) qv0).1.2) ((((dv.getD j (saNil, [])).2).getD (q % n) qv0).2.2), hiQ ((((dv.getD j (saNil, [])).2).getD (q % n) qv0).1.2) ((((dv.getD j (saNil, [])).2).getD (q % n) qv0).2.2)]) : Rat)), (y21.2, ((foldHi (loQ ((((dv.getD j (saNil, [])).2).getD (q % n) qv0).1.2) ((((dv.getD j (saNil, [])).2).getD (q % n) qv0).2.2)) [hiQ ((((dv.getD j (saNil, [])).2).getD (q % n) qv0).1.2) ((((dv.getD j (saNil, [])).2).getD (q % n) qv0).2.2), loQ ((((dv.getD j (saNil, [])).2).getD (q % n) qv0).1.2) ((((dv.getD j (saNil, [])).2).getD (q % n) qv0).2.2), hiQ ((((dv.getD j (saNil, [])).2).getD (q % n) qv0).1.2) ((((dv.getD j (saNil, [])).2).getD (q % n) qv0).2.2)]) : Rat)))] : List QV)) 43 (0, 0)) k_ k_ k_ k_ (fun w => by kernel_rfl) (fun b22 => ?_)
        refine RD.also (allL elv ([((y21.1, ((foldLo (loQ ((((dv.getD j (saNil, [])).2).getD (q % n) qv0).1.2) ((((dv.getD j (saNil, [])).2).getD (q % n) qv0).2.2)) [hiQ ((((dv.getD j (saNil, [])).2).getD (q % n) qv0).1.2) ((((dv.getD j (saNil, [])).2).getD (q % n) qv0).2.2), loQ ((((dv.getD j (saNil, [])).2).getD (q % n) qv0).1.2) ((((dv.getD j (saNil, [])).2).getD (q % n) qv0).2.2), hiQ ((((dv.getD j (saNil, [])).2).getD (q % n) qv0).1.2) ((((dv.getD j (saNil, [])).2).getD (q % n) qv0).2.2)]) : Rat)), (y21.2, ((foldHi (loQ ((((dv.getD j (saNil, [])).2).getD (q % n) qv0).1.2) ((((dv.getD j (saNil, [])).2).getD (q % n) qv0).2.2)) [hiQ ((((dv.getD j (saNil, [])).2).getD (q % n) qv0).1.2) ((((dv.getD j (saNil, [])).2).getD (q % n) qv0).2.2), loQ ((((dv.getD j (saNil, [])).2).getD (q % n) qv0).1.2) ((((dv.getD j (saNil, [])).2).getD (q % n) qv0).2.2), hiQ ((((dv.getD j (saNil, [])).2).getD (q % n) qv0).1.2) ((((dv.getD j (saNil, [])).2).getD (q % n) qv0).2.2)]) : Rat)))] : List QV)) (fun w h => allL_cons (And.intro (h _ (.head _)) (h _ (.tail _ ((.head _))))) (allL_nil _ _)) k_ ?_
        refine RD.ot (i := 15) k_ k_ k_ k_ (ot_lapp (z := .agg #[.bool false, .slice none 0 0, .slice none 0 0, .bool false, .slice none 0 0, .slice none 0 0]) (E := elv) (sz := 6) (T := 31) (e := 43) (by_ := 112) (mi := 0) (b := b22) (k := 1) (c := 1) (x := (.tmp 59)) (y := (.tmp 73)) (go := go3) (xs := row) (ys := ([((y21.1, ((foldLo (loQ ((((dv.getD j (saNil, [])).2).getD (q % n) qv0).1.2) ((((dv.getD j (saNil, [])).2).getD (q % n) qv0).2.2)) [hiQ ((((dv.getD j (saNil, [])).2).getD (q % n) qv0).1.2) ((((dv.getD j (saNil, [])).2).getD (q % n) qv0).2.2), loQ ((((dv.getD j (saNil, [])).2).getD (q % n) qv0).1.2) ((((dv.getD j (saNil, [])).2).getD (q % n) qv0).2.2), hiQ ((((dv.getD j (saNil, [])).2).getD (q % n) qv0).1.2) ((((dv.getD j (saNil, [])).2).getD (q % n) qv0).2.2)]) : Rat)), (y21.2, ((foldHi (loQ ((((dv.getD j (saNil, [])).2).getD (q % n) qv0).1.2) ((((dv.getD j (saNil, [])).2).getD (q % n) qv0).2.2)) [hiQ ((((dv.getD j (saNil, [])).2).getD (q % n) qv0).1.2) ((((dv.getD j (saNil, [])).2).getD (q % n) qv0).2.2), loQ ((((dv.getD j (saNil, [])).2).getD (q % n) qv0).1.2) ((((dv.getD j (saNil, [])).2).getD (q % n) qv0).2.2), hiQ ((((dv.getD j (saNil, [])).2).getD (q % n) qv0).1.2) ((((dv.getD j (saNil, [])).2).getD (q % n) qv0).2.2)]) : Rat)))] : List QV)) [(b22, .cells (encv ([((y21.1, ((foldLo (loQ ((((dv.getD j (saNil, [])).2).getD (q % n) qv0).1.2) ((((dv.getD j (saNil, [])).2).getD (q % n) qv0).2.2)) [hiQ ((((dv.getD j (saNil, [])).2).getD (q % n) qv0).1.2) ((((dv.getD j (saNil, [])).2).getD (q % n) qv0).2.2), loQ ((((dv.getD j (saNil, [])).2).getD (q % n) qv0).1.2) ((((dv.getD j (saNil, [])).2).getD (q % n) qv0).2.2), hiQ ((((dv.getD j (saNil, [])).2).getD (q % n) qv0).1.2) ((((dv.getD j (saNil, [])).2).getD (q % n) qv0).2.2)]) : Rat)), (y21.2, ((foldHi (loQ ((((dv.getD j (saNil, [])).2).getD (q % n) qv0).1.2) ((((dv.getD j (saNil, [])).2).getD (q % n) qv0).2.2)) [hiQ ((((dv.getD j (saNil, [])).2).getD (q % n) qv0).1.2) ((((dv.getD j (saNil, [])).2).getD (q % n) qv0).2.2), loQ ((((dv.getD j (saNil, [])).2).getD (q % n) qv0).1.2) ((((dv.getD j (saNil, [])).2).getD (q % n) qv0).2.2), hiQ ((((dv.getD j (saNil, [])).2).getD (q % n) qv0).1.2) ((((dv.getD j (saNil, [])).2).getD (q % n) qv0).2.2)]) : Rat)))] : List QV)) 43 (0, 0))] (glM go2 (encw out) 31 ++ ([])) rfl rfl rfl k_ k_ k_ k_ k_ k_ rfl rfl (by first | decide | exact Nat.zero_lt_one | simp) (by assumption) x_ x_) (fun g23 hg24 => ?_)
        refine RD.also (allL elv (row ++ ([((y21.1, ((foldLo (loQ ((((dv.getD j (saNil, [])).2).getD (q % n) qv0).1.2) ((((dv.getD j (saNil, [])).2).getD (q % n) qv0).2.2)) [hiQ ((((dv.getD j (saNil, [])).2).getD (q % n) qv0).1.2) ((((dv.getD j (saNil, [])).2).getD (q % n) qv0).2.2), loQ ((((dv.getD j (saNil, [])).2).getD (q % n) qv0).1.2) ((((dv.getD j (saNil, [])).2).getD (q % n) qv0).2.2), hiQ ((((dv.getD j (saNil, [])).2).getD (q % n) qv0).1.2) ((((dv.getD j (saNil, [])).2).getD (q % n) qv0).2.2)]) : Rat)), (y21.2, ((foldHi (loQ ((((dv.getD j (saNil, [])).2).getD (q % n) qv0).1.2) ((((dv.getD j (saNil, [])).2).getD (q % n) qv0).2.2)) [hiQ ((((dv.getD j (saNil, [])).2).getD (q % n) qv0).1.2) ((((dv.getD j (saNil, [])).2).getD (q % n) qv0).2.2), loQ ((((dv.getD j (saNil, [])).2).getD (q % n) qv0).1.2) ((((dv.getD j (saNil, [])).2).getD (q % n) qv0).2.2), hiQ ((((dv.getD j (saNil, [])).2).getD (q % n) qv0).1.2) ((((dv.getD j (saNil, [])).2).getD (q % n) qv0).2.2)]) : Rat)))] : List QV))) (fun w h => allL_app (h _ (.tail _ ((.tail _ ((.tail _ ((.tail _ ((.tail _ ((.tail _ ((.tail _ ((.tail _ ((.head _)))))))))))))))))) (h _ (.head _))) k_ ?_
        refine RD.bq (nl [16]) [1, 6, 9, 10, 11, 49, 50, 53, 54, 55] [] [(1, .int .i64 ((n : Nat) : Int)), (6, sl (glS go) dv.length), (9, sl (glS go2) out.length), (10, .int .i64 ((q : Nat) : Int)), (11, sl (glS (some g23)) (row ++ ([((y21.1, ((foldLo (loQ ((((dv.getD j (saNil, [])).2).getD (q % n) qv0).1.2) ((((dv.getD j (saNil, [])).2).getD (q % n) qv0).2.2)) [hiQ ((((dv.getD j (saNil, [])).2).getD (q % n) qv0).1.2) ((((dv.getD j (saNil, [])).2).getD (q % n) qv0).2.2), loQ ((((dv.getD j (saNil, [])).2).getD (q % n) qv0).1.2) ((((dv.getD j (saNil, [])).2).getD (q % n) qv0).2.2), hiQ ((((dv.getD j (saNil, [])).2).getD (q % n) qv0).1.2) ((((dv.getD j (saNil, [])).2).getD (q % n) qv0).2.2)]) : Rat)), (y21.2, ((foldHi (loQ ((((dv.getD j (saNil, [])).2).getD (q % n) qv0).1.2) ((((dv.getD j (saNil, [])).2).getD (q % n) qv0).2.2)) [hiQ ((((dv.getD j (saNil, [])).2).getD (q % n) qv0).1.2) ((((dv.getD j (saNil, [])).2).getD (q % n) qv0).2.2), loQ ((((dv.getD j (saNil, [])).2).getD (q % n) qv0).1.2) ((((dv.getD j (saNil, [])).2).getD (q % n) qv0).2.2), hiQ ((((dv.getD j (saNil, [])).2).getD (q % n) qv0).1.2) ((((dv.getD j (saNil, [])).2).getD (q % n) qv0).2.2)]) : Rat)))] : List QV)).length), (49, .int .i64 (cel ((n : Nat) : Int) xs.length)), (50, .int .i64 ((i2 : Nat) : Int)), (53, sl (glS go) dv.length), (54, .int .i64 ((dv.length : Nat) : Int)), (55, .int .i64 ((j : Nat) : Int))] k_ k_ ?_
        refine RD.done k_ ?_
        refine KN.next ?_
        refine J.regN ?_
        refine RN.bq (no 2) [1, 6, 9, 11, 49, 50, 53, 54, 55, 75, 76] [] 2 [(1, .int .i64 ((n : Nat) : Int)), (6, sl (glS go) dv.length), (9, sl (glS go2) out.length), (11, sl (glS (some g23)) (row ++ ([((y21.1, ((foldLo (loQ ((((dv.getD j (saNil, [])).2).getD (q % n) qv0).1.2) ((((dv.getD j (saNil, [])).2).getD (q % n) qv0).2.2)) [hiQ ((((dv.getD j (saNil, [])).2).getD (q % n) qv0).1.2) ((((dv.getD j (saNil, [])).2).getD (q % n) qv0).2.2), loQ ((((dv.getD j (saNil, [])).2).getD (q % n) qv0).1.2) ((((dv.getD j (saNil, [])).2).getD (q % n) qv0).2.2), hiQ ((((dv.getD j (saNil, [])).2).getD (q % n) qv0).1.2) ((((dv.getD j (saNil, [])).2).getD (q % n) qv0).2.2)]) : Rat)), (y21.2, ((foldHi (loQ ((((dv.getD j (saNil, [])).2).getD (q % n) qv0).1.2) ((((dv.getD j (saNil, [])).2).getD (q % n) qv0).2.2)) [hiQ ((((dv.getD j (saNil, [])).2).getD (q % n) qv0).1.2) ((((dv.getD j (saNil, [])).2).getD (q % n) qv0).2.2), loQ ((((dv.getD j (saNil, [])).2).getD (q % n) qv0).1.2) ((((dv.getD j (saNil, [])).2).getD (q % n) qv0).2.2), hiQ ((((dv.getD j (saNil, [])).2).getD (q % n) qv0).1.2) ((((dv.getD j (saNil, [])).2).getD (q % n) qv0).2.2)]) : Rat)))] : List QV)).length), (49, .int .i64 (cel ((n : Nat) : Int) xs.length)), (50, .int .i64 ((i2 : Nat) : Int)), (53, sl (glS go) dv.length), (54, .int .i64 ((dv.length : Nat) : Int)), (55, .int .i64 ((j : Nat) : Int)), (75, .int .i64 ((q : Nat) : Int)), (76, .int .i64 ((n : Nat) : Int))] k_ ?_
        refine RN.val _ k_ k_ (q_quo (T := 3) (T' := 3) (x := (.tmp 75)) (y := (.tmp 76)) (k := .i64) (a := ((q : Nat) : Int)) (b := ((n : Nat) : Int)) k_ k_ k_ (by omega)) ?_
        rw [show IntKind.i64.wrap (Int.tdiv ((q : Nat) : Int) ((n : Nat) : Int)) = ((q / n : Nat) : Int) from by rw [show (n : Int) = ((n : Nat) : Int) from rfl, tdivn, IntKind.wrap_i64]; omega]
        refine RN.bq (no 1) [1, 6, 9, 10, 11, 49, 50, 53, 54, 55] [] 4 [(1, .int .i64 ((n : Nat) : Int)), (6, sl (glS go) dv.length), (9, sl (glS go2) out.length), (10, .int .i64 ((q / n : Nat) : Int)), (11, sl (glS (some g23)) (row ++ ([((y21.1, ((foldLo (loQ ((((dv.getD j (saNil, [])).2).getD (q % n) qv0).1.2) ((((dv.getD j (saNil, [])).2).getD (q % n) qv0).2.2)) [hiQ ((((dv.getD j (saNil, [])).2).getD (q % n) qv0).1.2) ((((dv.getD j (saNil, [])).2).getD (q % n) qv0).2.2), loQ ((((dv.getD j (saNil, [])).2).getD (q % n) qv0).1.2) ((((dv.getD j (saNil, [])).2).getD (q % n) qv0).2.2), hiQ ((((dv.getD j (saNil, [])).2).getD (q % n) qv0).1.2) ((((dv.getD j (saNil, [])).2).getD (q % n) qv0).2.2)]) : Rat)), (y21.2, ((foldHi (loQ ((((dv.getD j (saNil, [])).2).getD (q % n) qv0).1.2) ((((dv.getD j (saNil, [])).2).getD (q % n) qv0).2.2)) [hiQ ((((dv.getD j (saNil, [])).2).getD (q % n) qv0).1.2) ((((dv.getD j (saNil, [])).2).getD (q % n) qv0).2.2), loQ ((((dv.getD j (saNil, [])).2).getD (q % n) qv0).1.2) ((((dv.getD j (saNil, [])).2).getD (q % n) qv0).2.2), hiQ ((((dv.getD j (saNil, [])).2).getD (q % n) qv0).1.2) ((((dv.getD j (saNil, [])).2).getD (q % n) qv0).2.2)]) : Rat)))] : List QV)).length), (49, .int .i64 (cel ((n : Nat) : Int) xs.length)), (50, .int .i64 ((i2 : Nat) : Int)), (53, sl (glS go) dv.length), (54, .int .i64 ((dv.length : Nat) : Int)), (55, .int .i64 ((j : Nat) : Int))] k_ ?_
        refine RN.done k_ ?_
        refine KN.blk ?_
        refine KN.next ?_
        refine J.regN ?_
        refine RN.bq (no 1) [1, 6, 9, 10, 11, 49, 50, 53, 54, 78] [] 1 [(1, .int .i64 ((n : Nat) : Int)), (6, sl (glS go) dv.length), (9, sl (glS go2) out.length), (10, .int .i64 ((q / n : Nat) : Int)), (11, sl (glS (some g23)) (row ++ ([((y21.1, ((foldLo (loQ ((((dv.getD j (saNil, [])).2).getD (q % n) qv0).1.2) ((((dv.getD j (saNil, [])).2).getD (q % n) qv0).2.2)) [hiQ ((((dv.getD j (saNil, [])).2).getD (q % n) qv0).1.2) ((((dv.getD j (saNil, [])).2).getD (q % n) qv0).2.2), loQ ((((dv.getD j (saNil, [])).2).getD (q % n) qv0).1.2) ((((dv.getD j (saNil, [])).2).getD (q % n) qv0).2.2), hiQ ((((dv.getD j (saNil, [])).2).getD (q % n) qv0).1.2) ((((dv.getD j (saNil, [])).2).getD (q % n) qv0).2.2)]) : Rat)), (y21.2, ((foldHi (loQ ((((dv.getD j (saNil, [])).2).getD (q % n) qv0).1.2) ((((dv.getD j (saNil, [])).2).getD (q % n) qv0).2.2)) [hiQ ((((dv.getD j (saNil, [])).2).getD (q % n) qv0).1.2) ((((dv.getD j (saNil, [])).2).getD (q % n) qv0).2.2), loQ ((((dv.getD j (saNil, [])).2).getD (q % n) qv0).1.2) ((((dv.getD j (saNil, [])).2).getD (q % n) qv0).2.2), hiQ ((((dv.getD j (saNil, [])).2).getD (q % n) qv0).1.2) ((((dv.getD j (saNil, [])).2).getD (q % n) qv0).2.2)]) : Rat)))] : List QV)).length), (49, .int .i64 (cel ((n : Nat) : Int) xs.length)), (50, .int .i64 ((i2 : Nat) : Int)), (53, sl (glS go) dv.length), (54, .int .i64 ((dv.length : Nat) : Int)), (78, .int .i64 (IntKind.i64.wrap (((j : Nat) : Int) + 1)))] k_ ?_
        rw [show IntKind.i64.wrap (((j : Nat) : Int) + 1) = ((j + 1 : Nat) : Int) from by rw [IntKind.wrap_i64]; omega]
        refine RN.bq (no 1) [1, 6, 9, 10, 11, 49, 50, 53, 54, 55] [] 2 [(1, .int .i64 ((n : Nat) : Int)), (6, sl (glS go) dv.length), (9, sl (glS go2) out.length), (10, .int .i64 ((q / n : Nat) : Int)), (11, sl (glS (some g23)) (row ++ ([((y21.1, ((foldLo (loQ ((((dv.getD j (saNil, [])).2).getD (q % n) qv0).1.2) ((((dv.getD j (saNil, [])).2).getD (q % n) qv0).2.2)) [hiQ ((((dv.getD j (saNil, [])).2).getD (q % n) qv0).1.2) ((((dv.getD j (saNil, [])).2).getD (q % n) qv0).2.2), loQ ((((dv.getD j (saNil, [])).2).getD (q % n) qv0).1.2) ((((dv.getD j (saNil, [])).2).getD (q % n) qv0).2.2), hiQ ((((dv.getD j (saNil, [])).2).getD (q % n) qv0).1.2) ((((dv.getD j (saNil, [])).2).getD (q % n) qv0).2.2)]) : Rat)), (y21.2, ((foldHi (loQ ((((dv.getD j (saNil, [])).2).getD (q % n) qv0).1.2) ((((dv.getD j (saNil, [])).2).getD (q % n) qv0).2.2)) [hiQ ((((dv.getD j (saNil, [])).2).getD (q % n) qv0).1.2) ((((dv.getD j (saNil, [])).2).getD (q % n) qv0).2.2), loQ ((((dv.getD j (saNil, [])).2).getD (q % n) qv0).1.2) ((((dv.getD j (saNil, [])).2).getD (q % n) qv0).2.2), hiQ ((((dv.getD j (saNil, [])).2).getD (q % n) qv0).1.2) ((((dv.getD j (saNil, [])).2).getD (q % n) qv0).2.2)]) : Rat)))] : List QV)).length), (49, .int .i64 (cel ((n : Nat) : Int) xs.length)), (50, .int .i64 ((i2 : Nat) : Int)), (53, sl (glS go) dv.length), (54, .int .i64 ((dv.length : Nat) : Int)), (55, .int .i64 ((j + 1 : Nat) : Int))] k_ ?_
        refine RN.done k_ ?_
        refine KN.dropF 1 ?_
        refine KN.roundE (some g23, row ++ ([((y21.1, ((foldLo (loQ ((((dv.getD j (saNil, [])).2).getD (q % n) qv0).1.2) ((((dv.getD j (saNil, [])).2).getD (q % n) qv0).2.2)) [hiQ ((((dv.getD j (saNil, [])).2).getD (q % n) qv0).1.2) ((((dv.getD j (saNil, [])).2).getD (q % n) qv0).2.2), loQ ((((dv.getD j (saNil, [])).2).getD (q % n) qv0).1.2) ((((dv.getD j (saNil, [])).2).getD (q % n) qv0).2.2), hiQ ((((dv.getD j (saNil, [])).2).getD (q % n) qv0).1.2) ((((dv.getD j (saNil, [])).2).getD (q % n) qv0).2.2)]) : Rat)), (y21.2, ((foldHi (loQ ((((dv.getD j (saNil, [])).2).getD (q % n) qv0).1.2) ((((dv.getD j (saNil, [])).2).getD (q % n) qv0).2.2)) [hiQ ((((dv.getD j (saNil, [])).2).getD (q % n) qv0).1.2) ((((dv.getD j (saNil, [])).2).getD (q % n) qv0).2.2), loQ ((((dv.getD j (saNil, [])).2).getD (q % n) qv0).1.2) ((((dv.getD j (saNil, [])).2).getD (q % n) qv0).2.2), hiQ ((((dv.getD j (saNil, [])).2).getD (q % n) qv0).1.2) ((((dv.getD j (saNil, [])).2).getD (q % n) qv0).2.2)]) : Rat)))] : List QV), j + 1, q / n) [1, 6, 9, 10, 11, 49, 50, 53, 54, 55] [0, 10, 11, 12, 13] (l2 := [(1, .int .i64 ((n : Nat) : Int)), (6, sl (glS go) dv.length), (9, sl (glS go2) out.length), (10, .int .i64 ((q / n : Nat) : Int)), (11, sl (glS (some g23)) (row ++ ([((y21.1, ((foldLo (loQ ((((dv.getD j (saNil, [])).2).getD (q % n) qv0).1.2) ((((dv.getD j (saNil, [])).2).getD (q % n) qv0).2.2)) [hiQ ((((dv.getD j (saNil, [])).2).getD (q % n) qv0).1.2) ((((dv.getD j (saNil, [])).2).getD (q % n) qv0).2.2), loQ ((((dv.getD j (saNil, [])).2).getD (q % n) qv0).1.2) ((((dv.getD j (saNil, [])).2).getD (q % n) qv0).2.2), hiQ ((((dv.getD j (saNil, [])).2).getD (q % n) qv0).1.2) ((((dv.getD j (saNil, [])).2).getD (q % n) qv0).2.2)]) : Rat)), (y21.2, ((foldHi (loQ ((((dv.getD j (saNil, [])).2).getD (q % n) qv0).1.2) ((((dv.getD j (saNil, [])).2).getD (q % n) qv0).2.2)) [hiQ ((((dv.getD j (saNil, [])).2).getD (q % n) qv0).1.2) ((((dv.getD j (saNil, [])).2).getD (q % n) qv0).2.2), loQ ((((dv.getD j (saNil, [])).2).getD (q % n) qv0).1.2) ((((dv.getD j (saNil, [])).2).getD (q % n) qv0).2.2), hiQ ((((dv.getD j (saNil, [])).2).getD (q % n) qv0).1.2) ((((dv.getD j (saNil, [])).2).getD (q % n) qv0).2.2)]) : Rat)))] : List QV)).length), (49, .int .i64 (cel ((n : Nat) : Int) xs.length)), (50, .int .i64 ((i2 : Nat) : Int)), (53, sl (glS go) dv.length), (54, .int .i64 ((dv.length : Nat) : Int)), (55, .int .i64 ((j + 1 : Nat) : Int))]) (by (try dsimp only); omega) (by (try dsimp only); exact ⟨by omega, by assumption, by simp; omega, div_next hJ4, snocP (P := fun k (e : QV) => celEl xs n i2 k e) hJ5 (by rw [hJ3]; exact celEl_of hJ4 hn (hI4 j (by omega)) rfl rfl)⟩) k_ (by rfl) (by rfl) (by rfl)
       ·replace c20 := of_decide_eq_false c20
        refine J.exit (KX.next (KX.next (KX.hit ?_)))
        refine KN.next ?_
        refine J.regN ?_
        refine RN.bq (no 2) [1, 6, 49, 50, 79, 80] [] 2 [(1, .int .i64 ((n : Nat) : Int)), (6, sl (glS go) dv.length), (49, .int .i64 (cel ((n : Nat) : Int) xs.length)), (50, .int .i64 ((i2 : Nat) : Int)), (79, sl (glS go2) out.length), (80, sl (glS go3) row.length)] k_ ?_
        refine RN.shareG [] (glM go2 (encw out) 31 ++ ([])) rfl (fL elv (glS go3) row) (fun w hb h => fL_gl hb (h _ (.head _)) (by assumption) x_) ?_
        refine RN.new (fun b => .slice (some ⟨b, 0, none⟩) 1 1) (.cells (encw ([(glS go3, row)] : List QVRow)) 31 (0, 0)) k_ k_ (fun w => by kernel_rfl) (fun b26 => ?_)
        refine RN.also (allL elw ([(glS go3, row)] : List QVRow)) (fun w h => allL_cons (h _ (.head _)) (allL_nil _ _)) ?_
        refine RN.ot k_ k_ (ot_lapp (z := .slice none 0 0) (E := elw) (sz := 1) (T := 54) (e := 31) (by_ := 24) (mi := 0) (b := b26) (k := 1) (c := 1) (x := (.tmp 79)) (y := (.tmp 81)) (go := go2) (xs := out) (ys := ([(glS go3, row)] : List QVRow)) [(b26, .cells (encw ([(glS go3, row)] : List QVRow)) 31 (0, 0))] ([]) rfl rfl rfl k_ k_ k_ k_ k_ k_ rfl rfl (by first | decide | exact Nat.zero_lt_one | simp) (by assumption) x_ x_) (fun g27 hg28 => ?_)
        refine RN.also (allL elw (out ++ ([(glS go3, row)] : List QVRow))) (fun w h => allL_app (h _ (.tail _ ((.tail _ ((.tail _ ((.tail _ ((.head _)))))))))) (h _ (.head _))) ?_
        refine RN.dropM 0 rfl ?_
        refine RN.bq (no 1) [1, 6, 9, 49, 50] [] 5 [(1, .int .i64 ((n : Nat) : Int)), (6, sl (glS go) dv.length), (9, sl (glS (some g27)) (out ++ ([(glS go3, row)] : List QVRow)).length), (49, .int .i64 (cel ((n : Nat) : Int) xs.length)), (50, .int .i64 ((i2 : Nat) : Int))] k_ ?_
        refine RN.done k_ ?_
        refine KN.blk ?_
        refine KN.next ?_
        refine J.regN ?_
        refine RN.bq (no 1) [1, 6, 9, 49, 83] [] 1 [(1, .int .i64 ((n : Nat) : Int)), (6, sl (glS go) dv.length), (9, sl (glS (some g27)) (out ++ ([(glS go3, row)] : List QVRow)).length), (49, .int .i64 (cel ((n : Nat) : Int) xs.length)), (83, .int .i64 (IntKind.i64.wrap (((i2 : Nat) : Int) + 1)))] k_ ?_
        rw [show IntKind.i64.wrap (((i2 : Nat) : Int) + 1) = ((i2 + 1 : Nat) : Int) from by rw [IntKind.wrap_i64]; omega]
        refine RN.bq (no 1) [1, 6, 9, 49, 50] [] 2 [(1, .int .i64 ((n : Nat) : Int)), (6, sl (glS go) dv.length), (9, sl (glS (some g27)) (out ++ ([(glS go3, row)] : List QVRow)).length), (49, .int .i64 (cel ((n : Nat) : Int) xs.length)), (50, .int .i64 ((i2 + 1 : Nat) : Int))] k_ ?_
        refine RN.done k_ ?_
        refine KN.roundE (some g27, out ++ ([(glS go3, row)] : List QVRow), i2 + 1) [1, 6, 9, 49, 50] [4, 0, 6, 7] (l2 := [(1, .int .i64 ((n : Nat) : Int)), (6, sl (glS go) dv.length), (9, sl (glS (some g27)) (out ++ ([(glS go3, row)] : List QVRow)).length), (49, .int .i64 (cel ((n : Nat) : Int) xs.length)), (50, .int .i64 ((i2 + 1 : Nat) : Int))]) (by (try dsimp only); omega) (by (try dsimp only); exact ⟨by omega, by assumption, by simp; omega, snocP (P := fun k (e : QVRow) => cellOk xs n k e) hK4 (by rw [hK3]; exact ⟨by show row.length = _; omega, hJ5⟩)⟩) k_ (by rfl) (by rfl) (by rfl)
      ·replace c18 := of_decide_eq_false c18
       refine J.exit (KX.next (KX.next (KX.hit ?_)))
       refine KN.next ?_
       refine J.sreg ?_
       refine RN.bq (no 3) [4, 5] [] 3 [(4, sl (glS go2) out.length), (5, .int .i64 0)] k_ ?_
       refine RN.fin k_ ?_
       refine J.shareG [] ([]) rfl (fL elw (glS go2) out) (fun w hb h => fL_gl hb (h _ (.tail _ ((.head _)))) (by assumption) x_) ?_
       refine J.ret (KR.ret (v := .tuple #[sl (glS go2) out.length, .int .i64 0]) (⟨glS go2, out⟩) [none, none] [0] [] k_ rfl (⟨by show ((out.length : Nat) : Int) = _; omega, hK4⟩) rfl)
def leastQ (a b : Rat) : Rat := if ¬ 0 < loQ a b ∧ ¬ hiQ a b < 0 then 0 else if 0 < a then a else -b
def subIv (r : Rat × Rat) (v : Rat) (e : QV) : Rat × Rat := (loQ r.1 r.2 - hiQ (mulLo v v (loQ e.1.2 e.2.2) (hiQ e.1.2 e.2.2)) (mulHi v v (loQ e.1.2 e.2.2) (hiQ e.1.2 e.2.2)), hiQ r.1 r.2 - loQ (mulLo v v (loQ e.1.2 e.2.2) (hiQ e.1.2 e.2.2)) (mulHi v v (loQ e.1.2 e.2.2) (hiQ e.1.2 e.2.2)))
def rIv (row : List QR) (y : Rat) (cell : List QV) : Nat → Rat × Rat
  | 0 => (y, y)
  | j + 1 => subIv (rIv row y cell j) (row.getD j qr0).2 (cell.getD j qv0)
def bndQ (row : List QR) (y : Rat) (cell : List QV) : Rat := leastQ (loQ (rIv row y cell row.length).1 (rIv row y cell row.length).2) (hiQ (rIv row y cell row.length).1 (rIv row y cell row.length).2)
def smR (xs : List QR) : Prop := ∀ i, i < xs.length → Q 100 (xs.getD i qr0).2
def smV (xs : List QV) : Prop := ∀ i, i < xs.length → Q 100 (xs.getD i qv0).1.2 ∧ Q 100 (xs.getD i qv0).2.2
theorem Q_foldLo {k : Nat} : ∀ {l : List Rat} {a : Rat}, Q k a → (∀ x ∈ l, Q k x) → Q k (foldLo a l)
  | [], _, h, _ => h
  | x :: l, a, h, hl => by
    unfold foldLo; rw [List.foldl_cons]
    refine Q_foldLo (l := l) ?_ (fun z hz => hl z (List.mem_cons_of_mem _ hz))
    split
    · exact hl x List.mem_cons_self
    · exact h
theorem Q_foldHi {k : Nat} : ∀ {l : List Rat} {a : Rat}, Q k a → (∀ x ∈ l, Q k x) → Q k (foldHi a l)
  | [], _, h, _ => h
  | x :: l, a, h, hl => by
    unfold foldHi; rw [List.foldl_cons]
    refine Q_foldHi (l := l) ?_ (fun z hz => hl z (List.mem_cons_of_mem _ hz))
    split
    · exact hl x List.mem_cons_self
    · exact h
theorem Q_muls {a b c d : Rat} (ha : Q 100 a) (hb : Q 100 b) (hc : Q 100 c) (hd : Q 100 d) : Q 200 (mulLo a b c d) ∧ Q 200 (mulHi a b c d) := by
  have l1 := Q_lo2 (b := b) ha (by decide)
  have l2 := Q_lo2 (b := d) hc (by decide)
  have r1 := Q_hi2 (a := a) hb (by decide)
  have r2 := Q_hi2 (a := c) hd (by decide)
  have hm : ∀ x ∈ prods (loQ a b) (hiQ a b) (loQ c d) (hiQ c d), Q 200 x := fun x hx => by
    simp only [prods, List.mem_cons, List.not_mem_nil, or_false] at hx
    rcases hx with rfl | rfl | rfl
    · exact l1.mul r2
    · exact r1.mul l2
    · exact r1.mul r2
  exact ⟨Q_foldLo (l1.mul l2) hm, Q_foldHi (l1.mul l2) hm⟩
theorem Q_rIv {row : List QR} {y : Rat} {cell : List QV} (hr : smR row) (hy : Q 100 y) (hc : smV cell) (hl : row.length ≤ cell.length) : ∀ j, j ≤ row.length → Q (201 * j + 100) (rIv row y cell j).1 ∧ Q (201 * j + 100) (rIv row y cell j).2
  | 0, _ => ⟨hy, hy⟩
  | j + 1, h => by
    have ih := Q_rIv hr hy hc hl j (by omega)
    have hv := hr j (by omega)
    have he := hc j (by omega)
    have hm := Q_muls hv hv (Q_lo2 (b := (cell.getD j qv0).2.2) he.1 (by decide)) (Q_hi2 (a := (cell.getD j qv0).1.2) he.2 (by decide))
    exact ⟨((Q_lo2 ih.1 (by omega)).sub (Q_hi2 hm.2 (by decide))).le (by omega), ((Q_hi2 ih.2 (by omega)).sub (Q_lo2 hm.1 (by decide))).le (by omega)⟩
structure Q4 (e : QV) : Prop where
  h1 : Q 100 e.1.2
  h2 : Q 100 e.2.2
  h3 : Q 100 (loQ e.1.2 e.2.2)
  h4 : Q 100 (hiQ e.1.2 e.2.2)
theorem smV_all {cell : List QV} (hc : smV cell) : ∀ j, j < cell.length → Q4 (cell.getD j qv0) := fun j hj => ⟨(hc j hj).1, (hc j hj).2, Q_lo2 (hc j hj).1 (by decide), Q_hi2 (hc j hj).2 (by decide)⟩
theorem muls_all {row : List QR} {cell : List QV} (hr : smR row) (hc : smV cell) (hl : row.length ≤ cell.length) : ∀ j, j < row.length → Q 200 (mulLo (row.getD j qr0).2 (row.getD j qr0).2 (loQ (cell.getD j qv0).1.2 (cell.getD j qv0).2.2) (hiQ (cell.getD j qv0).1.2 (cell.getD j qv0).2.2)) ∧ Q 200 (mulHi (row.getD j qr0).2 (row.getD j qr0).2 (loQ (cell.getD j qv0).1.2 (cell.getD j qv0).2.2) (hiQ (cell.getD j qv0).1.2 (cell.getD j qv0).2.2)) := fun j hj => Q_muls (hr j hj) (hr j hj) (smV_all hc j (by omega)).h3 (smV_all hc j (by omega)).h4
theorem y_sg_least {p : Prop} (h : p := by first | assumption | exact Lb_toL _ | omega | (simp; done) | exact Q_0 (by decide) | exact RQ_z | exact Q.le ha (by decide) | exact Q.le hb (by decide)) : p := h
theorem sg_least (p : RA) (a : Rat) (u : RA) (b : Rat) (ha : Q 10000000 a) (hb : Q 10000000 b) : Spec Tryz.prog 68 #[.agg (ivC p (encQ a) u (encQ b))] [fRat p (encQ a), fRat u (encQ b)] (ι := RA) (fun y => ratV y (encQ (leastQ a b))) (fun y => True) (fun y => [fRat y (encQ (leastQ a b))]) := by
 refine Spec.of_body _ (fn := Tryz.f68) k_ rfl k_ (fun X w0 => ?_)
 refine J.fact (φ := (encQ a).mag.length ≤ 140737488355328 ∧ (encQ a).den.length ≤ 140737488355328) (fun w h => by have h1 := (h _ (.head _)).1.1; have h2 := (h _ (.head _)).2.1; omega) (fun hl1 => ?_)
 refine J.fact (φ := (encQ b).mag.length ≤ 140737488355328 ∧ (encQ b).den.length ≤ 140737488355328) (fun w h => by have h1 := (h _ (.tail _ ((.head _)))).1.1; have h2 := (h _ (.tail _ ((.head _)))).2.1; omega) (fun hl2 => ?_)
 refine J.sreg ?_
 refine RN.new (fun b => pt b) (.cells (ivC p (encQ a) u (encQ b)) 43 (0, 0)) k_ k_ (fun w => by kernel_rfl) (fun b3 => ?_)
 refine RN.new (fun b => pt b) (.cells (ratC (⟨saNil, saNil⟩ : RA) (⟨false, ([] : List Nat), ([] : List Nat)⟩ : Raw)) 40 (0, 0)) k_ k_ (fun w => by kernel_rfl) (fun b4 => ?_)
 refine RN.fin k_ ?_
 refine J.seq ?_
 refine J.block ?_
 refine J.sreg ?_
 refine RN.bq [some 1, none] [1, 2, 4, 5] [b3, b3, b3, b3, b3, b3] 2 [(1, pt b3), (2, pt b4), (4, .agg (ivC p (encQ a) u (encQ b))), (5, ratV (⟨saNil, saNil⟩ : RA) (⟨false, ([] : List Nat), ([] : List Nat)⟩ : Raw))] k_ ?_
 refine RN.turn 5 (v := ratV (⟨saNil, saNil⟩ : RA) (⟨false, ([] : List Nat), ([] : List Nat)⟩ : Raw)) (v' := ratV (⟨saNil, saNil⟩ : RA) (encQ (0 : Rat))) k_ (by first | (rw [encQ_zero]; done) | (rw [encQ_zero]; rfl)) ?_
 refine RN.also (fRat (⟨saNil, saNil⟩ : RA) (encQ (0 : Rat))) (fun w h => fRat_zero w) ?_
 refine RN.call (iv_Contains p a u b ⟨saNil, saNil⟩ (0 : Rat) y_sg_least y_sg_least y_sg_least) [1, 2, 0] k_ k_ k_ rfl (fun y5 _ => ?_)
 refine RN.bq (no 1) [1, 2, 3] [] 4 [(1, pt b3), (2, pt b4), (3, .bool (!decide ((0 : Rat) < loQ a b) && !decide (hiQ a b < (0 : Rat))))] k_ ?_
 refine RN.fin k_ ?_
 refine J.cond ((!decide ((0 : Rat) < loQ a b) && !decide (hiQ a b < (0 : Rat)))) k_ (fun c6 => ?_) (fun c6 => ?_)
 ·have hv : ¬ 0 < loQ a b ∧ ¬ hiQ a b < 0 := by simpa using c6
  refine J.sreg ?_
  refine RN.bs [none, some 0] [2] [b4, b4, b4] 2 [(2, pt b4)] ([(b4, .cells (ratC (⟨saNil, saNil⟩ : RA) (⟨false, ([] : List Nat), ([] : List Nat)⟩ : Raw)) 40 (0, 0)), (b3, .cells (ivC p (encQ a) u (encQ b)) 43 (0, 0))]) k_ ?_
  refine RN.fin k_ ?_
  have e_1 : (encQ (leastQ a b)) = (⟨false, ([] : List Nat), ([] : List Nat)⟩ : Raw) := by first | (rw [leastQ, if_pos hv, encQ_zero]) | (rw [leastQ, if_pos hv]) | (rw [leastQ, if_neg hv, if_pos hs, Rat.add_zero]) | (rw [leastQ, if_neg hv, if_pos hs, qv_z, Rat.add_zero]) | (rw [leastQ, if_neg hv, if_neg hs])
  have e_2 : (toL (((leastQ a b).num).natAbs)) = ([] : List Nat) := congrArg Raw.mag e_1
  have e_3 : (toD ((leastQ a b).den)) = ([] : List Nat) := congrArg Raw.den e_1
  refine J.also (fRat (⟨saNil, saNil⟩ : RA) (⟨false, ([] : List Nat), ([] : List Nat)⟩ : Raw)) (fun w h => ⟨fU_nil w, fU_nil w⟩) ?_
  refine J.ret (KR.blk (KR.next (KR.ret (v := ratV (⟨saNil, saNil⟩ : RA) (⟨false, ([] : List Nat), ([] : List Nat)⟩ : Raw)) (⟨saNil, saNil⟩) [some 0] [0] [b4, b4, b4] k_ (by first | rfl | (rw [e_1]; done) | (simp only [e_1]; done) | (rw [e_2, e_3]; done) | (rw [e_1, e_2, e_3]; rfl) | (simp only [e_1, e_2, e_3]; done) | (simp only [e_1, e_2, e_3]; rfl)) (trivial) (by first | rfl | (rw [e_1]; done) | (simp only [e_1]; done) | (rw [e_2, e_3]; done) | (rw [e_1, e_2, e_3]; rfl) | (simp only [e_1, e_2, e_3]; done) | (simp only [e_1, e_2, e_3]; rfl)))))
 ·have hv : ¬ (¬ 0 < loQ a b ∧ ¬ hiQ a b < 0) := by simpa using c6
  refine J.sreg ?_
  refine RN.bq [none, some 1] [1, 2, 10] [b3, b3, b3] 2 [(1, pt b3), (2, pt b4), (10, ratV p (encQ a))] k_ ?_
  refine RN.call (rational_Sign_c p a y_sg_least) [1] k_ k_ k_ rfl (fun y7 _ => ?_)
  refine RN.bq (no 2) [1, 2, 8] [] 5 [(1, pt b3), (2, pt b4), (8, .bool (decide ((Int.sign (a.num)) > 0)))] k_ ?_
  refine RN.fin k_ ?_
  refine J.cond (decide ((Int.sign (a.num)) > 0)) k_ (fun c8 => ?_) (fun c8 => ?_)
  ·replace c8 := of_decide_eq_true c8
   have hs : 0 < a := by simpa using sign_gt.1 c8
   refine J.sreg ?_
   refine RN.bq [none, some 1, none] [2, 14, 15] [b3, b3, b3] 3 [(2, pt b4), (14, ratV p (encQ a)), (15, ratV (⟨saNil, saNil⟩ : RA) (⟨false, ([] : List Nat), ([] : List Nat)⟩ : Raw))] k_ ?_
   refine RN.also (fRat (⟨saNil, saNil⟩ : RA) (⟨false, ([] : List Nat), ([] : List Nat)⟩ : Raw)) (fun w h => ⟨fU_nil w, fU_nil w⟩) ?_
   refine RN.call (rational_Add_c1 p a ⟨saNil, saNil⟩ ⟨false, ([] : List Nat), ([] : List Nat)⟩ y_sg_least y_sg_least) [2, 0] k_ k_ k_ rfl (fun y9 _ => ?_)
   refine RN.bs [some 0] [2] [b4, b4, b4] 5 [(2, pt b4)] ([(b4, .cells (ratC y9 (encQ (a + (qv (⟨false, ([] : List Nat), ([] : List Nat)⟩ : Raw))))) 40 (0, 0)), (b3, .cells (ivC p (encQ a) u (encQ b)) 43 (0, 0))]) k_ ?_
   refine RN.fin k_ ?_
   have e_1 : (encQ (leastQ a b)) = (encQ (a + (qv (⟨false, ([] : List Nat), ([] : List Nat)⟩ : Raw)))) := by first | (rw [leastQ, if_pos hv, encQ_zero]) | (rw [leastQ, if_pos hv]) | (rw [leastQ, if_neg hv, if_pos hs, Rat.add_zero]) | (rw [leastQ, if_neg hv, if_pos hs, qv_z, Rat.add_zero]) | (rw [leastQ, if_neg hv, if_neg hs])
   refine J.ret (KR.blk (KR.next (KR.ret (v := ratV y9 (encQ (a + (qv (⟨false, ([] : List Nat), ([] : List Nat)⟩ : Raw))))) (y9) [some 0] [0] [b4, b4, b4] k_ v1_ (trivial) v1_)))
  ·replace c8 := of_decide_eq_false c8
   have hs : ¬ 0 < a := fun h => c8 (sign_gt.2 (by simpa using h))
   refine J.skip ?_
   refine KN.blk ?_
   refine KN.next ?_
   refine J.sreg ?_
   refine RN.bq [none, some 1] [2, 18] [b3, b3, b3] 2 [(2, pt b4), (18, ratV u (encQ b))] k_ ?_
   refine RN.call (rational_Neg_c u b y_sg_least) [2] k_ k_ k_ rfl (fun y10 _ => ?_)
   refine RN.bs [some 0] [2] [b4, b4, b4] 4 [(2, pt b4)] ([(b4, .cells (ratC y10 (encQ (-b))) 40 (0, 0)), (b3, .cells (ivC p (encQ a) u (encQ b)) 43 (0, 0))]) k_ ?_
   refine RN.fin k_ ?_
   have e_1 : (encQ (leastQ a b)) = (encQ (-b)) := by first | (rw [leastQ, if_pos hv, encQ_zero]) | (rw [leastQ, if_pos hv]) | (rw [leastQ, if_neg hv, if_pos hs, Rat.add_zero]) | (rw [leastQ, if_neg hv, if_pos hs, qv_z, Rat.add_zero]) | (rw [leastQ, if_neg hv, if_neg hs])
   refine J.ret (KR.ret (v := ratV y10 (encQ (-b))) (y10) [some 0] [0] [b4, b4, b4] k_ v1_ (trivial) v1_)
theorem y_sg_bound {p : Prop} (h : p := by first | omega | assumption | exact Lb_toL _ | (simp; done) | with_reducible exact Q.le hq1 (by decide) | with_reducible exact Q.le hq2 (by decide) | with_reducible exact Q.le hq3 (by decide) | with_reducible exact Q.le hq4 (by decide) | with_reducible exact Q.le (hRow j (by omega)) (by decide) | with_reducible exact Q.le (hV j (by omega)).h1 (by decide) | with_reducible exact Q.le (hV j (by omega)).h2 (by decide) | with_reducible exact Q.le (hV j (by omega)).h3 (by decide) | with_reducible exact Q.le (hV j (by omega)).h4 (by decide) | with_reducible exact Q.le (hMM j (by omega)).1 (by decide) | with_reducible exact Q.le (hMM j (by omega)).2 (by decide) | (rw [hullLo]; with_reducible exact Q.le hq3 (by decide)) | (rw [hullHi]; with_reducible exact Q.le hq4 (by decide)) | omega) : p := h
theorem sg_bound (s : SA) (xs : List QRRow) (t : SA) (ys : List QR) (u : SA) (cell : List QV) (hyl : ys.length = xs.length) (hrow : ∀ i, i < xs.length → (xs.getD i (saNil, [])).2.length = cell.length ∧ smR (xs.getD i (saNil, [])).2) (hy : smR ys) (hc : smV cell) (hx : xs.length ≤ 64) (hcl : cell.length ≤ 12) : Spec Tryz.prog 33 #[sl s xs.length, sl t ys.length, sl u cell.length] [fL elm s xs, fL elr t ys, fL elv u cell] (ι := SA × List QR) (fun y => sl y.1 y.2.length) (fun y => y.2.length = xs.length ∧ ∀ i, i < y.2.length → (y.2.getD i qr0).2 = bndQ (xs.getD i (saNil, [])).2 (ys.getD i qr0).2 cell) (fun y => [fL elr y.1 y.2]) := by
 refine Spec.of_body _ (fn := Tryz.f33) k_ rfl k_ (fun X w0 => ?_)
 refine J.fact (φ := xs.length ≤ 140737488355328) (fun w h => (h _ (.head _)).1.2) (fun hl1 => ?_)
 refine J.fact (φ := ys.length ≤ 140737488355328) (fun w h => (h _ (.tail _ ((.head _)))).1.2) (fun hl2 => ?_)
 refine J.fact (φ := cell.length ≤ 140737488355328) (fun w h => (h _ (.tail _ ((.tail _ ((.head _)))))).1.2) (fun hl3 => ?_)
 refine J.sreg ?_
 refine RN.bq (no 1) [0, 1, 2] [] 1 [(0, sl s xs.length), (1, sl t ys.length), (2, sl u cell.length)] k_ ?_
 refine RN.fs k_ ?_
 refine RN.bq (no 1) [0, 1, 2, 7] [] 1 [(0, sl s xs.length), (1, sl t ys.length), (2, sl u cell.length), (7, .slice none 0 0)] k_ ?_
 refine RN.fin k_ ?_
 refine J.seq ?_
 refine J.sreg ?_
 refine RN.bq (no 3) [1, 2, 7, 13, 14, 15] [] 3 [(1, sl t ys.length), (2, sl u cell.length), (7, .slice none 0 0), (13, sl s xs.length), (14, .int .i64 ((xs.length : Nat) : Int)), (15, .int .i64 0)] k_ ?_
 refine RN.fin k_ ?_
 refine J.block ?_
 refine J.also (allL elr ([] : List QR)) (fun w h => allL_nil elr w) ?_
 refine J.loop (ι := (Option GB) × (List QR) × (Nat)) (fun x => x.2.2 ≤ xs.length ∧ gOk 3 x.1 x.2.1.length ∧ x.2.1.length = x.2.2 ∧ ∀ k, k < x.2.1.length → (x.2.1.getD k qr0).2 = bndQ (xs.getD k (saNil, [])).2 (ys.getD k qr0).2 cell) (fun x => xs.length - x.2.2) (fun x => [(1, sl t ys.length), (2, sl u cell.length), (7, sl (glS x.1) x.2.1.length), (13, sl s xs.length), (14, .int .i64 ((xs.length : Nat) : Int)), (15, .int .i64 ((x.2.2 : Nat) : Int))]) (fun x => [] ++ (glM x.1 (encr x.2.1) 40 ++ ([]))) (fun x => [allL elr x.2.1, fL elm s xs, fL elr t ys, fL elv u cell]) (none, ([] : List QR), 0) [1, 2, 7, 13, 14, 15] [0, 1, 2, 3] (⟨Nat.zero_le _, rfl, rfl, fun k h => absurd h (Nat.not_lt_zero _)⟩) k_ (by first | rfl | (simp only [encQ_zero]; done) | (simp only [encQ_zero]; rfl)) (by rfl) (fun x4 hI => ?_)
 obtain ⟨go, out, i⟩ := x4
 replace hI : i ≤ xs.length ∧ gOk 3 go out.length ∧ out.length = i ∧ ∀ k, k < out.length → (out.getD k qr0).2 = bndQ (xs.getD k (saNil, [])).2 (ys.getD k qr0).2 cell := hI
 obtain ⟨hI1, hI2, hI3, hI4⟩ := hI
 refine J.sreg ?_
 refine RN.bq (no 1) [1, 2, 7, 13, 14, 15, 16] [] 1 [(1, sl t ys.length), (2, sl u cell.length), (7, sl (glS go) out.length), (13, sl s xs.length), (14, .int .i64 ((xs.length : Nat) : Int)), (15, .int .i64 ((i : Nat) : Int)), (16, .bool (decide (((i : Nat) : Int) < ((xs.length : Nat) : Int))))] k_ ?_
 refine RN.fin k_ ?_
 refine J.seq ?_
 refine J.cond (decide (((i : Nat) : Int) < ((xs.length : Nat) : Int))) k_ (fun c5 => ?_) (fun c5 => ?_)
 ·replace c5 := of_decide_eq_true c5
  refine J.skip ?_
  refine KN.next ?_
  refine J.seq ?_
  refine J.block ?_
  refine J.sreg ?_
  refine RN.bq (no 1) [1, 2, 7, 13, 14, 15, 17] [] 1 [(1, sl t ys.length), (2, sl u cell.length), (7, sl (glS go) out.length), (13, sl s xs.length), (14, .int .i64 ((xs.length : Nat) : Int)), (15, .int .i64 ((i : Nat) : Int)), (17, .int .i64 ((i : Nat) : Int))] k_ ?_
  refine RN.val _ k_ k_ (q_lidx (t := 27) (x := (.tmp 13)) (ix := (.tmp 15)) (K := .i64) (i0 := ((i : Nat) : Int)) (m := i) (e := 28) (E := elm) (sz := 1) (s := s) (xs := xs) 1 rfl rfl k_ k_ k_ k_ k_ (by omega) x_) ?_
  refine RN.val _ k_ k_ (q_lload1 (T := 28) (x := (.tmp 18)) (m := i) (s := s) (E := elm) (xs := xs) 1 rfl rfl k_ k_ k_ rfl x_) ?_
  refine RN.also (fL elr ((xs.getD i (saNil, [])).1) ((xs.getD i (saNil, [])).2)) (fun w h => (fL_elem (h _ (.tail _ ((.head _)))) x_)) ?_
  refine RN.bq (no 2) [1, 2, 7, 8, 9, 13, 14, 15] [] 5 [(1, sl t ys.length), (2, sl u cell.length), (7, sl (glS go) out.length), (8, .int .i64 ((i : Nat) : Int)), (9, sl ((xs.getD i (saNil, [])).1) ((xs.getD i (saNil, [])).2).length), (13, sl s xs.length), (14, .int .i64 ((xs.length : Nat) : Int)), (15, .int .i64 ((i : Nat) : Int))] k_ ?_
  refine RN.fin k_ ?_
  refine J.seq ?_
  refine J.regD k_ [10] ?_
  refine RD.bq (nl [0, 1, 4, 5]) [1, 2, 7, 9, 13, 14, 15, 20, 21, 24, 25] [] [(1, sl t ys.length), (2, sl u cell.length), (7, sl (glS go) out.length), (9, sl ((xs.getD i (saNil, [])).1) ((xs.getD i (saNil, [])).2).length), (13, sl s xs.length), (14, .int .i64 ((xs.length : Nat) : Int)), (15, .int .i64 ((i : Nat) : Int)), (20, sl t ys.length), (21, .int .i64 ((i : Nat) : Int)), (24, sl t ys.length), (25, .int .i64 ((i : Nat) : Int))] k_ k_ ?_
  refine RD.val (i := 2) _ k_ k_ k_ (q_lidx (t := 28) (x := (.tmp 20)) (ix := (.tmp 21)) (K := .i64) (i0 := ((i : Nat) : Int)) (m := i) (e := 40) (E := elr) (sz := 3) (s := t) (xs := ys) 3 rfl rfl k_ k_ k_ k_ k_ (by omega) x_) ?_
  refine RD.val (i := 3) _ k_ k_ k_ (q_lload (T := 40) (x := (.tmp 22)) (m := i) (s := t) (E := elr) (sz := 3) (xs := ys) 3 rfl rfl k_ k_ k_ k_ x_) ?_
  refine RD.also (fRat ((ys.getD i qr0).1) (encQ ((ys.getD i qr0).2))) (fun w h => (fL_elem (h _ (.tail _ ((.tail _ ((.tail _ ((.head _)))))))) x_)) k_ ?_
  refine RD.val (i := 6) _ k_ k_ k_ (q_lidx (t := 28) (x := (.tmp 24)) (ix := (.tmp 25)) (K := .i64) (i0 := ((i : Nat) : Int)) (m := i) (e := 40) (E := elr) (sz := 3) (s := t) (xs := ys) 4 rfl rfl k_ k_ k_ k_ k_ (by omega) x_) ?_
  refine RD.val (i := 7) _ k_ k_ k_ (q_lload (T := 40) (x := (.tmp 26)) (m := i) (s := t) (E := elr) (sz := 3) (xs := ys) 4 rfl rfl k_ k_ k_ k_ x_) ?_
  refine RD.also (fRat ((ys.getD i qr0).1) (encQ ((ys.getD i qr0).2))) (fun w h => (fL_elem (h _ (.tail _ ((.tail _ ((.tail _ ((.tail _ ((.head _)))))))))) x_)) k_ ?_
  refine RD.bq (nl [8]) [1, 2, 7, 9, 13, 14, 15, 28] [] [(1, sl t ys.length), (2, sl u cell.length), (7, sl (glS go) out.length), (9, sl ((xs.getD i (saNil, [])).1) ((xs.getD i (saNil, [])).2).length), (13, sl s xs.length), (14, .int .i64 ((xs.length : Nat) : Int)), (15, .int .i64 ((i : Nat) : Int)), (28, .agg (ivC ((ys.getD i qr0).1) (encQ ((ys.getD i qr0).2)) ((ys.getD i qr0).1) (encQ ((ys.getD i qr0).2))))] k_ k_ ?_
  refine RD.new (i := 9) (fun b => pt b) (.cells (ivC (⟨saNil, saNil⟩ : RA) (⟨false, ([] : List Nat), ([] : List Nat)⟩ : Raw) (⟨saNil, saNil⟩ : RA) (⟨false, ([] : List Nat), ([] : List Nat)⟩ : Raw)) 43 (0, 0)) k_ k_ k_ k_ (fun w => by kernel_rfl) (fun b6 => ?_)
  refine RD.last (i := 10) (some 0) [1, 2, 7, 9, 10, 13, 14, 15] [b6, b6, b6, b6, b6, b6] k_ k_ k_ (l' := [(1, sl t ys.length), (2, sl u cell.length), (7, sl (glS go) out.length), (9, sl ((xs.getD i (saNil, [])).1) ((xs.getD i (saNil, [])).2).length), (10, pt b6), (13, sl s xs.length), (14, .int .i64 ((xs.length : Nat) : Int)), (15, .int .i64 ((i : Nat) : Int))]) (M' := [(b6, .cells (ivC ((ys.getD i qr0).1) (encQ ((ys.getD i qr0).2)) ((ys.getD i qr0).1) (encQ ((ys.getD i qr0).2))) 43 (0, 0))] ++ (glM go (encr out) 40 ++ ([]))) k_ ?_
  refine RD.done k_ ?_
  refine KN.next ?_
  refine J.seq ?_
  refine J.sreg ?_
  refine RN.bq (no 3) [1, 2, 7, 10, 13, 14, 15, 29, 30, 31] [] 3 [(1, sl t ys.length), (2, sl u cell.length), (7, sl (glS go) out.length), (10, pt b6), (13, sl s xs.length), (14, .int .i64 ((xs.length : Nat) : Int)), (15, .int .i64 ((i : Nat) : Int)), (29, sl ((xs.getD i (saNil, [])).1) ((xs.getD i (saNil, [])).2).length), (30, .int .i64 ((((xs.getD i (saNil, [])).2).length : Nat) : Int)), (31, .int .i64 0)] k_ ?_
  refine RN.fin k_ ?_
  refine J.block ?_
  have hri := hrow i (by omega)
  have hQy := hy i (by omega)
  have hQr := Q_rIv hri.2 hQy hc (by omega)
  have hRow : ∀ j, j < (xs.getD i (saNil, [])).2.length → Q 100 ((xs.getD i (saNil, [])).2.getD j qr0).2 := hri.2
  have hV := smV_all hc
  have hMM := muls_all hri.2 hc (by omega)
  refine J.loop (ι := (RA) × (Rat) × (RA) × (Rat) × (Nat)) (fun x => x.2.2.2.2 ≤ (xs.getD i (saNil, [])).2.length ∧ (x.2.1, x.2.2.2.1) = rIv (xs.getD i (saNil, [])).2 (ys.getD i qr0).2 cell x.2.2.2.2) (fun x => (xs.getD i (saNil, [])).2.length - x.2.2.2.2) (fun x => [(1, sl t ys.length), (2, sl u cell.length), (7, sl (glS go) out.length), (10, pt b6), (13, sl s xs.length), (14, .int .i64 ((xs.length : Nat) : Int)), (15, .int .i64 ((i : Nat) : Int)), (29, sl ((xs.getD i (saNil, [])).1) ((xs.getD i (saNil, [])).2).length), (30, .int .i64 ((((xs.getD i (saNil, [])).2).length : Nat) : Int)), (31, .int .i64 ((x.2.2.2.2 : Nat) : Int))]) (fun x => [(b6, .cells (ivC x.1 (encQ x.2.1) x.2.2.1 (encQ x.2.2.2.1)) 43 (0, 0))] ++ (glM go (encr out) 40 ++ ([]))) (fun x => [fRat x.1 (encQ x.2.1), fRat x.2.2.1 (encQ x.2.2.2.1), fRat ((ys.getD i qr0).1) (encQ ((ys.getD i qr0).2)), fRat ((ys.getD i qr0).1) (encQ ((ys.getD i qr0).2)), fL elr ((xs.getD i (saNil, [])).1) ((xs.getD i (saNil, [])).2), allL elr out, fL elm s xs, fL elr t ys, fL elv u cell]) (((ys.getD i qr0).1), (ys.getD i qr0).2, ((ys.getD i qr0).1), (ys.getD i qr0).2, 0) [1, 2, 7, 10, 13, 14, 15, 29, 30, 31] [0, 0, 0, 0, 2, 3, 4, 5, 6] (⟨Nat.zero_le _, rfl⟩) k_ (by first | rfl | (simp only [encQ_zero]; done) | (simp only [encQ_zero]; rfl)) (by rfl) (fun x7 hJ => ?_)
  obtain ⟨la, lo, ha, hi, j⟩ := x7
  replace hJ : j ≤ (xs.getD i (saNil, [])).2.length ∧ (lo, hi) = rIv (xs.getD i (saNil, [])).2 (ys.getD i qr0).2 cell j := hJ
  obtain ⟨hJ1, hJ2⟩ := hJ
  have hq := hQr j hJ1
  rw [← hJ2] at hq
  have hq1 : Q 1000000 lo := hq.1.le (by omega)
  have hq2 : Q 1000000 hi := hq.2.le (by omega)
  have hq3 := Q_lo2 (b := hi) hq1 (by decide)
  have hq4 := Q_hi2 (a := lo) hq2 (by decide)
  refine J.sreg ?_
  refine RN.bq (no 1) [1, 2, 7, 10, 13, 14, 15, 29, 30, 31, 32] [] 1 [(1, sl t ys.length), (2, sl u cell.length), (7, sl (glS go) out.length), (10, pt b6), (13, sl s xs.length), (14, .int .i64 ((xs.length : Nat) : Int)), (15, .int .i64 ((i : Nat) : Int)), (29, sl ((xs.getD i (saNil, [])).1) ((xs.getD i (saNil, [])).2).length), (30, .int .i64 ((((xs.getD i (saNil, [])).2).length : Nat) : Int)), (31, .int .i64 ((j : Nat) : Int)), (32, .bool (decide (((j : Nat) : Int) < ((((xs.getD i (saNil, [])).2).length : Nat) : Int))))] k_ ?_
  refine RN.fin k_ ?_
  refine J.seq ?_
  refine J.cond (decide (((j : Nat) : Int) < ((((xs.getD i (saNil, [])).2).length : Nat) : Int))) k_ (fun c8 => ?_) (fun c8 => ?_)
  ·replace c8 := of_decide_eq_true c8
   refine J.skip ?_
   refine KN.next ?_
   refine J.seq ?_
   refine J.block ?_
   refine J.sreg ?_
   refine RN.bq (no 1) [1, 2, 7, 10, 13, 14, 15, 29, 30, 31, 33] [] 1 [(1, sl t ys.length), (2, sl u cell.length), (7, sl (glS go) out.length), (10, pt b6), (13, sl s xs.length), (14, .int .i64 ((xs.length : Nat) : Int)), (15, .int .i64 ((i : Nat) : Int)), (29, sl ((xs.getD i (saNil, [])).1) ((xs.getD i (saNil, [])).2).length), (30, .int .i64 ((((xs.getD i (saNil, [])).2).length : Nat) : Int)), (31, .int .i64 ((j : Nat) : Int)), (33, .int .i64 ((j : Nat) : Int))] k_ ?_
   refine RN.val _ k_ k_ (q_lidx (t := 28) (x := (.tmp 29)) (ix := (.tmp 31)) (K := .i64) (i0 := ((j : Nat) : Int)) (m := j) (e := 40) (E := elr) (sz := 3) (s := ((xs.getD i (saNil, [])).1)) (xs := ((xs.getD i (saNil, [])).2)) 4 rfl rfl k_ k_ k_ k_ k_ (by omega) x_) ?_
   refine RN.val _ k_ k_ (q_lload (T := 40) (x := (.tmp 34)) (m := j) (s := ((xs.getD i (saNil, [])).1)) (E := elr) (sz := 3) (xs := ((xs.getD i (saNil, [])).2)) 4 rfl rfl k_ k_ k_ k_ x_) ?_
   refine RN.also (fRat ((((xs.getD i (saNil, [])).2).getD j qr0).1) (encQ ((((xs.getD i (saNil, [])).2).getD j qr0).2))) (fun w h => (fL_elem (h _ (.tail _ ((.tail _ ((.tail _ ((.tail _ ((.head _)))))))))) x_)) ?_
   refine RN.new (fun b => pt b) (.cells (ratC (⟨saNil, saNil⟩ : RA) (⟨false, ([] : List Nat), ([] : List Nat)⟩ : Raw)) 40 (0, 0)) k_ k_ (fun w => by kernel_rfl) (fun b9 => ?_)
   refine RN.bs [none, some 0] [1, 2, 7, 10, 11, 12, 13, 14, 15, 29, 30, 31] [b9, b9, b9] 6 [(1, sl t ys.length), (2, sl u cell.length), (7, sl (glS go) out.length), (10, pt b6), (11, .int .i64 ((j : Nat) : Int)), (12, pt b9), (13, sl s xs.length), (14, .int .i64 ((xs.length : Nat) : Int)), (15, .int .i64 ((i : Nat) : Int)), (29, sl ((xs.getD i (saNil, [])).1) ((xs.getD i (saNil, [])).2).length), (30, .int .i64 ((((xs.getD i (saNil, [])).2).length : Nat) : Int)), (31, .int .i64 ((j : Nat) : Int))] ([(b9, .cells (ratC ((((xs.getD i (saNil, [])).2).getD j qr0).1) (encQ ((((xs.getD i (saNil, [])).2).getD j qr0).2))) 40 (0, 0)), (b6, .cells (ivC la (encQ lo) ha (encQ hi)) 43 (0, 0))] ++ (glM go (encr out) 40 ++ ([]))) k_ ?_
   refine RN.fin k_ ?_
   refine J.regD k_ [11] ?_
   refine RD.bq [(0, some 1), (1, some 0), (2, some 0), (3, none), (4, none), (5, none)] [1, 2, 7, 10, 13, 14, 15, 29, 30, 31, 36, 39, 40, 41] [b9, b9, b9, b9, b9, b9, b6, b6, b6, b6, b6, b6] [(1, sl t ys.length), (2, sl u cell.length), (7, sl (glS go) out.length), (10, pt b6), (13, sl s xs.length), (14, .int .i64 ((xs.length : Nat) : Int)), (15, .int .i64 ((i : Nat) : Int)), (29, sl ((xs.getD i (saNil, [])).1) ((xs.getD i (saNil, [])).2).length), (30, .int .i64 ((((xs.getD i (saNil, [])).2).length : Nat) : Int)), (31, .int .i64 ((j : Nat) : Int)), (36, .agg (ivC la (encQ lo) ha (encQ hi))), (39, .agg (ivC ((((xs.getD i (saNil, [])).2).getD j qr0).1) (encQ ((((xs.getD i (saNil, [])).2).getD j qr0).2)) ((((xs.getD i (saNil, [])).2).getD j qr0).1) (encQ ((((xs.getD i (saNil, [])).2).getD j qr0).2)))), (40, sl u cell.length), (41, .int .i64 ((j : Nat) : Int))] k_ k_ ?_
   refine RD.val (i := 6) _ k_ k_ k_ (q_lidx (t := 31) (x := (.tmp 40)) (ix := (.tmp 41)) (K := .i64) (i0 := ((j : Nat) : Int)) (m := j) (e := 43) (E := elv) (sz := 6) (s := u) (xs := cell) 9 rfl rfl k_ k_ k_ k_ k_ (by omega) x_) ?_
   refine RD.val (i := 7) _ k_ k_ k_ (q_lload (T := 43) (x := (.tmp 42)) (m := j) (s := u) (E := elv) (sz := 6) (xs := cell) 9 rfl rfl k_ k_ k_ k_ x_) ?_
   refine RD.also (fRat ((cell.getD j qv0).1.1) (encQ ((cell.getD j qv0).1.2))) (fun w h => (fL_elem (h _ (.tail _ ((.tail _ ((.tail _ ((.tail _ ((.tail _ ((.tail _ ((.tail _ ((.tail _ ((.tail _ ((.head _)))))))))))))))))))) x_).1) k_ ?_
   refine RD.also (fRat ((cell.getD j qv0).2.1) (encQ ((cell.getD j qv0).2.2))) (fun w h => (fL_elem (h _ (.tail _ ((.tail _ ((.tail _ ((.tail _ ((.tail _ ((.tail _ ((.tail _ ((.tail _ ((.tail _ ((.tail _ ((.head _)))))))))))))))))))))) x_).2) k_ ?_
   refine RD.call (i := 8) (sg_value ((cell.getD j qv0).1.1) ((cell.getD j qv0).1.2) ((cell.getD j qv0).2.1) ((cell.getD j qv0).2.2) y_sg_bound y_sg_bound) [1, 0] k_ k_ k_ k_ k_ rfl (fun y10 _ => ?_)
   refine RD.call (i := 9) (iv_Mul ((((xs.getD i (saNil, [])).2).getD j qr0).1) ((((xs.getD i (saNil, [])).2).getD j qr0).2) ((((xs.getD i (saNil, [])).2).getD j qr0).1) ((((xs.getD i (saNil, [])).2).getD j qr0).2) y10.1 (loQ ((cell.getD j qv0).1.2) ((cell.getD j qv0).2.2)) y10.2 (hiQ ((cell.getD j qv0).1.2) ((cell.getD j qv0).2.2)) y_sg_bound y_sg_bound y_sg_bound y_sg_bound) [4, 4, 0, 1] k_ k_ k_ k_ k_ rfl (fun y11 _ => ?_)
   refine RD.call (i := 10) (iv_Sub la lo ha hi y11.1 (mulLo ((((xs.getD i (saNil, [])).2).getD j qr0).2) ((((xs.getD i (saNil, [])).2).getD j qr0).2) (loQ ((cell.getD j qv0).1.2) ((cell.getD j qv0).2.2)) (hiQ ((cell.getD j qv0).1.2) ((cell.getD j qv0).2.2))) y11.2 (mulHi ((((xs.getD i (saNil, [])).2).getD j qr0).2) ((((xs.getD i (saNil, [])).2).getD j qr0).2) (loQ ((cell.getD j qv0).1.2) ((cell.getD j qv0).2.2)) (hiQ ((cell.getD j qv0).1.2) ((cell.getD j qv0).2.2))) y_sg_bound y_sg_bound y_sg_bound y_sg_bound) [7, 8, 0, 1] k_ k_ k_ k_ k_ rfl (fun y12 _ => ?_)
   refine RD.last (i := 11) (some 1) [1, 2, 7, 10, 13, 14, 15, 29, 30, 31] [b6, b6, b6, b6, b6, b6] k_ k_ k_ (l' := [(1, sl t ys.length), (2, sl u cell.length), (7, sl (glS go) out.length), (10, pt b6), (13, sl s xs.length), (14, .int .i64 ((xs.length : Nat) : Int)), (15, .int .i64 ((i : Nat) : Int)), (29, sl ((xs.getD i (saNil, [])).1) ((xs.getD i (saNil, [])).2).length), (30, .int .i64 ((((xs.getD i (saNil, [])).2).length : Nat) : Int)), (31, .int .i64 ((j : Nat) : Int))]) (M' := [(b9, .cells (ratC ((((xs.getD i (saNil, [])).2).getD j qr0).1) (encQ ((((xs.getD i (saNil, [])).2).getD j qr0).2))) 40 (0, 0)), (b6, .cells (ivC y12.1 (encQ (loQ lo hi - hiQ (mulLo ((((xs.getD i (saNil, [])).2).getD j qr0).2) ((((xs.getD i (saNil, [])).2).getD j qr0).2) (loQ ((cell.getD j qv0).1.2) ((cell.getD j qv0).2.2)) (hiQ ((cell.getD j qv0).1.2) ((cell.getD j qv0).2.2))) (mulHi ((((xs.getD i (saNil, [])).2).getD j qr0).2) ((((xs.getD i (saNil, [])).2).getD j qr0).2) (loQ ((cell.getD j qv0).1.2) ((cell.getD j qv0).2.2)) (hiQ ((cell.getD j qv0).1.2) ((cell.getD j qv0).2.2))))) y12.2 (encQ (hiQ lo hi - loQ (mulLo ((((xs.getD i (saNil, [])).2).getD j qr0).2) ((((xs.getD i (saNil, [])).2).getD j qr0).2) (loQ ((cell.getD j qv0).1.2) ((cell.getD j qv0).2.2)) (hiQ ((cell.getD j qv0).1.2) ((cell.getD j qv0).2.2))) (mulHi ((((xs.getD i (saNil, [])).2).getD j qr0).2) ((((xs.getD i (saNil, [])).2).getD j qr0).2) (loQ ((cell.getD j qv0).1.2) ((cell.getD j qv0).2.2)) (hiQ ((cell.getD j qv0).1.2) ((cell.getD j qv0).2.2)))))) 43 (0, 0))] ++ (glM go (encr out) 40 ++ ([]))) k_ ?_
   refine RD.done k_ ?_
   refine KN.blk ?_
   refine KN.next ?_
   refine J.regN ?_
   refine RN.bq (no 1) [1, 2, 7, 10, 13, 14, 15, 29, 30, 47] [] 1 [(1, sl t ys.length), (2, sl u cell.length), (7, sl (glS go) out.length), (10, pt b6), (13, sl s xs.length), (14, .int .i64 ((xs.length : Nat) : Int)), (15, .int .i64 ((i : Nat) : Int)), (29, sl ((xs.getD i (saNil, [])).1) ((xs.getD i (saNil, [])).2).length), (30, .int .i64 ((((xs.getD i (saNil, [])).2).length : Nat) : Int)), (47, .int .i64 (IntKind.i64.wrap (((j : Nat) : Int) + 1)))] k_ ?_
   rw [show IntKind.i64.wrap (((j : Nat) : Int) + 1) = ((j + 1 : Nat) : Int) from by rw [IntKind.wrap_i64]; omega]
   refine RN.bq (no 1) [1, 2, 7, 10, 13, 14, 15, 29, 30, 31] [] 2 [(1, sl t ys.length), (2, sl u cell.length), (7, sl (glS go) out.length), (10, pt b6), (13, sl s xs.length), (14, .int .i64 ((xs.length : Nat) : Int)), (15, .int .i64 ((i : Nat) : Int)), (29, sl ((xs.getD i (saNil, [])).1) ((xs.getD i (saNil, [])).2).length), (30, .int .i64 ((((xs.getD i (saNil, [])).2).length : Nat) : Int)), (31, .int .i64 ((j + 1 : Nat) : Int))] k_ ?_
   refine RN.done k_ ?_
   refine KN.dropF 1 ?_
   refine KN.roundE (y12.1, loQ lo hi - hiQ (mulLo ((((xs.getD i (saNil, [])).2).getD j qr0).2) ((((xs.getD i (saNil, [])).2).getD j qr0).2) (loQ ((cell.getD j qv0).1.2) ((cell.getD j qv0).2.2)) (hiQ ((cell.getD j qv0).1.2) ((cell.getD j qv0).2.2))) (mulHi ((((xs.getD i (saNil, [])).2).getD j qr0).2) ((((xs.getD i (saNil, [])).2).getD j qr0).2) (loQ ((cell.getD j qv0).1.2) ((cell.getD j qv0).2.2)) (hiQ ((cell.getD j qv0).1.2) ((cell.getD j qv0).2.2))), y12.2, hiQ lo hi - loQ (mulLo ((((xs.getD i (saNil, [])).2).getD j qr0).2) ((((xs.getD i (saNil, [])).2).getD j qr0).2) (loQ ((cell.getD j qv0).1.2) ((cell.getD j qv0).2.2)) (hiQ ((cell.getD j qv0).1.2) ((cell.getD j qv0).2.2))) (mulHi ((((xs.getD i (saNil, [])).2).getD j qr0).2) ((((xs.getD i (saNil, [])).2).getD j qr0).2) (loQ ((cell.getD j qv0).1.2) ((cell.getD j qv0).2.2)) (hiQ ((cell.getD j qv0).1.2) ((cell.getD j qv0).2.2))), j + 1) [1, 2, 7, 10, 13, 14, 15, 29, 30, 31] [0, 1, 11, 11, 13, 14, 15, 16, 17] (l2 := [(1, sl t ys.length), (2, sl u cell.length), (7, sl (glS go) out.length), (10, pt b6), (13, sl s xs.length), (14, .int .i64 ((xs.length : Nat) : Int)), (15, .int .i64 ((i : Nat) : Int)), (29, sl ((xs.getD i (saNil, [])).1) ((xs.getD i (saNil, [])).2).length), (30, .int .i64 ((((xs.getD i (saNil, [])).2).length : Nat) : Int)), (31, .int .i64 ((j + 1 : Nat) : Int))]) (by (try dsimp only); omega) (by (try dsimp only); exact ⟨by omega, by show _ = subIv _ _ _; rw [← hJ2]; rfl⟩) k_ (by rfl) (by rfl) (by rfl)
  ·replace c8 := of_decide_eq_false c8
   refine J.exit (KX.next (KX.next (KX.hit ?_)))
   refine KN.next ?_
   refine J.regN ?_
   refine RN.bq [none, some 0, some 0] [1, 2, 13, 14, 15, 48, 49, 50] [b6, b6, b6, b6, b6, b6, b6, b6, b6, b6, b6, b6] 3 [(1, sl t ys.length), (2, sl u cell.length), (13, sl s xs.length), (14, .int .i64 ((xs.length : Nat) : Int)), (15, .int .i64 ((i : Nat) : Int)), (48, sl (glS go) out.length), (49, .agg (ivC la (encQ lo) ha (encQ hi))), (50, .agg (ivC la (encQ lo) ha (encQ hi)))] k_ ?_
   refine RN.call (iv_Hull la lo ha hi la lo ha hi y_sg_bound y_sg_bound y_sg_bound y_sg_bound) [0, 1, 0, 1] k_ k_ k_ rfl (fun y13 _ => ?_)
   refine RN.call (sg_least y13.1 (foldLo (loQ lo hi) [hiQ lo hi, loQ lo hi, hiQ lo hi]) y13.2 (foldHi (loQ lo hi) [hiQ lo hi, loQ lo hi, hiQ lo hi]) y_sg_bound y_sg_bound) [0, 1] k_ k_ k_ rfl (fun y14 _ => ?_)
   refine RN.new (fun b => .slice (some ⟨b, 0, none⟩) 1 1) (.cells (encr ([(y14, ((leastQ (foldLo (loQ lo hi) [hiQ lo hi, loQ lo hi, hiQ lo hi]) (foldHi (loQ lo hi) [hiQ lo hi, loQ lo hi, hiQ lo hi])) : Rat))] : List QR)) 40 (0, 0)) k_ k_ (fun w => by kernel_rfl) (fun b15 => ?_)
   refine RN.also (allL elr ([(y14, ((leastQ (foldLo (loQ lo hi) [hiQ lo hi, loQ lo hi, hiQ lo hi]) (foldHi (loQ lo hi) [hiQ lo hi, loQ lo hi, hiQ lo hi])) : Rat))] : List QR)) (fun w h => allL_cons (h _ (.head _)) (allL_nil _ _)) ?_
   refine RN.ot k_ k_ (ot_lapp (z := .agg #[.bool false, .slice none 0 0, .slice none 0 0]) (E := elr) (sz := 3) (T := 28) (e := 40) (by_ := 56) (mi := 0) (b := b15) (k := 1) (c := 1) (x := (.tmp 48)) (y := (.tmp 53)) (go := go) (xs := out) (ys := ([(y14, ((leastQ (foldLo (loQ lo hi) [hiQ lo hi, loQ lo hi, hiQ lo hi]) (foldHi (loQ lo hi) [hiQ lo hi, loQ lo hi, hiQ lo hi])) : Rat))] : List QR)) [(b15, .cells (encr ([(y14, ((leastQ (foldLo (loQ lo hi) [hiQ lo hi, loQ lo hi, hiQ lo hi]) (foldHi (loQ lo hi) [hiQ lo hi, loQ lo hi, hiQ lo hi])) : Rat))] : List QR)) 40 (0, 0)), (b6, .cells (ivC la (encQ lo) ha (encQ hi)) 43 (0, 0))] ([]) rfl rfl rfl k_ k_ k_ k_ k_ k_ rfl rfl (by first | decide | exact Nat.zero_lt_one | simp) (by assumption) x_ x_) (fun g16 hg17 => ?_)
   refine RN.also (allL elr (out ++ ([(y14, ((leastQ (foldLo (loQ lo hi) [hiQ lo hi, loQ lo hi, hiQ lo hi]) (foldHi (loQ lo hi) [hiQ lo hi, loQ lo hi, hiQ lo hi])) : Rat))] : List QR))) (fun w h => allL_app (h _ (.tail _ ((.tail _ ((.tail _ ((.tail _ ((.tail _ ((.tail _ ((.tail _ ((.tail _ ((.tail _ ((.head _)))))))))))))))))))) (h _ (.head _))) ?_
   refine RN.dropM 0 rfl ?_
   refine RN.bq (no 1) [1, 2, 7, 13, 14, 15] [] 8 [(1, sl t ys.length), (2, sl u cell.length), (7, sl (glS (some g16)) (out ++ ([(y14, ((leastQ (foldLo (loQ lo hi) [hiQ lo hi, loQ lo hi, hiQ lo hi]) (foldHi (loQ lo hi) [hiQ lo hi, loQ lo hi, hiQ lo hi])) : Rat))] : List QR)).length), (13, sl s xs.length), (14, .int .i64 ((xs.length : Nat) : Int)), (15, .int .i64 ((i : Nat) : Int))] k_ ?_
   refine RN.done k_ ?_
   refine KN.blk ?_
   refine KN.next ?_
   refine J.regN ?_
   refine RN.bq (no 1) [1, 2, 7, 13, 14, 55] [] 1 [(1, sl t ys.length), (2, sl u cell.length), (7, sl (glS (some g16)) (out ++ ([(y14, ((leastQ (foldLo (loQ lo hi) [hiQ lo hi, loQ lo hi, hiQ lo hi]) (foldHi (loQ lo hi) [hiQ lo hi, loQ lo hi, hiQ lo hi])) : Rat))] : List QR)).length), (13, sl s xs.length), (14, .int .i64 ((xs.length : Nat) : Int)), (55, .int .i64 (IntKind.i64.wrap (((i : Nat) : Int) + 1)))] k_ ?_
   rw [show IntKind.i64.wrap (((i : Nat) : Int) + 1) = ((i + 1 : Nat) : Int) from by rw [IntKind.wrap_i64]; omega]
   refine RN.bq (no 1) [1, 2, 7, 13, 14, 15] [] 2 [(1, sl t ys.length), (2, sl u cell.length), (7, sl (glS (some g16)) (out ++ ([(y14, ((leastQ (foldLo (loQ lo hi) [hiQ lo hi, loQ lo hi, hiQ lo hi]) (foldHi (loQ lo hi) [hiQ lo hi, loQ lo hi, hiQ lo hi])) : Rat))] : List QR)).length), (13, sl s xs.length), (14, .int .i64 ((xs.length : Nat) : Int)), (15, .int .i64 ((i + 1 : Nat) : Int))] k_ ?_
   refine RN.done k_ ?_
   refine KN.dropF 1 ?_
   refine KN.roundE (some g16, out ++ ([(y14, ((leastQ (foldLo (loQ lo hi) [hiQ lo hi, loQ lo hi, hiQ lo hi]) (foldHi (loQ lo hi) [hiQ lo hi, loQ lo hi, hiQ lo hi])) : Rat))] : List QR), i + 1) [1, 2, 7, 13, 14, 15] [0, 11, 12, 13] (l2 := [(1, sl t ys.length), (2, sl u cell.length), (7, sl (glS (some g16)) (out ++ ([(y14, ((leastQ (foldLo (loQ lo hi) [hiQ lo hi, loQ lo hi, hiQ lo hi]) (foldHi (loQ lo hi) [hiQ lo hi, loQ lo hi, hiQ lo hi])) : Rat))] : List QR)).length), (13, sl s xs.length), (14, .int .i64 ((xs.length : Nat) : Int)), (15, .int .i64 ((i + 1 : Nat) : Int))]) (by (try dsimp only); omega) (by (try dsimp only); exact ⟨by omega, by assumption, by simp; omega, snocP (P := fun k (e : QR) => e.2 = bndQ (xs.getD k (saNil, [])).2 (ys.getD k qr0).2 cell) hI4 (by rw [hI3]; show leastQ (foldLo _ _) (foldHi _ _) = _; rw [hullLo, hullHi]; unfold bndQ; rw [show (xs.getD i (saNil, [])).2.length = j by omega, ← hJ2])⟩) k_ (by rfl) (by rfl) (by rfl)
 ·replace c5 := of_decide_eq_false c5
  refine J.exit (KX.next (KX.next (KX.hit ?_)))
  refine KN.next ?_
  refine J.sreg ?_
  refine RN.bq (no 2) [6] [] 2 [(6, sl (glS go) out.length)] k_ ?_
  refine RN.fin k_ ?_
  refine J.shareG [] ([]) rfl (fL elr (glS go) out) (fun w hb h => fL_gl hb (h _ (.head _)) (by assumption) x_) ?_
  refine J.ret (KR.ret (v := sl (glS go) out.length) (⟨glS go, out⟩) [none] [0] [] k_ rfl (⟨by show out.length = _; omega, hI4⟩) rfl)
theorem proper_raw {xs : List QRRow} {n : Nat} (h1 : 1 ≤ xs.length) (h2 : xs.length ≤ 64) (h3 : n = xs.length) {k : Nat} (hk : 1 ≤ k) (hk2 : k ≤ 12) (hr : ∀ i, i < xs.length → (xs.getD i (saNil, [])).2.length = k) : proper (rawM xs) n := by
  have hr' : ∀ i, i < xs.length → ((rawM xs).getD i (saNil, [])).2.length = k := fun i hi => (rawM_row xs i).trans (hr i hi)
  have h0 := hr' 0 (by omega)
  refine ⟨⟨by rw [rawM_len]; omega, fun i hi => ?_⟩, by rw [rawM_len]; omega, by rw [rawM_len]; omega, by omega, by rw [rawM_len]; omega⟩
  rw [rawM_len] at hi
  have := hr' i hi
  omega
theorem rowsQ_raw {xs : List QRRow} (h : ∀ i, i < xs.length → smR (xs.getD i (saNil, [])).2) : rowsQ (rawM xs) := fun p hp q hq => by
  obtain ⟨e, he, rfl⟩ := List.mem_map.1 hp
  obtain ⟨z, hz, rfl⟩ := List.mem_map.1 hq
  obtain ⟨i, hi, rfl⟩ := List.mem_iff_getElem.1 he
  obtain ⟨j, hj, rfl⟩ := List.mem_iff_getElem.1 hz
  have h1 := h i hi
  have e1 : xs.getD i (saNil, []) = xs[i] := by simp [List.getD_eq_getElem?_getD, List.getElem?_eq_getElem hi]
  rw [e1] at h1
  have h2 := h1 j hj
  have e2 : xs[i].2.getD j qr0 = xs[i].2[j] := by simp [List.getD_eq_getElem?_getD, List.getElem?_eq_getElem hj]
  rw [e2] at h2
  exact RQ_enc (h2.le (by decide))
theorem y_sg_Bound {p : Prop} (h : p := by first | omega | assumption | exact Lb_toL _ | (simp; done) | exact hrq | exact hrow | exact hy | exact hc) : p := h
theorem sg_Bound (s : SA) (xs : List QRRow) (t : SA) (ys : List QR) (u : SA) (cell : List QV) (hyl : ys.length = xs.length) (hrow : ∀ i, i < xs.length → (xs.getD i (saNil, [])).2.length = cell.length ∧ smR (xs.getD i (saNil, [])).2) (hy : smR ys) (hc : smV cell) (hx : xs.length ≤ 64) (hcl : cell.length ≤ 12) (hx1 : 1 ≤ xs.length) (hc1 : 1 ≤ cell.length) : Spec Tryz.prog 8 #[sl s xs.length, sl t ys.length, sl u cell.length] [fL elm s xs, fL elr t ys, fL elv u cell] (ι := SA × List QR) (fun y => .tuple #[sl y.1 y.2.length, .int .i64 0]) (fun y => y.2.length = xs.length ∧ ∀ i, i < y.2.length → (y.2.getD i qr0).2 = bndQ (xs.getD i (saNil, [])).2 (ys.getD i qr0).2 cell) (fun y => [fL elr y.1 y.2]) := by
 refine Spec.of_body _ (fn := Tryz.f8) k_ rfl k_ (fun X w0 => ?_)
 refine J.fact (φ := xs.length ≤ 140737488355328) (fun w h => (h _ (.head _)).1.2) (fun hl1 => ?_)
 refine J.fact (φ := ys.length ≤ 140737488355328) (fun w h => (h _ (.tail _ ((.head _)))).1.2) (fun hl2 => ?_)
 refine J.fact (φ := cell.length ≤ 140737488355328) (fun w h => (h _ (.tail _ ((.tail _ ((.head _)))))).1.2) (fun hl3 => ?_)
 have hpr := proper_raw (xs := xs) (n := (rawR ys).length) hx1 hx (by rw [rawR_len]; omega) hc1 hcl (fun i hi => (hrow i hi).1)
 have hrq := rowsQ_raw (fun i hi => (hrow i hi).2)
 have hr0 := (hrow 0 (by omega)).1
 refine J.sreg ?_
 refine RN.bq (no 2) [0, 1, 2] [] 2 [(0, sl s xs.length), (1, sl t ys.length), (2, sl u cell.length)] k_ ?_
 refine RN.fin k_ ?_
 refine J.seq ?_
 refine J.sreg ?_
 refine RN.bq (no 2) [0, 1, 2, 8, 9] [] 2 [(0, sl s xs.length), (1, sl t ys.length), (2, sl u cell.length), (8, sl s xs.length), (9, sl t ys.length)] k_ ?_
 refine RN.also (fL elM s (rawM xs)) (fun w h => fM_of_m (h _ (.head _))) ?_
 refine RN.turn 8 (v := sl s xs.length) (v' := sl s (rawM xs).length) k_ (sl_len (rawM_len _).symm) ?_
 refine RN.also (fRats t (rawR ys)) (fun w h => fR_of_r (h _ (.tail _ ((.tail _ ((.head _))))))) ?_
 refine RN.turn 9 (v := sl t ys.length) (v' := sl t (rawR ys).length) k_ (sl_len (rawR_len _).symm) ?_
 refine RN.call (ls_Proper s (rawM xs) t (rawR ys) y_sg_Bound) [1, 0] k_ k_ k_ rfl (fun y4 _ => ?_)
 refine RN.bq (no 2) [0, 1, 2, 12] [] 5 [(0, sl s xs.length), (1, sl t ys.length), (2, sl u cell.length), (12, .bool (!(decide (proper (rawM xs) (rawR ys).length))))] k_ ?_
 refine RN.split 12 (!(decide (proper (rawM xs) (rawR ys).length))) k_ (fun c5 => ?_) (fun c5 => ?_)
 ·replace c5 := of_decide_eq_false ((Bool.not_eq_true' _).mp c5)
  exact absurd c5 (by exact fun h => h hpr)
 ·replace c5 := of_decide_eq_true ((Bool.not_eq_false' _).mp c5)
  refine RN.bq (no 3) [0, 1, 2, 12, 14, 15] [] 8 [(0, sl s xs.length), (1, sl t ys.length), (2, sl u cell.length), (12, .bool false), (14, .int .i64 ((cell.length : Nat) : Int)), (15, sl s xs.length)] k_ ?_
  refine RN.val _ k_ k_ (q_lidx (t := 27) (x := (.tmp 15)) (ix := (.const (.int .i64 0))) (K := .i64) (i0 := 0) (m := 0) (e := 28) (E := elm) (sz := 1) (s := s) (xs := xs) 2 rfl rfl k_ k_ k_ k_ k_ (by omega) x_) ?_
  refine RN.val _ k_ k_ (q_lload1 (T := 28) (x := (.tmp 16)) (m := 0) (s := s) (E := elm) (xs := xs) 2 rfl rfl k_ k_ k_ rfl x_) ?_
  refine RN.also (fL elr ((xs.getD 0 (saNil, [])).1) ((xs.getD 0 (saNil, [])).2)) (fun w h => (fL_elem (h _ (.tail _ ((.tail _ ((.head _)))))) x_)) ?_
  refine RN.bq (no 3) [0, 1, 2, 20] [] 13 [(0, sl s xs.length), (1, sl t ys.length), (2, sl u cell.length), (20, .bool ((((cell.length : Nat) : Int) : Int) != ((((xs.getD 0 (saNil, [])).2).length : Nat) : Int)))] k_ ?_
  refine RN.fin k_ ?_
  refine J.cond ((((cell.length : Nat) : Int) : Int) != ((((xs.getD 0 (saNil, [])).2).length : Nat) : Int)) k_ (fun c6 => ?_) (fun c6 => ?_)
  ·replace c6 := bne_iff_ne.1 c6
   exact absurd c6 (by omega)
  ·replace c6 := bne_eq_false_iff_eq.1 c6
   refine J.skip ?_
   refine KN.next ?_
   refine J.sreg ?_
   refine RN.bq (no 3) [21, 22, 23] [] 3 [(21, sl s xs.length), (22, sl t ys.length), (23, sl u cell.length)] k_ ?_
   refine RN.call (sg_bound s xs t ys u cell y_sg_Bound y_sg_Bound y_sg_Bound y_sg_Bound y_sg_Bound y_sg_Bound) [3, 4, 5] k_ k_ k_ rfl (fun y7 h8 => ?_)
   have hpb := h8
   refine RN.bq (no 2) [6, 7] [] 6 [(6, sl y7.1 y7.2.length), (7, .int .i64 0)] k_ ?_
   refine RN.fin k_ ?_
   refine J.ret (KR.ret (v := .tuple #[sl y7.1 y7.2.length, .int .i64 0]) (⟨y7.1, y7.2⟩) [none, none] [0] [] k_ rfl (hpb) rfl)
end Go.Proofs.YtbiifkfbkaejlaaGreat.E
