/- Plain law of Scale's loops, step by step. -/
import Derived.Test.YtegnonhgildhoaaGreatP1
namespace Go.Proofs.YtegnonhgildhoaaGreat.E
set_option linter.unusedVariables false
set_option linter.unusedSimpArgs false
structure SIn (x : Nat → Rat) (n : Nat) (c b : Rat) (bits : Int) : Prop where
  n0 : 0 < n
  n1 : n ≤ 1024
  hx : ∀ i, i < n → Q 64 (x i)
  hc : Q 64 c
  c0 : 0 < c
  hb : Q 64 b
  b0 : 0 < b
  hs : b < shareN x n
  t0 : 0 ≤ bits
  t1 : bits ≤ 128
structure L1 (ab : Int) (i : Nat) (H : Rat) : Prop where
  e : H = dy (P2 ab) (2 ^ i) 0
  le : i ≤ 14624
  a1 : -6400 ≤ ab
  a2 : ab ≤ 6400
theorem L1.start {ab : Int} (h : -6400 ≤ ab ∧ ab ≤ 6400) : L1 ab 0 (P2 ab) := ⟨by rw [Nat.pow_zero, dy_one], Nat.zero_le _, h.1, h.2⟩
theorem L1.Q {ab : Int} {i : Nat} {H : Rat} (h : L1 ab i H) : Q 664 H := by
  rw [h.e]
  have hp := P2_Q (e := ab) (l := 201) (by have := h.a1; omega) (by have := h.a2; omega) (by decide)
  obtain ⟨l, hl⟩ : ∃ l, l = 458 := ⟨_, rfl⟩
  exact (Q_dy hp (a := 2 ^ i) (l := l) (k := 0) (m := 1) (pow2_lt (by have := h.le; omega)) (by omega) (by decide)).le (by omega)
theorem L1.step {x : Nat → Rat} {n : Nat} {c b : Rat} {bits : Int} {ab : Int} {i : Nat} {H : Rat} (s : SIn x n c b bits) (h : L1 ab i H) (ha : b < meanN x n c H) : i < 14624 ∧ L1 ab (i + 1) (H + H) := by
  have hp := P2_le (e := ab) (l := 200) (by have := h.a1; omega) (by have := h.a2; omega)
  have hlt := loop1_stop s.n0 s.hx s.hc s.c0 s.hb s.b0 hp.2 (i := i) (by rw [← h.e]; exact ha)
  refine ⟨hlt, ?_, hlt, h.a1, h.a2⟩
  rw [h.e, dy_double, Nat.pow_succ, Nat.mul_comm]
theorem L1.done {ab : Int} {i : Nat} {H : Rat} (h : L1 ab i H) : 0 < H ∧ H ≤ KW 657 := by
  have hp := P2_le (e := ab) (l := 200) (by have := h.a1; omega) (by have := h.a2; omega)
  rw [h.e]
  exact ⟨dy_pos (P2_pos ab) (Nat.pow_pos (by decide)) 0, dy_le_KW (P2_pos ab) hp.1 h.le⟩
structure L2 (x : Nat → Rat) (n : Nat) (c b H : Rat) (j : Nat) (U L : Rat) : Prop where
  eu : U = dy H 1 j
  el : L = dy H 1 (j + 1)
  le : j ≤ 27168
  u : ¬ b < meanN x n c U
theorem L2.start {x : Nat → Rat} {n : Nat} {c b H : Rat} (h : ¬ b < meanN x n c H) : L2 x n c b H 0 H (H / 2) :=
  ⟨(dy_one H).symm, by rw [← dy_halve, dy_one], Nat.zero_le _, h⟩
theorem L2.step {x : Nat → Rat} {n : Nat} {c b H : Rat} {bits : Int} {j : Nat} {U L : Rat} (s : SIn x n c b bits) (hH : 0 < H ∧ H ≤ KW 657) (h : L2 x n c b H j U L) (ha : ¬ b < meanN x n c L) : j < 27168 ∧ L2 x n c b H (j + 1) L (L / 2) := by
  have := loop2_stop s.hx s.hc s.c0 s.hs hH.1 hH.2 (j := j + 1) (by rw [← h.el]; exact ha)
  exact ⟨by omega, h.el, by rw [h.el, dy_halve], by omega, ha⟩
theorem L2.Q {x : Nat → Rat} {n : Nat} {c b H : Rat} {j : Nat} {U L : Rat} (h : L2 x n c b H j U L) (hq : E.Q 664 H) : E.Q 1516 U ∧ E.Q 1516 L := by
  rw [h.eu, h.el]
  have hj := h.le
  exact ⟨(Q_dy hq (a := 1) (l := 1) (m := 850) (by decide +kernel) (by decide) (by omega)).le (by decide), (Q_dy hq (a := 1) (l := 1) (m := 850) (by decide +kernel) (by decide) (by omega)).le (by decide)⟩
structure L3 (x : Nat → Rat) (n : Nat) (c b l : Rat) (bits : Int) (a k : Nat) (U L : Rat) : Prop where
  el : L = dy l a k
  eu : U = dy l (a + 1) k
  a1 : 2 ^ k ≤ a
  a2 : a < 2 ^ (k + 1)
  le : k ≤ bits.toNat
  lo : b < meanN x n c L
  hi : ¬ b < meanN x n c U
  l0 : 0 < l
  hl : Q 1516 l
theorem L3.start {x : Nat → Rat} {n : Nat} {c b H : Rat} {j : Nat} {U L : Rat} {bits : Int} (hH : 0 < H) (hq : E.Q 664 H) (h : L2 x n c b H j U L) (ha : b < meanN x n c L) : L3 x n c b L bits 1 0 U L := by
  have e : U = dy L 2 0 := by
    have : dy H 1 j = dy H 1 (j + 1) + dy H 1 (j + 1) := by rw [← dy_halve]; grind
    rw [h.eu, this, ← h.el]
    have h2 := dy_double L 1 0
    rw [dy_one] at h2
    exact h2
  exact ⟨(dy_one L).symm, e, by decide, by decide, Nat.zero_le _, ha, h.u, by rw [h.el]; exact dy_pos hH (by decide) _, (h.Q hq).2⟩
theorem L3.Q {x : Nat → Rat} {n : Nat} {c b l : Rat} {bits : Int} {a k : Nat} {U L : Rat} (h : L3 x n c b l bits a k U L) (t0 : 0 ≤ bits) (t1 : bits ≤ 128) : E.Q 1530 U ∧ E.Q 1530 L ∧ E.Q 3064 ((L + U) / 2) ∧ E.Q 8 (P2 (-bits)) := by
  have hk : k ≤ 128 := by have := h.le; omega
  have ha : a + 1 < W ^ 5 := by
    have h1 : 2 ^ (k + 1) ≤ 2 ^ 129 := Nat.pow_le_pow_right (by decide) (by omega)
    have h2 : 2 ^ 129 + 1 < W ^ 5 := by decide +kernel
    have := h.a2
    omega
  have q1 : E.Q 1530 U := by rw [h.eu]; exact (Q_dy h.hl (l := 5) (m := 5) ha (by decide) (by omega)).le (by decide)
  have q2 : E.Q 1530 L := by rw [h.el]; exact (Q_dy h.hl (l := 5) (m := 5) (Nat.lt_of_succ_lt ha) (by decide) (by omega)).le (by decide)
  refine ⟨q1, q2, ?_, ?_⟩
  · have hh : E.Q 1 (2 : Rat) := ⟨by decide +kernel, by decide +kernel⟩
    have e : (L + U) / 2 = (L + U) * ((1 : Nat) : Int) / two 1 := by
      rw [show two 1 = (2 : Rat) from rfl, show ((((1 : Nat) : Int)) : Rat) = 1 from rfl]; grind
    rw [e]
    exact (Q_dy (q2.add q1) (a := 1) (l := 1) (k := 1) (m := 1) (by decide +kernel) (by decide) (by decide)).le (by decide)
  · exact (P2_Q (l := 5) (by omega) (by omega) (by decide)).le (by decide)
theorem L3.less {x : Nat → Rat} {n : Nat} {c b l : Rat} {bits : Int} {a k : Nat} {U L : Rat} (h : L3 x n c b l bits a k U L) (t0 : 0 ≤ bits) (ht : P2 (-bits) * U < U - L) : k < bits.toNat := by
  have e : -bits = -((bits.toNat : Nat) : Int) := by omega
  rw [e, h.eu, h.el] at ht
  exact loop3_stop h.l0 h.a1 ht
theorem L3.mid {x : Nat → Rat} {n : Nat} {c b l : Rat} {bits : Int} {a k : Nat} {U L : Rat} (h : L3 x n c b l bits a k U L) : (L + U) / 2 = dy l (2 * a + 1) (k + 1) := by
  rw [h.el, h.eu, dy_mid]
theorem L3.up {x : Nat → Rat} {n : Nat} {c b l : Rat} {bits : Int} {a k : Nat} {U L : Rat} (h : L3 x n c b l bits a k U L) (hk : k < bits.toNat) (ha : b < meanN x n c ((L + U) / 2)) : L3 x n c b l bits (2 * a + 1) (k + 1) U ((L + U) / 2) := by
  have p1 := h.a1
  have p2 := h.a2
  exact ⟨h.mid, by rw [h.eu, dy_up]; rfl, by rw [Nat.pow_succ]; omega, by rw [Nat.pow_succ]; omega, hk, ha, h.hi, h.l0, h.hl⟩
theorem L3.down {x : Nat → Rat} {n : Nat} {c b l : Rat} {bits : Int} {a k : Nat} {U L : Rat} (h : L3 x n c b l bits a k U L) (hk : k < bits.toNat) (ha : ¬ b < meanN x n c ((L + U) / 2)) : L3 x n c b l bits (2 * a) (k + 1) ((L + U) / 2) L := by
  have p1 := h.a1
  have p2 := h.a2
  exact ⟨by rw [h.el, dy_up], h.mid, by rw [Nat.pow_succ]; omega, by rw [Nat.pow_succ]; omega, hk, h.lo, ha, h.l0, h.hl⟩
theorem L3.done {x : Nat → Rat} {n : Nat} {c b l : Rat} {bits : Int} {a k : Nat} {U L : Rat} (h : L3 x n c b l bits a k U L) (t0 : 0 ≤ bits) (t1 : bits ≤ 128) (ht : ¬ P2 (-bits) * U < U - L) : ScaleOk x n c b bits L U := by
  obtain ⟨q1, q2, _, _⟩ := h.Q t0 t1
  refine ⟨by rw [h.el]; exact dy_pos h.l0 (Nat.lt_of_lt_of_le (Nat.pow_pos (by decide)) h.a1) k, ?_, h.lo, Rat.not_lt.1 h.hi, Rat.not_lt.1 ht, q2.le (by decide), q1.le (by decide)⟩
  rw [h.el, h.eu, dy_succ]
  have : 0 < l / two k := by rw [Rat.div_def]; exact Rat.mul_pos h.l0 (Rat.inv_pos.2 (two_pos k))
  grind
end Go.Proofs.YtegnonhgildhoaaGreat.E
