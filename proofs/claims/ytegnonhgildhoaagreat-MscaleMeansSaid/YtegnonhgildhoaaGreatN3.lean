import Derived.Test.YtegnonhgildhoaaGreatN1
import Derived.Test.YtegnonhgildhoaaGreatN2
-- Sums over limbs: two limbs, the product, the division by one limb.
namespace Go.Proofs.YtegnonhgildhoaaGreat.E
open Go Go.RowKit
set_option linter.unusedVariables false
theorem Lb_two {a b : Nat} (ha : a < 4294967296) (hb : b < 4294967296) : Lb [a, b] := fun x hx => by
  rcases List.mem_cons.1 hx with rfl | h
  · exact ha
  · rw [List.mem_singleton.1 h]; exact hb
theorem lv_two {v : Nat} (h : v < 18446744073709551616) : lv [v % 4294967296, v / 2 ^ 32 % 4294967296] = v := by
  simp only [lv, W]; omega
theorem W_eq : W = 4294967296 := rfl
theorem W2 : W ^ 2 = 18446744073709551616 := rfl
theorem u64_len {n : Nat} : (toL n).length ≤ 2 ↔ n < 18446744073709551616 := by
  rw [← W2]; exact ⟨lt_of_length, length_toL⟩
theorem uint_shl {k z : Nat} (hk : k < 2) (hz : z < 4294967296) : IntKind.u64.wrap ((z : Int) * 2 ^ (32 * k)) = ((z * 2 ^ (32 * k) : Nat) : Int) := by
  rcases (by omega : k = 0 ∨ k = 1) with rfl | rfl
  · exact uw64b _ (by simp) (by simp; omega)
  · exact uw64b _ (by simp) (by simp; omega)
theorem uint_or {k z v : Nat} (hk : k < 2) (hz : z < 4294967296) (hv : v < W ^ k) :
    IntKind.u64.wrap (((BitVec.ofInt 64 (v : Int) ||| BitVec.ofInt 64 ((z * 2 ^ (32 * k) : Nat) : Int)).toNat : Nat) : Int) = ((v + W ^ k * z : Nat) : Int) := by
  have h64 : (18446744073709551616 : Nat) = 2 ^ 64 := by decide
  rcases (by omega : k = 0 ∨ k = 1) with rfl | rfl
  · have hv0 : v = 0 := by simp [W] at hv; omega
    subst hv0
    rw [bv_or (by decide) (by simp; omega)]
    have : (0 ||| z * 2 ^ (32 * 0) : Nat) = z := by simp
    rw [this]
    exact uw64b _ (by simp) (by rw [Nat.pow_zero]; omega)
  · have hv' : v < 4294967296 := by simpa [W] using hv
    rw [bv_or (by omega) (by simp; omega), Nat.or_comm]
    have := or_shift z v 32 (by simpa using hv')
    rw [show 32 * 1 = 32 from rfl, this]
    exact uw64b _ (by rw [Nat.pow_one, W_eq, Nat.mul_comm 4294967296 z, Nat.add_comm]) (by rw [Nat.pow_one, W_eq]; omega)
theorem mul_bound {x y : Nat} (hx : x < 4294967296) (hy : y < 4294967296) : x * y ≤ 18446744065119617025 :=
  Nat.mul_le_mul (by omega : x ≤ 4294967295) (by omega : y ≤ 4294967295)
/-! the product -/
def MulI (a b : Nat) (out : List Nat) (i : Nat) : Prop := out.length = (toL a).length + (toL b).length ∧ Lb out ∧ lv out = lv ((toL a).take i) * b ∧ ∀ m, i + (toL b).length ≤ m → out.getD m 0 = 0
def MulJ (a b : Nat) (out : List Nat) (i j c : Nat) : Prop := out.length = (toL a).length + (toL b).length ∧ Lb out ∧ c < 4294967296 ∧
  lv out + W ^ (i + j) * c = lv ((toL a).take i) * b + W ^ i * ((toL a).getD i 0 * lv ((toL b).take j)) ∧ ∀ m, i + (toL b).length ≤ m → out.getD m 0 = 0
theorem getD_rep (n m : Nat) : (List.replicate n 0 : List Nat).getD m 0 = 0 := by
  simp only [List.getD_eq_getElem?_getD, List.getElem?_replicate]; split <;> rfl
theorem MulI.start (a b : Nat) : MulI a b (List.replicate ((toL a).length + (toL b).length) 0) 0 :=
  ⟨by simp, Lb.rep _, by simp [lv_rep, lv], fun m _ => getD_rep _ _⟩
theorem MulI.inner {a b : Nat} {out : List Nat} {i : Nat} (h : MulI a b out i) : MulJ a b out i 0 0 :=
  ⟨h.1, h.2.1, by decide, by rw [h.2.2.1]; simp [lv], h.2.2.2⟩
theorem getD_set_ne {xs : List Nat} {i m v : Nat} (h : i ≠ m) : (xs.set i v).getD m 0 = xs.getD m 0 := by
  simp [List.getD_eq_getElem?_getD, h]
theorem MulJ.step {a b : Nat} {out : List Nat} {i j c C : Nat} (h : MulJ a b out i j c) (hi : i < (toL a).length) (hj : j < (toL b).length)
    (hC : C = c + ((toL a).getD i 0 * (toL b).getD j 0 + out.getD (i + j) 0)) : MulJ a b (out.set (i + j) (C % 4294967296)) i (j + 1) (C / 4294967296) := by
  obtain ⟨h1, h2, h3, h4, h5⟩ := h
  have hx : (toL a).getD i 0 < 4294967296 := (Lb_toL a).getD i
  have hy : (toL b).getD j 0 < 4294967296 := (Lb_toL b).getD j
  have ho : out.getD (i + j) 0 < 4294967296 := h2.getD _
  have hxy := mul_bound hx hy
  refine ⟨by simpa using h1, h2.set _ (Nat.mod_lt _ (by decide)), by omega, ?_, fun m hm => by rw [getD_set_ne (by omega)]; exact h5 m hm⟩
  have e1 := lv_set (xs := out) (i := i + j) (v := C % 4294967296) (by omega)
  rw [lv_take_succ', Nat.mul_add, Nat.mul_add]
  have e2 : W ^ (i + (j + 1)) * (C / 4294967296) + W ^ (i + j) * (C % 4294967296) = W ^ (i + j) * C := by
    have : C = 4294967296 * (C / 4294967296) + C % 4294967296 := (Nat.div_add_mod C 4294967296).symm
    conv => rhs; rw [this, Nat.mul_add]
    rw [← Nat.add_assoc, Nat.pow_succ, W_eq, Nat.mul_assoc]
  rw [hC, Nat.mul_add, Nat.mul_add, ← hC] at e2
  have e3 : W ^ i * ((toL a).getD i 0 * (W ^ j * (toL b).getD j 0)) = W ^ (i + j) * ((toL a).getD i 0 * (toL b).getD j 0) := by
    rw [Nat.pow_add]; simp only [Nat.mul_assoc]; rw [Nat.mul_left_comm ((toL a).getD i 0)]
  omega
theorem MulJ.done {a b : Nat} {out : List Nat} {i j c : Nat} (h : MulJ a b out i j c) (hi : i < (toL a).length) (hj : j = (toL b).length) : MulI a b (out.set (i + j) (c % 4294967296)) (i + 1) := by
  obtain ⟨h1, h2, h3, h4, h5⟩ := h
  rw [Nat.mod_eq_of_lt h3]
  refine ⟨by simpa using h1, h2.set _ h3, ?_, fun m hm => ?_⟩
  · have e1 := lv_set (xs := out) (i := i + j) (v := c) (by omega)
    rw [h5 (i + j) (by omega)] at e1
    rw [hj, take_of_le (Nat.le_refl _), lv_toL] at h4
    rw [lv_take_succ', Nat.add_mul, hj]
    rw [hj] at e1
    have : W ^ i * (toL a).getD i 0 * b = W ^ i * ((toL a).getD i 0 * b) := Nat.mul_assoc _ _ _
    omega
  · by_cases e : i + j = m
    · omega
    · rw [getD_set_ne e]; exact h5 m (by omega)
theorem MulI.done {a b : Nat} {out : List Nat} {i : Nat} (h : MulI a b out i) (hi : i = (toL a).length) : lv out = a * b := by
  rw [h.2.2.1, hi, take_of_le (Nat.le_refl _), lv_toL]
/-! the division by one limb -/
def ShoI (a d : Nat) (out : List Nat) (m r : Nat) : Prop := out.length = (toL a).length ∧ Lb out ∧ r < d ∧ lv out * d + W ^ m * r + lv ((toL a).take m) = a ∧ ∀ i, i < m → out.getD i 0 = 0
theorem ShoI.start {a d : Nat} (hd : 0 < d) : ShoI a d (List.replicate (toL a).length 0) (toL a).length 0 :=
  ⟨by simp, Lb.rep _, hd, by rw [lv_rep, take_of_le (Nat.le_refl _), lv_toL]; simp, fun i _ => getD_rep _ _⟩
theorem ShoI.step {a d : Nat} {out : List Nat} {m r : Nat} (h : ShoI a d out m r) (hd : d < 4294967296) (hm : 0 < m) (hl : m ≤ (toL a).length) :
    ShoI a d (out.set (m - 1) ((r * 2 ^ 32 + (toL a).getD (m - 1) 0) / d)) (m - 1) ((r * 2 ^ 32 + (toL a).getD (m - 1) 0) % d) := by
  obtain ⟨h1, h2, h3, h4, h5⟩ := h
  have hx : (toL a).getD (m - 1) 0 < 4294967296 := (Lb_toL a).getD _
  obtain ⟨k, rfl⟩ : ∃ k, m = k + 1 := ⟨m - 1, by omega⟩
  rw [show k + 1 - 1 = k from rfl] at hx ⊢
  have hq : (r * 2 ^ 32 + (toL a).getD k 0) / d < 4294967296 := by
    apply (Nat.div_lt_iff_lt_mul (by omega)).2
    have : r + 1 ≤ d := h3
    have h6 : (r + 1) * 4294967296 ≤ d * 4294967296 := Nat.mul_le_mul_right _ this
    have h7 : (4294967296 : Nat) * d = d * 4294967296 := Nat.mul_comm _ _
    omega
  generalize hQ : (r * 2 ^ 32 + (toL a).getD k 0) / d = q at *
  generalize hR : (r * 2 ^ 32 + (toL a).getD k 0) % d = r'
  have hqr : d * q + r' = r * 2 ^ 32 + (toL a).getD k 0 := by rw [← hQ, ← hR]; exact Nat.div_add_mod _ _
  refine ⟨by simpa using h1, h2.set _ hq, by rw [← hR]; exact Nat.mod_lt _ (by omega), ?_, fun i hi => by rw [getD_set_ne (by omega)]; exact h5 i (by omega)⟩
  have e1 := lv_set (xs := out) (i := k) (v := q) (by omega)
  rw [h5 k (by omega), Nat.mul_zero, Nat.add_zero] at e1
  rw [lv_take_succ'] at h4
  rw [e1, Nat.add_mul]
  have e2 : W ^ k * q * d + W ^ k * r' = W ^ (k + 1) * r + W ^ k * (toL a).getD k 0 := by
    rw [Nat.mul_assoc, ← Nat.mul_add, Nat.mul_comm q d, hqr, Nat.mul_add, show (2 : Nat) ^ 32 = 4294967296 from rfl, Nat.pow_succ, Nat.mul_assoc, Nat.mul_comm r, W_eq]
  omega
theorem ShoI.done {a d : Nat} {out : List Nat} {r : Nat} (h : ShoI a d out 0 r) : lv out = a / d ∧ r = a % d := by
  obtain ⟨h1, h2, h3, h4, h5⟩ := h
  have h6 : d * lv out + r = a := by
    have : lv out * d = d * lv out := Nat.mul_comm _ _
    simp [lv] at h4
    omega
  have hd : 0 < d := by omega
  constructor
  · rw [← h6, Nat.mul_add_div hd, Nat.div_eq_of_lt h3, Nat.add_zero]
  · rw [← h6, Nat.mul_add_mod, Nat.mod_eq_of_lt h3]
theorem div32_q {hi lo y : Nat} (h : hi < y) (hlo : lo < 4294967296) : (hi * 2 ^ 32 + lo) / y < 4294967296 := by
  apply (Nat.div_lt_iff_lt_mul (by omega)).2
  have h6 : (hi + 1) * 4294967296 ≤ y * 4294967296 := Nat.mul_le_mul_right _ h
  have h7 : (4294967296 : Nat) * y = y * 4294967296 := Nat.mul_comm _ _
  omega
end Go.Proofs.YtegnonhgildhoaaGreat.E
