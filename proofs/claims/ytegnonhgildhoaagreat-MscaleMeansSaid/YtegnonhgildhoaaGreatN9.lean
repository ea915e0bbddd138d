/- The reference's naturals: limbs one behind the other, bits. -/
import Derived.Test.YtegnonhgildhoaaGreatN8
namespace Go.Proofs.YtegnonhgildhoaaGreat.E
open Go Go.RowKit
set_option linter.unusedVariables false
set_option linter.unusedSimpArgs false
theorem carry0 {P c S T : Nat} (h : S + P * c = T) (hT : T < P) : c = 0 ∧ S = T := by
  rcases Nat.eq_zero_or_pos c with h0 | h0
  · subst h0; exact ⟨rfl, by simpa using h⟩
  · have := Nat.le_mul_of_pos_right P h0
    generalize P * c = z at *
    omega
def AddR (a b : Nat) (out : List Nat) (i c : Nat) : Prop := out.length = i ∧ Lb out ∧ c ≤ 1 ∧ lv out + W ^ i * c = lv ((toL a).take i) + lv ((toL b).take i)
theorem AddR.start (a b : Nat) : AddR a b [] 0 0 := ⟨rfl, Lb_nil, by omega, by simp [lv]⟩
theorem AddR.step {a b : Nat} {out : List Nat} {i c : Nat} (h : AddR a b out i c) :
    AddR a b (out ++ [((toL a).getD i 0 + (toL b).getD i 0 + c) % 4294967296]) (i + 1) (((toL a).getD i 0 + (toL b).getD i 0 + c) / 2 ^ 32) := by
  obtain ⟨h1, h2, h3, h4⟩ := h
  have hx : (toL a).getD i 0 < 4294967296 := (Lb_toL a).getD i
  have hy : (toL b).getD i 0 < 4294967296 := (Lb_toL b).getD i
  rw [show (2 : Nat) ^ 32 = 4294967296 from rfl]
  refine ⟨by simp [h1], h2.append (Lb.one (Nat.mod_lt _ (by decide))), by omega, ?_⟩
  rw [lv_snoc, h1, lv_take_succ', lv_take_succ', Nat.pow_succ]
  have e1 : W ^ i * (((toL a).getD i 0 + (toL b).getD i 0 + c) % 4294967296) + W ^ i * W * (((toL a).getD i 0 + (toL b).getD i 0 + c) / 4294967296) = W ^ i * (toL a).getD i 0 + W ^ i * (toL b).getD i 0 + W ^ i * c := by
    rw [Nat.mul_assoc, ← Nat.mul_add, W_eq, Nat.mod_add_div, Nat.mul_add, Nat.mul_add]
  omega
theorem AddR.done {a b : Nat} {out : List Nat} {i c : Nat} (h : AddR a b out i c) (ha : (toL a).length < i) (hb : (toL b).length < i) : Lb out ∧ lv out = a + b := by
  obtain ⟨h1, h2, h3, h4⟩ := h
  rw [take_of_le (by omega), take_of_le (by omega), lv_toL, lv_toL] at h4
  refine ⟨h2, ?_⟩
  obtain ⟨k, rfl⟩ : ∃ k, i = k + 1 := ⟨i - 1, by omega⟩
  exact (carry0 h4 (add_lt_pow (lt_of_length (Nat.le_of_lt_succ ha)) (lt_of_length (Nat.le_of_lt_succ hb)))).2
def SubR (a b : Nat) (out : List Nat) (i c : Nat) : Prop := out.length = i ∧ Lb out ∧ c ≤ 1 ∧ lv out + lv ((toL b).take i) = lv ((toL a).take i) + W ^ i * c
theorem SubR.start (a b : Nat) : SubR a b [] 0 0 := ⟨rfl, Lb_nil, by omega, by simp [lv]⟩
theorem SubR.bo {x y c : Nat} (hx : x < 4294967296) (hy : y < 4294967296) (hc : c ≤ 1) : (x + 4294967296 - y - c) / 2 ^ 32 ≤ 1 := by
  rw [show (2 : Nat) ^ 32 = 4294967296 from rfl]; omega
theorem SubR.step {a b : Nat} {out : List Nat} {i c : Nat} (h : SubR a b out i c) :
    SubR a b (out ++ [((toL a).getD i 0 + 4294967296 - (toL b).getD i 0 - c) % 4294967296]) (i + 1) (1 - ((toL a).getD i 0 + 4294967296 - (toL b).getD i 0 - c) / 2 ^ 32) := by
  obtain ⟨h1, h2, h3, h4⟩ := h
  have hx : (toL a).getD i 0 < 4294967296 := (Lb_toL a).getD i
  have hy : (toL b).getD i 0 < 4294967296 := (Lb_toL b).getD i
  rw [show (2 : Nat) ^ 32 = 4294967296 from rfl]
  generalize hx' : (toL a).getD i 0 = x at *
  generalize hy' : (toL b).getD i 0 = y at *
  have key : (x + 4294967296 - y - c) % 4294967296 + y + c = x + 4294967296 * (1 - (x + 4294967296 - y - c) / 4294967296) := by omega
  generalize (x + 4294967296 - y - c) % 4294967296 = d at *
  generalize hk : 1 - (x + 4294967296 - y - c) / 4294967296 = c' at *
  refine ⟨by simp [h1], h2.append (Lb.one (by show d < 4294967296; omega)), by omega, ?_⟩
  rw [lv_snoc, h1, lv_take_succ', lv_take_succ', Nat.pow_succ, hx', hy']
  have e1 : W ^ i * d + W ^ i * y + W ^ i * c = W ^ i * x + W ^ i * W * c' := by
    rw [← Nat.mul_add, ← Nat.mul_add, key, Nat.mul_add, W_eq, Nat.mul_assoc]
  omega
theorem SubR.done {a b : Nat} {out : List Nat} {i c : Nat} (h : SubR a b out i c) (hi : i = (toL a).length) (hab : b ≤ a) : Lb out ∧ lv out = a - b := by
  obtain ⟨h1, h2, h3, h4⟩ := h
  have hb : (toL b).length ≤ i := by rw [hi]; exact length_toL_mono hab
  rw [take_of_le (by omega : (toL a).length ≤ i), take_of_le hb, lv_toL, lv_toL] at h4
  have hlt := lv_lt h2
  rw [h1] at hlt
  refine ⟨h2, ?_⟩
  have hc : c = 0 := by
    apply Nat.eq_zero_of_not_pos
    intro hp
    have : W ^ i * 1 ≤ W ^ i * c := Nat.mul_le_mul_left _ hp
    omega
  rw [hc] at h4; omega
def TimR (a v by_ : Nat) (out : List Nat) (i c : Nat) : Prop := out.length = by_ + i ∧ Lb out ∧ c < 4294967296 ∧ lv out + W ^ (by_ + i) * c = W ^ by_ * (lv ((toL a).take i) * v)
theorem TimR.start (a v by_ : Nat) : TimR a v by_ (List.replicate by_ 0) 0 0 := ⟨by simp, Lb.rep _, by omega, by simp [lv, lv_rep]⟩
theorem TimR.step {a v by_ : Nat} {out : List Nat} {i c : Nat} (h : TimR a v by_ out i c) (hv : v < 4294967296) :
    TimR a v by_ (out ++ [((toL a).getD i 0 * v + c) % 4294967296]) (i + 1) (((toL a).getD i 0 * v + c) / 2 ^ 32) := by
  obtain ⟨h1, h2, h3, h4⟩ := h
  have hx : (toL a).getD i 0 < 4294967296 := (Lb_toL a).getD i
  have hxy := mul_bound hx hv
  rw [show (2 : Nat) ^ 32 = 4294967296 from rfl]
  refine ⟨by simp; omega, h2.append (Lb.one (Nat.mod_lt _ (by decide))), by omega, ?_⟩
  rw [lv_snoc, h1, lv_take_succ', ← Nat.add_assoc, Nat.pow_succ]
  have e1 : W ^ (by_ + i) * (((toL a).getD i 0 * v + c) % 4294967296) + W ^ (by_ + i) * W * (((toL a).getD i 0 * v + c) / 4294967296) = W ^ (by_ + i) * ((toL a).getD i 0 * v) + W ^ (by_ + i) * c := by
    rw [Nat.mul_assoc, ← Nat.mul_add, W_eq, Nat.mod_add_div, Nat.mul_add]
  have e2 : W ^ by_ * ((lv ((toL a).take i) + W ^ i * (toL a).getD i 0) * v) = W ^ by_ * (lv ((toL a).take i) * v) + W ^ (by_ + i) * ((toL a).getD i 0 * v) := by
    rw [Nat.add_mul, Nat.mul_add, Nat.pow_add, Nat.mul_assoc (W ^ i), Nat.mul_assoc (W ^ by_)]
  omega
theorem TimR.done {a v by_ : Nat} {out : List Nat} {i c : Nat} (h : TimR a v by_ out i c) (hi : (toL a).length < i) (hv : v < 4294967296) : Lb out ∧ lv out = W ^ by_ * (a * v) := by
  obtain ⟨h1, h2, h3, h4⟩ := h
  rw [take_of_le (by omega), lv_toL] at h4
  refine ⟨h2, ?_⟩
  obtain ⟨k, rfl⟩ : ∃ k, i = k + 1 := ⟨i - 1, by omega⟩
  have h5 : a * v < W ^ (k + 1) := mul_lt_pow (lt_of_length (Nat.le_of_lt_succ hi)) (by rw [Nat.pow_one]; exact hv)
  refine (carry0 h4 ?_).2
  rw [Nat.pow_add]
  exact Nat.mul_lt_mul_of_pos_left h5 (Wpos _)
theorem getD_toL (a : Nat) : ∀ i, (toL a).getD i 0 = a / W ^ i % W := by
  intro i
  induction i generalizing a with
  | zero =>
    by_cases h : a = 0
    · subst h; simp [toL_zero]
    · rw [toL_pos h]; simp
  | succ i ih =>
    by_cases h : a = 0
    · subst h; simp [toL_zero]
    · rw [toL_pos h]
      show (toL (a / W)).getD i 0 = _
      rw [ih, Nat.div_div_eq_div_mul, Nat.pow_succ, Nat.mul_comm W]
theorem bit_val (a i : Nat) : (toL a).getD (i / 32) 0 / 2 ^ (i % 32) % 2 = a / 2 ^ i % 2 := by
  rw [getD_toL]
  have hW : W = 2 ^ (32 - i % 32) * 2 ^ (i % 32) := by rw [← Nat.pow_add, show 32 - i % 32 + i % 32 = 32 by omega]
  have h2 : 2 ^ (32 - i % 32) = 2 * 2 ^ (31 - i % 32) := by rw [show 32 - i % 32 = (31 - i % 32) + 1 by omega, Nat.pow_succ, Nat.mul_comm]
  have e : a / 2 ^ i = a / W ^ (i / 32) / 2 ^ (i % 32) := by
    rw [Nat.div_div_eq_div_mul]
    congr 1
    rw [show W = 2 ^ 32 from rfl, ← Nat.pow_mul, ← Nat.pow_add]
    congr 1; omega
  rw [e]
  generalize a / W ^ (i / 32) = x
  rw [hW, Nat.mul_comm, Nat.mod_mul_right_div_self, h2, Nat.mod_mul_right_mod]
/-- The reference's division, bit by bit. -/
def DivR (a b q r m : Nat) : Prop := a / 2 ^ m = b * q + r ∧ r < b
theorem DivR.step {a b q r m : Nat} (h : DivR a b q r (m + 1)) : DivR a b (if b ≤ 2 * r + a / 2 ^ m % 2 then 2 * q + 1 else 2 * q) (if b ≤ 2 * r + a / 2 ^ m % 2 then 2 * r + a / 2 ^ m % 2 - b else 2 * r + a / 2 ^ m % 2) m := by
  obtain ⟨h1, h2⟩ := h
  have e : a / 2 ^ m = 2 * (a / 2 ^ (m + 1)) + a / 2 ^ m % 2 := by
    rw [Nat.pow_succ, ← Nat.div_div_eq_div_mul]; omega
  have hb := Nat.mod_lt (a / 2 ^ m) (by decide : 0 < 2)
  generalize a / 2 ^ m % 2 = t at *
  rw [h1, Nat.mul_add] at e
  have e3 : b * (2 * q) = 2 * (b * q) := Nat.mul_left_comm _ _ _
  unfold DivR
  rw [e]
  split
  · rw [Nat.mul_add, e3]; omega
  · rw [e3]; omega
theorem DivR.start {a b : Nat} (hb : 0 < b) : DivR a b 0 0 (32 * (toL a).length) := by
  have : a < W ^ (toL a).length := lt_of_length (Nat.le_refl _)
  rw [show W = 2 ^ 32 from rfl, ← Nat.pow_mul] at this
  exact ⟨by rw [Nat.div_eq_of_lt this]; simp, hb⟩
theorem DivR.done {a b q r : Nat} (h : DivR a b q r 0) : q = a / b ∧ r = a % b := by
  obtain ⟨h1, h2⟩ := h
  rw [Nat.pow_zero, Nat.div_one] at h1
  have hb : 0 < b := by omega
  exact ⟨by rw [h1, Nat.mul_add_div hb, Nat.div_eq_of_lt h2, Nat.add_zero], by rw [h1, Nat.mul_add_mod, Nat.mod_eq_of_lt h2]⟩
theorem DivR.q_le {a b q r m : Nat} (h : DivR a b q r m) : q ≤ a ∧ r ≤ a := by
  obtain ⟨h1, h2⟩ := h
  have h3 : a / 2 ^ m ≤ a := Nat.div_le_self _ _
  have h4 : 1 * q ≤ b * q := Nat.mul_le_mul_right _ (by omega)
  omega
end Go.Proofs.YtegnonhgildhoaaGreat.E
