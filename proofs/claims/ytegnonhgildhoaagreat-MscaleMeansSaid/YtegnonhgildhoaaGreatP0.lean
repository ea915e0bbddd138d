/- Plain laws of rational numbers, sums and the biweight scale: no program. -/
import Derived.Test.YtegnonhgildhoaaGreatN8
namespace Go.Proofs.YtegnonhgildhoaaGreat.E
set_option linter.unusedVariables false
set_option linter.unusedSimpArgs false
theorem rle_trans {a b c : Rat} (h : a ≤ b) (g : b ≤ c) : a ≤ c := by grind
theorem rmul_le {a b c : Rat} (h : a ≤ b) (hc : 0 ≤ c) : c * a ≤ c * b := Rat.mul_le_mul_of_nonneg_left h hc
theorem rsq (a : Rat) : 0 ≤ a * a := by
  rcases Rat.le_total (a := 0) (b := a) with h | h
  · exact Rat.mul_nonneg h h
  · have := Rat.mul_nonneg (a := -a) (b := -a) (by grind) (by grind)
    grind
theorem rsq_pos {a : Rat} (h : a ≠ 0) : 0 < a * a := by
  have h1 := rsq a
  have h2 : a * a ≠ 0 := by
    intro e
    rcases Rat.mul_eq_zero.1 e with e | e <;> exact h e
  grind
theorem rinv_nn {a : Rat} (h : 0 ≤ a) : 0 ≤ a⁻¹ := by
  by_cases h0 : a = 0
  · rw [h0, Rat.inv_zero]; exact Rat.le_refl
  · have : 0 < a⁻¹ := Rat.inv_pos.2 (by grind)
    grind
theorem rdiv_nn {a b : Rat} (ha : 0 ≤ a) (hb : 0 ≤ b) : 0 ≤ a / b := by
  rw [Rat.div_def]; exact Rat.mul_nonneg ha (rinv_nn hb)
theorem rdiv_le_div {a b c : Rat} (h : a ≤ b) (hc : 0 ≤ c) : a / c ≤ b / c := by
  rw [Rat.div_def, Rat.div_def]; exact Rat.mul_le_mul_of_nonneg_right h (rinv_nn hc)
theorem rdiv_cancel {a b : Rat} (hb : b ≠ 0) : a / b * b = a := by grind
theorem rle_div {a b c : Rat} (hb : 0 < b) (h : a * b ≤ c) : a ≤ c / b := by
  have := rdiv_le_div h (Rat.le_of_lt hb)
  have e : a * b / b = a := by grind
  rwa [e] at this
theorem rdiv_le {a b c : Rat} (hb : 0 < b) (h : c ≤ a * b) : c / b ≤ a := by
  have := rdiv_le_div h (Rat.le_of_lt hb)
  have e : a * b / b = a := by grind
  rwa [e] at this
theorem rcast_pos {n : Nat} (h : 0 < n) : (0 : Rat) < ((n : Int) : Rat) := by
  have : ((0 : Int) : Rat) < ((n : Int) : Rat) := Rat.intCast_lt_intCast.2 (by omega)
  simpa using this
theorem rcast_succ (n : Nat) : (((n + 1 : Nat) : Int) : Rat) = ((n : Int) : Rat) + 1 := by
  rw [show ((n + 1 : Nat) : Int) = (n : Int) + 1 from by omega, Rat.intCast_add]; rfl
/-! sums -/
def sumN (f : Nat → Rat) : Nat → Rat
  | 0 => 0
  | k + 1 => sumN f k + f k
theorem sumN_congr {f g : Nat → Rat} {n : Nat} (h : ∀ i, i < n → f i = g i) : sumN f n = sumN g n := by
  induction n with
  | zero => rfl
  | succ k ih => rw [sumN, sumN, ih (fun i hi => h i (by omega)), h k (by omega)]
theorem sumN_le {f g : Nat → Rat} {n : Nat} (h : ∀ i, i < n → f i ≤ g i) : sumN f n ≤ sumN g n := by
  induction n with
  | zero => exact Rat.le_refl
  | succ k ih =>
    have h1 := ih (fun i hi => h i (by omega))
    have h2 := h k (by omega)
    rw [sumN, sumN]; grind
theorem sumN_const (c : Rat) (n : Nat) : sumN (fun _ => c) n = ((n : Int) : Rat) * c := by
  induction n with
  | zero => rw [sumN]; grind
  | succ k ih => rw [sumN, ih, rcast_succ]; grind
def cntN (p : Nat → Bool) : Nat → Nat
  | 0 => 0
  | k + 1 => cntN p k + if p k then 1 else 0
theorem cntN_le (p : Nat → Bool) (n : Nat) : cntN p n ≤ n := by
  induction n with
  | zero => exact Nat.le_refl _
  | succ k ih => rw [cntN]; split <;> omega
theorem cntN_sum (p : Nat → Bool) (n : Nat) : ((cntN p n : Int) : Rat) = sumN (fun i => if p i then 1 else 0) n := by
  induction n with
  | zero => rfl
  | succ k ih =>
    rw [cntN, sumN, ← ih]
    by_cases h : p k
    · rw [if_pos h, if_pos h, rcast_succ]
    · rw [if_neg h, if_neg h]; grind
/-! the biweight -/
def rhoQ (u : Rat) : Rat := if u < 0 then 0 else if 1 < u then 1 else 1 - (1 - u) * ((1 - u) * (1 - u))
theorem rho_ge1 {u : Rat} (h : 1 ≤ u) : rhoQ u = 1 := by
  unfold rhoQ
  rw [if_neg (by grind)]
  split
  · rfl
  · have : u = 1 := by grind
    subst this; grind
theorem rho_in {u : Rat} (h : 0 ≤ u) (h1 : u ≤ 1) : rhoQ u = 1 - (1 - u) * ((1 - u) * (1 - u)) := by
  unfold rhoQ
  rw [if_neg (by grind), if_neg (by grind)]
theorem rho_zero : rhoQ 0 = 0 := by rw [rho_in (by grind) (by grind)]; grind
theorem rho_le1 (u : Rat) : rhoQ u ≤ 1 := by
  by_cases h : u < 0
  · unfold rhoQ; rw [if_pos h]; grind
  · by_cases h1 : u ≤ 1
    · rw [rho_in (by grind) h1]
      have := Rat.mul_nonneg (a := 1 - u) (b := (1 - u) * (1 - u)) (by grind) (rsq _)
      grind
    · rw [rho_ge1 (by grind)]; grind
theorem rho_le3 {u : Rat} (h : 0 ≤ u) : rhoQ u ≤ 3 * u := by
  by_cases h1 : u ≤ 1
  · rw [rho_in h h1]
    have := Rat.mul_nonneg (a := u * u) (b := 3 - u) (rsq u) (by grind)
    grind
  · have := rho_le1 u; grind
def vals (ps : List PR) : Nat → Rat := fun i => qv (ps.getD i pr0).2
def meanN (x : Nat → Rat) (n : Nat) (c s : Rat) : Rat := sumN (fun i => rhoQ (x i * x i / (c * s))) n / ((n : Int) : Rat)
def shareN (x : Nat → Rat) (n : Nat) : Rat := ((cntN (fun i => decide (x i ≠ 0)) n : Int) : Rat) / ((n : Int) : Rat)
theorem mean_low {x : Nat → Rat} {n : Nat} {c s : Rat} (hcs : 0 < c * s) (h : ∀ i, i < n → x i ≠ 0 → c * s ≤ x i * x i) : meanN x n c s = shareN x n := by
  unfold meanN shareN
  rw [cntN_sum]
  congr 1
  refine sumN_congr (fun i hi => ?_)
  show _ = if decide (x i ≠ 0) = true then (1 : Rat) else 0
  by_cases h0 : x i = 0
  · rw [h0, if_neg (by simp), show (0 : Rat) * 0 / (c * s) = 0 from by grind, rho_zero]
  · rw [if_pos (by simp [h0]), rho_ge1 (rle_div hcs (by have := h i hi h0; grind))]
theorem mean_high {x : Nat → Rat} {n : Nat} {c s m : Rat} (hn : 0 < n) (hcs : 0 < c * s) (h : ∀ i, i < n → x i * x i ≤ m) : meanN x n c s ≤ 3 * (m / (c * s)) := by
  unfold meanN
  refine rdiv_le (rcast_pos hn) ?_
  have : sumN (fun i => rhoQ (x i * x i / (c * s))) n ≤ sumN (fun _ => 3 * (m / (c * s))) n := sumN_le (fun i hi => by
    have h1 := rho_le3 (rdiv_nn (rsq (x i)) (Rat.le_of_lt hcs))
    have h2 := rdiv_le_div (h i hi) (Rat.le_of_lt hcs)
    grind)
  rw [sumN_const] at this
  grind
end Go.Proofs.YtegnonhgildhoaaGreat.E
