/- Integers by sign and limbs. -/
import Derived.Test.YtegnonhgildhoaaGreatN6
namespace Go.Proofs.YtegnonhgildhoaaGreat.E
open Go Go.RowKit
set_option linter.unusedVariables false
set_option linter.unusedSimpArgs false
def encZ (n : Int) : RawI := ⟨decide (n < 0), toL n.natAbs⟩
def validZ (z : RawI) : Bool := validU z.mag && (!z.mag.isEmpty || !z.neg)
def zv (z : RawI) : Int := if validZ z then (if z.neg then -((lv z.mag : Nat) : Int) else (lv z.mag : Nat)) else 0
def sgn (b : Bool) (m : Nat) : Int := if b then -(m : Int) else m
theorem toL_isEmpty (n : Nat) : (toL n).isEmpty = decide (n = 0) := by
  rw [Bool.eq_iff_iff, List.isEmpty_iff, toL_nil]; simp
theorem toL_len0 {n : Nat} : (toL n).length = 0 ↔ n = 0 := by rw [List.length_eq_zero_iff, toL_nil]
theorem toL_len_pos {n : Nat} : 0 < (toL n).length ↔ n ≠ 0 := by have := toL_len0 (n := n); omega
theorem validZ_encZ (n : Int) : validZ (encZ n) = true := by
  simp only [validZ, encZ, validU_toL, toL_isEmpty, Bool.true_and]
  by_cases h : n < 0 <;> simp [h] <;> omega
theorem zv_encZ (n : Int) : zv (encZ n) = n := by
  rw [zv, if_pos (validZ_encZ n)]
  simp only [encZ, lv_toL]
  by_cases h : n < 0 <;> simp [h] <;> omega
theorem zv_nil : zv ⟨false, []⟩ = 0 := by simp [zv, lv]
theorem encZ_zero : encZ 0 = ⟨false, []⟩ := by simp [encZ, toL_zero]
theorem encZ_zv {z : RawI} (hb : Lb z.mag) (h : validZ z = true) : encZ (zv z) = z := by
  rw [zv, if_pos h]
  simp only [validZ, Bool.and_eq_true, Bool.or_eq_true] at h
  obtain ⟨n, m⟩ := z
  simp only at *
  have e := toL_lv hb h.1
  cases n with
  | false => simp [encZ, e]
  | true =>
    have hne : m ≠ [] := by simpa [List.isEmpty_iff] using h.2
    have hp := lv_pos h.1 hne
    simp [encZ, e]; omega
theorem encZ_zv_f {z : RawI} (h : validZ z = false) : encZ (zv z) = ⟨false, []⟩ := by
  rw [zv, if_neg (by simp [h]), encZ_zero]
theorem zv_len {z : RawI} (hb : Lb z.mag) : (toL (zv z).natAbs).length ≤ z.mag.length := by
  cases h : validZ z with
  | true =>
    have e := encZ_zv hb h
    have : (encZ (zv z)).mag = z.mag := by rw [e]
    rw [← this]; exact Nat.le_refl _
  | false => rw [zv, if_neg (by simp [h])]; simp [toL_zero]
theorem encZ_sgn (b : Bool) (m : Nat) : encZ (sgn b m) = ⟨b && decide (m ≠ 0), toL m⟩ := by
  cases b with
  | false => simp [encZ, sgn] <;> omega
  | true => simp [encZ, sgn]; by_cases h : m = 0 <;> simp [h] <;> omega
theorem sgn_self (n : Int) : sgn (decide (n < 0)) n.natAbs = n := by
  by_cases h : n < 0 <;> simp [sgn, h] <;> omega
theorem sgn_not (n : Int) : sgn (!decide (n < 0)) n.natAbs = -n := by
  by_cases h : n < 0 <;> simp [sgn, h] <;> omega
theorem sgn_add {a b : Int} (h : (decide (a < 0) == decide (b < 0)) = true) : sgn (decide (a < 0)) (a.natAbs + b.natAbs) = a + b := by
  by_cases ha : a < 0 <;> by_cases hb : b < 0 <;> simp [sgn, ha, hb] at h ⊢ <;> omega
theorem sgn_sub {a b : Int} (h : (decide (a < 0) == decide (b < 0)) = false) (hl : b.natAbs ≤ a.natAbs) : sgn (decide (a < 0)) (a.natAbs - b.natAbs) = a + b := by
  by_cases ha : a < 0 <;> by_cases hb : b < 0 <;> simp [sgn, ha, hb] at h ⊢ <;> omega
theorem sgn_sub' {a b : Int} (h : (decide (a < 0) == decide (b < 0)) = false) (hl : ¬ b.natAbs ≤ a.natAbs) : sgn (decide (b < 0)) (b.natAbs - a.natAbs) = a + b := by
  by_cases ha : a < 0 <;> by_cases hb : b < 0 <;> simp [sgn, ha, hb] at h ⊢ <;> omega
theorem sgn_mul (a b : Int) : sgn (decide (a < 0) != decide (b < 0)) (a.natAbs * b.natAbs) = a * b := by
  have key : ∀ (p q : Nat) (s t : Bool), sgn (s != t) (p * q) = sgn s p * sgn t q := fun p q s t => by
    cases s <;> cases t <;> simp [sgn, Int.neg_mul, Int.mul_neg]
  have hz : ∀ (p q : Nat) , True := fun _ _ => trivial
  rw [key, sgn_self, sgn_self]
def cmpI (a b : Int) : Int := if a < b then -1 else if a > b then 1 else 0
theorem cmpI_wrap (a b : Int) : IntKind.i64.wrap (cmpI a b) = cmpI a b := by
  unfold cmpI; split
  · rfl
  · split <;> rfl
theorem cmpI_of_sign_lt {a b : Int} (h : Int.sign a < Int.sign b) : cmpI a b = -1 := by
  unfold cmpI
  rw [if_pos]
  rcases Int.lt_trichotomy a 0 with ha | ha | ha <;> rcases Int.lt_trichotomy b 0 with hb | hb | hb <;>
    simp [Int.sign_eq_neg_one_of_neg, Int.sign_eq_one_of_pos, ha, hb] at h <;> omega
theorem cmpI_of_sign_gt {a b : Int} (h : Int.sign a > Int.sign b) : cmpI a b = 1 := by
  have : b < a := by
    rcases Int.lt_trichotomy a 0 with ha | ha | ha <;> rcases Int.lt_trichotomy b 0 with hb | hb | hb <;>
      simp [Int.sign_eq_neg_one_of_neg, Int.sign_eq_one_of_pos, ha, hb] at h <;> omega
  unfold cmpI
  rw [if_neg (by omega), if_pos this]
theorem cmpN_cases (a b : Nat) : (a < b ∧ cmpN a b = -1) ∨ (a = b ∧ cmpN a b = 0) ∨ (b < a ∧ cmpN a b = 1) := by
  unfold cmpN; rcases Nat.lt_trichotomy a b with h | h | h
  · left; simp [h]
  · right; left; simp [h]
  · right; right; refine ⟨h, ?_⟩; rw [if_neg (by omega)]; simp [h]
theorem cmpI_same {a b : Int} (h1 : ¬ Int.sign a < Int.sign b) (h2 : ¬ Int.sign a > Int.sign b) : Int.sign a * cmpN a.natAbs b.natAbs = cmpI a b := by
  have h : Int.sign a = Int.sign b := by omega
  unfold cmpI
  rcases cmpN_cases a.natAbs b.natAbs with ⟨h3, h4⟩ | ⟨h3, h4⟩ | ⟨h3, h4⟩ <;> rw [h4] <;>
  rcases Int.lt_trichotomy a 0 with ha | ha | ha <;> rcases Int.lt_trichotomy b 0 with hb | hb | hb <;>
    simp [Int.sign_eq_neg_one_of_neg, Int.sign_eq_one_of_pos, ha, hb] at h ⊢ <;> (try split) <;> (try split) <;> omega
end Go.Proofs.YtegnonhgildhoaaGreat.E
