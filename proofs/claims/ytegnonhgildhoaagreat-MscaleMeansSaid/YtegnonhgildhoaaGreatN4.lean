/- The long division: lengths in bits, shifted limbs, the guess of a limb, segments of limbs. -/
import Derived.Test.YtegnonhgildhoaaGreatN3
namespace Go.Proofs.YtegnonhgildhoaaGreat.E
open Go Go.RowKit
set_option linter.unusedVariables false
set_option linter.unusedSimpArgs false
/-! bits -/
def bl (n : Nat) : Nat := if n = 0 then 0 else n.log2 + 1
theorem bl_iff {n k : Nat} (hn : n ≠ 0) : bl n = k + 1 ↔ 2 ^ k ≤ n ∧ n < 2 ^ (k + 1) := by
  unfold bl
  rw [if_neg hn]
  constructor
  · intro h
    have : n.log2 = k := by omega
    exact (Nat.log2_eq_iff hn).1 this
  · intro h
    rw [(Nat.log2_eq_iff hn).2 h]
theorem bl_spec {n : Nat} (hn : n ≠ 0) : 0 < bl n ∧ 2 ^ (bl n - 1) ≤ n ∧ n < 2 ^ bl n := by
  have h0 : 0 < bl n := by unfold bl; rw [if_neg hn]; omega
  have := (bl_iff hn (k := bl n - 1)).1 (by omega)
  refine ⟨h0, this.1, ?_⟩
  have h2 := this.2
  rwa [show bl n - 1 + 1 = bl n by omega] at h2
theorem bl_shift {n k : Nat} (h : 2 ^ k ≤ n) : bl n = bl (n / 2 ^ k) + k := by
  have hp : 0 < 2 ^ k := Nat.pow_pos (by decide)
  have hn : n ≠ 0 := by omega
  have hq : n / 2 ^ k ≠ 0 := by have := Nat.div_pos h hp; omega
  obtain ⟨h0, h1, h2⟩ := bl_spec hq
  have hb : bl n = (bl (n / 2 ^ k) - 1 + k) + 1 := by
    apply (bl_iff hn).2
    constructor
    · rw [Nat.pow_add]; exact (Nat.le_div_iff_mul_le hp).1 h1
    · have := (Nat.div_lt_iff_lt_mul hp).1 h2
      rw [show bl (n / 2 ^ k) - 1 + k + 1 = bl (n / 2 ^ k) + k by omega, Nat.pow_add]
      exact this
  omega
theorem bl_le32 {n : Nat} (h : n < 4294967296) : bl n ≤ 32 := by
  by_cases hn : n = 0
  · subst hn; decide
  · obtain ⟨h0, h1, h2⟩ := bl_spec hn
    apply Nat.le_of_not_lt
    intro hlt
    have : 2 ^ 32 ≤ 2 ^ (bl n - 1) := Nat.pow_le_pow_right (by decide) (by omega)
    omega
theorem bl_top {n : Nat} (hn : n ≠ 0) (h : n < 4294967296) : 2147483648 ≤ n * 2 ^ (32 - bl n) ∧ n * 2 ^ (32 - bl n) < 4294967296 := by
  obtain ⟨h0, h1, h2⟩ := bl_spec hn
  have h32 := bl_le32 h
  constructor
  · have : 2 ^ (bl n - 1) * 2 ^ (32 - bl n) ≤ n * 2 ^ (32 - bl n) := Nat.mul_le_mul_right _ h1
    rw [← Nat.pow_add, show bl n - 1 + (32 - bl n) = 31 by omega] at this
    exact this
  · have : n * 2 ^ (32 - bl n) < 2 ^ bl n * 2 ^ (32 - bl n) := Nat.mul_lt_mul_of_pos_right h2 (Nat.pow_pos (by decide))
    rw [← Nat.pow_add, show bl n + (32 - bl n) = 32 by omega] at this
    exact this
/-! limbs moved to the left -/
def ShfI (a by_ : Nat) (out : List Nat) (k : Nat) : Prop := out.length = (toL a).length + 1 ∧ Lb out ∧ lv out = lv ((toL a).take k) * 2 ^ by_ ∧ out.getD k 0 < 2 ^ by_ ∧ ∀ m, k < m → out.getD m 0 = 0
theorem ShfI.start (a by_ : Nat) : ShfI a by_ (List.replicate ((toL a).length + 1) 0) 0 :=
  ⟨by simp, Lb.rep _, by rw [lv_rep]; simp [lv], by rw [getD_rep]; exact Nat.pow_pos (by decide), fun m _ => getD_rep _ _⟩
theorem pow_split {b : Nat} (hb : b ≤ 32) : 2 ^ b * 2 ^ (32 - b) = 4294967296 := by rw [← Nat.pow_add, show b + (32 - b) = 32 by omega]
theorem shl_mod {x b : Nat} (hb : b ≤ 32) : (x * 2 ^ b) % 4294967296 = (x % 2 ^ (32 - b)) * 2 ^ b := by
  rw [← pow_split hb, Nat.mul_comm (2 ^ b), Nat.mul_mod_mul_right]
theorem shl_div {x b : Nat} (hb : b ≤ 32) (hx : x < 4294967296) : (x * 2 ^ b) / 4294967296 < 2 ^ b := by
  apply (Nat.div_lt_iff_lt_mul (by decide)).2
  rw [Nat.mul_comm]; exact Nat.mul_lt_mul_of_pos_left hx (Nat.pow_pos (by decide))
theorem shl_or {x b o : Nat} (hb : b ≤ 32) (ho : o < 2 ^ b) : o ||| (x * 2 ^ b) % 4294967296 = o + (x * 2 ^ b) % 4294967296 := by
  rw [shl_mod hb, Nat.or_comm, or_shift _ _ _ ho, Nat.add_comm]
theorem shl_add_lt {x b o : Nat} (hb : b ≤ 32) (ho : o < 2 ^ b) : o + (x * 2 ^ b) % 4294967296 < 4294967296 := by
  rw [shl_mod hb]
  have h1 : x % 2 ^ (32 - b) + 1 ≤ 2 ^ (32 - b) := Nat.mod_lt _ (Nat.pow_pos (by decide))
  have h2 := Nat.mul_le_mul_right (2 ^ b) h1
  rw [Nat.add_mul, Nat.mul_comm (2 ^ (32 - b)), pow_split hb] at h2
  omega
theorem ShfI.step {a b : Nat} {out : List Nat} {k : Nat} (h : ShfI a b out k) (hk : k < (toL a).length) (hb : b < 32) :
    ShfI a b ((out.set k (out.getD k 0 + ((toL a).getD k 0 * 2 ^ b) % 4294967296)).set (k + 1) (((toL a).getD k 0 * 2 ^ b) / 2 ^ 32)) (k + 1) := by
  obtain ⟨h1, h2, h3, h4, h5⟩ := h
  have hx : (toL a).getD k 0 < 4294967296 := (Lb_toL a).getD k
  generalize hX : (toL a).getD k 0 = x at *
  have hd := shl_div (x := x) (b := b) (by omega) hx
  rw [show (2 : Nat) ^ 32 = 4294967296 from rfl]
  have hw : x * 2 ^ b < 2 ^ b * 4294967296 := by rw [Nat.mul_comm]; exact Nat.mul_lt_mul_of_pos_left hx (Nat.pow_pos (by decide))
  have hb2 : 2 ^ b ≤ 2 ^ 31 := Nat.pow_le_pow_right (by decide) (by omega)
  have hal := shl_add_lt (x := x) (b := b) (o := out.getD k 0) (by omega) h4
  have e1 := lv_set (xs := out) (i := k) (v := out.getD k 0 + (x * 2 ^ b) % 4294967296) (by omega)
  have e2 := lv_set (xs := out.set k (out.getD k 0 + (x * 2 ^ b) % 4294967296)) (i := k + 1) (v := (x * 2 ^ b) / 4294967296) (by simp; omega)
  rw [getD_set_ne (by omega), h5 (k + 1) (by omega), Nat.mul_zero, Nat.add_zero] at e2
  refine ⟨by simp; omega, (h2.set _ hal).set _ (by show _ < 4294967296; omega), ?_, ?_, fun m hm => ?_⟩
  · rw [e2, lv_take_succ', hX, Nat.add_mul, ← h3]
    rw [Nat.mul_add] at e1
    have e3 : W ^ k * x * 2 ^ b = W ^ k * (x * 2 ^ b % 4294967296) + W ^ (k + 1) * (x * 2 ^ b / 4294967296) := by
      rw [Nat.pow_succ, Nat.mul_assoc, Nat.mul_assoc, ← Nat.mul_add, W_eq, Nat.mod_add_div]
    omega
  · have : ((out.set k (out.getD k 0 + (x * 2 ^ b) % 4294967296)).set (k + 1) ((x * 2 ^ b) / 4294967296)).getD (k + 1) 0 = (x * 2 ^ b) / 4294967296 := by
      rw [List.getD_eq_getElem?_getD, List.getElem?_set_self (by simp; omega)]; rfl
    rw [this]; exact hd
  · rw [getD_set_ne (by omega), getD_set_ne (by omega)]; exact h5 m (by omega)
theorem ShfI.done {a b : Nat} {out : List Nat} {k : Nat} (h : ShfI a b out k) (hk : k = (toL a).length) : lv out = a * 2 ^ b := by
  rw [h.2.2.1, hk, take_of_le (Nat.le_refl _), lv_toL]
/-! the guess -/
def GueI (u2 u1 u0 v1 v0 q r : Nat) : Prop := q * v1 + r = u2 * 4294967296 + u1 ∧ min (((u2 * 4294967296 + u1) * 4294967296 + u0) / (v1 * 4294967296 + v0)) 4294967295 ≤ q
theorem gue1 {T u0 v1 v0 : Nat} (h0 : u0 < 4294967296) (hv : 2147483648 ≤ v1) : (T * 4294967296 + u0) / (v1 * 4294967296 + v0) ≤ T / v1 := by
  have hd : v1 * (T / v1) + T % v1 = T := Nat.div_add_mod T v1
  have hm : T % v1 < v1 := Nat.mod_lt _ (by omega)
  have h1 : T + 1 ≤ (T / v1 + 1) * v1 := by rw [Nat.add_mul, Nat.one_mul, Nat.mul_comm]; omega
  have h2 : (T + 1) * 4294967296 ≤ (T / v1 + 1) * v1 * 4294967296 := Nat.mul_le_mul_right _ h1
  have h3 : (T * 4294967296 + u0) / (v1 * 4294967296 + v0) < T / v1 + 1 := by
    apply (Nat.div_lt_iff_lt_mul (by omega)).2
    rw [Nat.mul_add, ← Nat.mul_assoc]
    omega
  omega
theorem GueI.start {u2 u1 u0 v1 v0 : Nat} (h0 : u0 < 4294967296) (hv : 2147483648 ≤ v1) : GueI u2 u1 u0 v1 v0 ((u2 * 4294967296 + u1) / v1) ((u2 * 4294967296 + u1) % v1) := by
  refine ⟨by rw [Nat.mul_comm]; exact Nat.div_add_mod _ _, Nat.le_trans (Nat.min_le_left _ _) ?_⟩
  exact gue1 h0 hv
theorem gue3 {Z Y r u0 : Nat} (hc : r * 4294967296 + u0 < Y) : (Z + r) * 4294967296 + u0 < Z * 4294967296 + Y := by
  rw [Nat.add_mul Z r 4294967296, Nat.add_assoc]; exact Nat.add_lt_add_left hc _
theorem gue2 {P v1 v0 r u0 : Nat} (hv : 0 < v1) (hc : r * 4294967296 + u0 < P * v0) : ((P * v1 + r) * 4294967296 + u0) / (v1 * 4294967296 + v0) < P := by
  apply (Nat.div_lt_iff_lt_mul (by omega)).2
  have e5 : P * (v1 * 4294967296 + v0) = P * v1 * 4294967296 + P * v0 := by rw [Nat.mul_add, Nat.mul_assoc]
  rw [e5]
  exact gue3 hc
theorem GueI.step {u2 u1 u0 v1 v0 q r : Nat} (h : GueI u2 u1 u0 v1 v0 q r) (hu : u2 ≤ v1) (h1 : u1 < 4294967296) (hv : 2147483648 ≤ v1) (hc : 4294967296 ≤ q ∨ r * 4294967296 + u0 < q * v0) :
    0 < q ∧ GueI u2 u1 u0 v1 v0 (q - 1) (r + v1) := by
  obtain ⟨e1, e2⟩ := h
  have hq : 0 < q := by
    apply Nat.pos_of_ne_zero
    rintro rfl
    rcases hc with hc | hc
    · omega
    · simp at hc
  obtain ⟨p, rfl⟩ : ∃ p, q = p + 1 := ⟨q - 1, by omega⟩
  refine ⟨hq, by rw [← e1, show p + 1 - 1 = p from rfl, Nat.add_mul, Nat.one_mul]; omega, ?_⟩
  rw [show p + 1 - 1 = p from rfl]
  rcases hc with hc | hc
  · exact Nat.le_trans (Nat.min_le_right _ _) (by omega)
  · refine Nat.le_trans (Nat.min_le_left _ _) ?_
    rw [← e1]
    exact Nat.le_of_lt_succ (gue2 (by omega) hc)
theorem GueI.small {u2 u1 u0 v1 v0 q r : Nat} (h : GueI u2 u1 u0 v1 v0 q r) (hu : u2 ≤ v1) (h1 : u1 < 4294967296) (hv : 2147483648 ≤ v1) (hr : 4294967296 ≤ r) : q ≤ 4294967295 := by
  obtain ⟨e1, e2⟩ := h
  apply Nat.le_of_lt_succ
  apply Nat.lt_of_not_le
  intro hq
  have h2 : 4294967296 * v1 ≤ q * v1 := Nat.mul_le_mul_right _ hq
  have h3 : u2 * 4294967296 ≤ v1 * 4294967296 := Nat.mul_le_mul_right _ hu
  have h4 : v1 * 4294967296 = 4294967296 * v1 := Nat.mul_comm _ _
  omega
theorem GueI.q_le {u2 u1 u0 v1 v0 q r : Nat} (h : GueI u2 u1 u0 v1 v0 q r) (hu : u2 ≤ v1) (h1 : u1 < 4294967296) (hv : 2147483648 ≤ v1) : q ≤ 4294967297 := by
  obtain ⟨e1, e2⟩ := h
  apply Nat.le_of_lt_succ
  apply Nat.lt_of_not_le
  intro hq
  have h2 : 4294967298 * v1 ≤ q * v1 := Nat.mul_le_mul_right _ hq
  have h3 : u2 * 4294967296 ≤ v1 * 4294967296 := Nat.mul_le_mul_right _ hu
  omega
theorem GueI.done {u2 u1 u0 v1 v0 q r : Nat} (h : GueI u2 u1 u0 v1 v0 q r) (hu : u2 ≤ v1) (h1 : u1 < 4294967296) (h0 : v0 < 4294967296) (hv : 2147483648 ≤ v1) (hc : 4294967296 ≤ r ∨ (q < 4294967296 ∧ q * v0 ≤ r * 4294967296 + u0)) :
    q = min (((u2 * 4294967296 + u1) * 4294967296 + u0) / (v1 * 4294967296 + v0)) 4294967295 := by
  apply Nat.le_antisymm _ h.2
  have hq : q ≤ 4294967295 := by
    rcases hc with hc | hc
    · exact h.small hu h1 hv hc
    · omega
  refine Nat.le_min.2 ⟨?_, hq⟩
  apply (Nat.le_div_iff_mul_le (by omega)).2
  have e1 := h.1
  rw [← e1, Nat.mul_add, ← Nat.mul_assoc, Nat.add_mul]
  rcases hc with hc | hc
  · have h5 : q * v0 ≤ 4294967295 * 4294967295 := Nat.mul_le_mul hq (by omega)
    have h6 : 4294967296 * 4294967296 ≤ r * 4294967296 := Nat.mul_le_mul_right _ hc
    omega
  · omega
/-! segments -/
def svl (xs : List Nat) (o k : Nat) : Nat := lv ((xs.drop o).take k)
theorem getD_drop (xs : List Nat) (o k : Nat) : (xs.drop o).getD k 0 = xs.getD (o + k) 0 := by simp [List.getD_eq_getElem?_getD, List.getElem?_drop]
theorem svl_zero (xs : List Nat) (o : Nat) : svl xs o 0 = 0 := by simp [svl, lv]
theorem svl_succ (xs : List Nat) (o k : Nat) : svl xs o (k + 1) = svl xs o k + W ^ k * xs.getD (o + k) 0 := by
  unfold svl; rw [lv_take_succ', getD_drop]
theorem svl_congr {xs ys : List Nat} {o : Nat} : ∀ {k : Nat}, (∀ i, o ≤ i → i < o + k → xs.getD i 0 = ys.getD i 0) → svl xs o k = svl ys o k
  | 0, _ => by rw [svl_zero, svl_zero]
  | k + 1, h => by rw [svl_succ, svl_succ, svl_congr (k := k) (fun i h1 h2 => h i h1 (by omega)), h (o + k) (by omega) (by omega)]
theorem svl_lt {xs : List Nat} (h : Lb xs) (o : Nat) : ∀ k, svl xs o k < W ^ k
  | 0 => by rw [svl_zero]; decide
  | k + 1 => by
    rw [svl_succ, Nat.pow_succ]
    have h1 := svl_lt h o k
    have h2 := h.getD (o + k)
    have h3 : W ^ k * (xs.getD (o + k) 0 + 1) ≤ W ^ k * W := Nat.mul_le_mul_left _ h2
    rw [Nat.mul_add] at h3
    omega
theorem svl_add (xs : List Nat) (o j : Nat) : ∀ k, svl xs o (j + k) = svl xs o j + W ^ j * svl xs (o + j) k
  | 0 => by rw [svl_zero]; simp
  | k + 1 => by
    rw [← Nat.add_assoc, svl_succ, svl_add xs o j k, svl_succ, Nat.mul_add, ← Nat.mul_assoc, ← Nat.pow_add, Nat.add_assoc o j k]
    omega
theorem svl_all {xs : List Nat} {k : Nat} (h : xs.length ≤ k) : svl xs 0 k = lv xs := by unfold svl; rw [List.drop_zero, take_of_le h]
theorem getD_set_eq {xs : List Nat} {i v : Nat} (h : i < xs.length) : (xs.set i v).getD i 0 = v := by
  rw [List.getD_eq_getElem?_getD, List.getElem?_set_self h]; rfl
/-! taking a multiple -/
def RedI (xs0 V : List Nat) (q o : Nat) (xs : List Nat) (k c bo : Nat) : Prop := xs.length = xs0.length ∧ Lb xs ∧ (∀ i, (i < o ∨ o + k ≤ i) → xs.getD i 0 = xs0.getD i 0) ∧
  c ≤ q ∧ bo ≤ 1 ∧ svl xs o k + q * lv (V.take k) = svl xs0 o k + W ^ k * (c + bo) ∧ W ^ k * c ≤ q * lv (V.take k)
theorem RedI.start {xs0 V : List Nat} {q o : Nat} (h : Lb xs0) : RedI xs0 V q o xs0 0 0 0 := ⟨rfl, h, fun _ _ => rfl, by omega, by omega, by simp [svl_zero, lv], by simp⟩
theorem RedI.step {xs0 V : List Nat} {q o k c bo y x : Nat} {xs : List Nat} (h : RedI xs0 V q o xs k c bo) (hV : Lb V) (hk : o + k < xs0.length) (hy : y = V.getD k 0) (hx : x = xs.getD (o + k) 0) :
    RedI xs0 V q o (xs.set (o + k) ((x + 4294967296 - (c + q * y) % 4294967296 - bo) % 4294967296)) (k + 1) ((c + q * y) / 2 ^ 32) (if x < (c + q * y) % 4294967296 + bo then 1 else 0) := by
  obtain ⟨h1, h2, h3, h4, h5, h6, h7⟩ := h
  have hyb : y < 4294967296 := by rw [hy]; exact hV.getD k
  have hxb : x < 4294967296 := by rw [hx]; exact h2.getD _
  rw [show (2 : Nat) ^ 32 = 4294967296 from rfl]
  generalize hT : c + q * y = T
  have hqy : q * y ≤ q * 4294967295 := Nat.mul_le_mul_left _ (by omega)
  have hx0 : xs0.getD (o + k) 0 = x := by rw [hx]; exact (h3 _ (.inr (Nat.le_refl _))).symm
  have key : (x + 4294967296 - T % 4294967296 - bo) % 4294967296 + T % 4294967296 + bo = x + 4294967296 * (if x < T % 4294967296 + bo then 1 else 0) := by
    have := Nat.mod_lt T (by decide : 0 < 4294967296)
    split <;> omega
  have hbo : (if x < T % 4294967296 + bo then 1 else 0) ≤ 1 := by split <;> omega
  generalize (if x < T % 4294967296 + bo then 1 else 0) = bo' at *
  generalize hx' : (x + 4294967296 - T % 4294967296 - bo) % 4294967296 = x' at *
  have hlen : o + k < xs.length := by omega
  refine ⟨by simpa using h1, h2.set _ (by rw [← hx']; exact Nat.mod_lt _ (by decide)), fun i hi => by rw [getD_set_ne (by omega)]; exact h3 i (by omega), by omega, hbo, ?_, ?_⟩
  · rw [svl_succ, svl_succ, getD_set_eq hlen, hx0, lv_take_succ', ← hy, svl_congr (ys := xs) (fun i h1 h2 => getD_set_ne (by omega)), Nat.pow_succ, Nat.mul_add]
    have e1 : W ^ k * W * (T / 4294967296 + bo') + W ^ k * (T % 4294967296) = W ^ k * T + W ^ k * (4294967296 * bo') := by
      rw [Nat.mul_assoc, ← Nat.mul_add, ← Nat.mul_add]
      congr 1
      rw [W_eq]; have := Nat.div_add_mod T 4294967296; omega
    have e2 : W ^ k * x' + W ^ k * (T % 4294967296) + W ^ k * bo = W ^ k * x + W ^ k * (4294967296 * bo') := by
      rw [← Nat.mul_add, ← Nat.mul_add, ← Nat.mul_add, key]
    have e3 : W ^ k * T = W ^ k * c + q * (W ^ k * y) := by rw [← hT, Nat.mul_add, Nat.mul_left_comm q]
    have e4 : W ^ k * (c + bo) = W ^ k * c + W ^ k * bo := Nat.mul_add _ _ _
    omega
  · rw [lv_take_succ', Nat.mul_add, Nat.pow_succ, Nat.mul_assoc, ← hy]
    have e1 : W ^ k * (W * (T / 4294967296)) ≤ W ^ k * T := Nat.mul_le_mul_left _ (by rw [W_eq]; exact Nat.mul_div_le _ _)
    have e3 : W ^ k * T = W ^ k * c + q * (W ^ k * y) := by rw [← hT, Nat.mul_add, Nat.mul_left_comm q]
    omega
theorem RedI.done {xs0 V : List Nat} {q o k c bo : Nat} {xs : List Nat} (h : RedI xs0 V q o xs k c bo) (hk : V.length < k) (hV : Lb V) (hq : q < 4294967296) : svl xs o k + q * lv V = svl xs0 o k + W ^ k * bo := by
  obtain ⟨h1, h2, h3, h4, h5, h6, h7⟩ := h
  rw [take_of_le (by omega)] at h6 h7
  have hlt := lv_lt hV
  have hc : c = 0 := by
    apply Nat.eq_zero_of_not_pos
    intro hc
    have e1 : W ^ k * 1 ≤ W ^ k * c := Nat.mul_le_mul_left _ hc
    have e2 : q * lv V ≤ 4294967295 * lv V := Nat.mul_le_mul_right _ (by omega)
    have e3 : W ^ (V.length + 1) ≤ W ^ k := Nat.pow_le_pow_right (by decide) hk
    rw [Nat.pow_succ, W_eq] at e3
    rw [W_eq] at hlt
    have e4 : 4294967295 * lv V < 4294967296 ^ V.length * 4294967296 := by
      have := Nat.mul_le_mul_right 4294967296 (Nat.le_of_lt hlt)
      have := Nat.pow_pos (n := V.length) (by decide : 0 < 4294967296)
      omega
    rw [W_eq] at e1 h7
    omega
  rw [hc, Nat.zero_add] at h6
  exact h6
/-! adding -/
def ResI (xs0 V : List Nat) (o : Nat) (xs : List Nat) (k c : Nat) : Prop := xs.length = xs0.length ∧ Lb xs ∧ (∀ i, (i < o ∨ o + k ≤ i) → xs.getD i 0 = xs0.getD i 0) ∧
  c ≤ 1 ∧ svl xs o k + W ^ k * c = svl xs0 o k + lv (V.take k)
theorem ResI.start {xs0 V : List Nat} {o : Nat} (h : Lb xs0) : ResI xs0 V o xs0 0 0 := ⟨rfl, h, fun _ _ => rfl, by omega, by simp [svl_zero, lv]⟩
theorem ResI.step {xs0 V : List Nat} {o k c y x : Nat} {xs : List Nat} (h : ResI xs0 V o xs k c) (hV : Lb V) (hk : o + k < xs0.length) (hy : y = V.getD k 0) (hx : x = xs.getD (o + k) 0) :
    ResI xs0 V o (xs.set (o + k) ((x + y + c) % 4294967296)) (k + 1) ((x + y + c) / 4294967296) := by
  obtain ⟨h1, h2, h3, h4, h5⟩ := h
  have hyb : y < 4294967296 := by rw [hy]; exact hV.getD k
  have hxb : x < 4294967296 := by rw [hx]; exact h2.getD _
  have hx0 : xs0.getD (o + k) 0 = x := by rw [hx]; exact (h3 _ (.inr (Nat.le_refl _))).symm
  have hlen : o + k < xs.length := by omega
  refine ⟨by simpa using h1, h2.set _ (Nat.mod_lt _ (by decide)), fun i hi => by rw [getD_set_ne (by omega)]; exact h3 i (by omega), by omega, ?_⟩
  rw [svl_succ, svl_succ, getD_set_eq hlen, hx0, lv_take_succ', ← hy, svl_congr (ys := xs) (fun i h1 h2 => getD_set_ne (by omega)), Nat.pow_succ]
  have e1 : W ^ k * ((x + y + c) % 4294967296) + W ^ k * W * ((x + y + c) / 4294967296) = W ^ k * x + W ^ k * y + W ^ k * c := by
    rw [Nat.mul_assoc, ← Nat.mul_add, W_eq, Nat.mod_add_div, Nat.mul_add, Nat.mul_add]
  omega
theorem ResI.done {xs0 V : List Nat} {o k c : Nat} {xs : List Nat} (h : ResI xs0 V o xs k c) (hk : V.length ≤ k) : svl xs o k + W ^ k * c = svl xs0 o k + lv V := by
  have := h.2.2.2.2; rwa [take_of_le hk] at this
end Go.Proofs.YtegnonhgildhoaaGreat.E
