/- Steps of the schoolbook methods: plain arithmetic. -/
import Derived.Test.YtegnonhgildhoaaGreatN0
namespace Go.Proofs.YtegnonhgildhoaaGreat.E
set_option linter.unusedVariables false
set_option linter.unusedSimpArgs false
def cmpN (a b : Nat) : Int := if a < b then -1 else if b < a then 1 else 0
theorem cmpN_lt {a b : Nat} (h : a < b) : cmpN a b = -1 := by simp [cmpN, h]
theorem cmpN_gt {a b : Nat} (h : b < a) : cmpN a b = 1 := by simp [cmpN, h, Nat.lt_asymm h]
theorem cmpN_eq {a b : Nat} (h : a = b) : cmpN a b = 0 := by simp [cmpN, h]
theorem cmpN_neg {a b : Nat} : cmpN a b < 0 ↔ a < b := by
  unfold cmpN; split
  · simp [*]
  · split <;> simp <;> omega
theorem toL_len_lt {a b : Nat} (h : (toL a).length < (toL b).length) : a < b := by
  rcases Nat.lt_or_ge a b with h1 | h1
  · exact h1
  · have := length_toL_mono h1; omega
theorem lv_ext {xs ys : List Nat} (h : ∀ i, xs.getD i 0 = ys.getD i 0) : lv xs = lv ys := by
  have key : ∀ k, lv (xs.take k) = lv (ys.take k) := by
    intro k
    induction k with
    | zero => rfl
    | succ k ih => rw [lv_take_succ', lv_take_succ', ih, h]
  have := key (max xs.length ys.length)
  rwa [take_of_le (Nat.le_max_left _ _), take_of_le (Nat.le_max_right _ _)] at this
theorem lv_split (xs : List Nat) (k : Nat) : lv xs = lv (xs.take k) + W ^ k * lv (xs.drop k) := by
  by_cases h : k ≤ xs.length
  · have := lv_append (xs.take k) (xs.drop k)
    rw [List.take_append_drop, List.length_take_of_le h] at this; exact this
  · rw [take_of_le (by omega), List.drop_eq_nil_of_le (by omega)]; simp [lv]
theorem lv_lt_of {xs ys : List Nat} (hx : Lb xs) (j : Nat) (h : ∀ i, j + 1 ≤ i → xs.getD i 0 = ys.getD i 0) (hj : xs.getD j 0 < ys.getD j 0) : lv xs < lv ys := by
  rw [lv_split xs (j + 1), lv_split ys (j + 1)]
  have hd : lv (xs.drop (j + 1)) = lv (ys.drop (j + 1)) := lv_ext fun i => by
    have := h (j + 1 + i) (by omega)
    simpa [List.getD_eq_getElem?_getD, List.getElem?_drop] using this
  rw [hd, lv_take_succ', lv_take_succ']
  have h1 : lv (xs.take j) < W ^ j := by
    have := lv_lt (hx.take j)
    exact Nat.lt_of_lt_of_le this (Nat.pow_le_pow_right (by decide) (List.length_take_le _ _))
  have h2 : W ^ j * (xs.getD j 0 + 1) ≤ W ^ j * ys.getD j 0 := Nat.mul_le_mul_left _ hj
  rw [Nat.mul_add, Nat.mul_one] at h2
  omega
theorem cmp_lt_at {a b m : Nat} (hm : 0 < m) (h : ∀ i, m ≤ i → (toL a).getD i 0 = (toL b).getD i 0) (hj : (((toL a).getD ((m : Int) - 1).toNat 0 : Nat) : Int) < (((toL b).getD ((m : Int) - 1).toNat 0 : Nat) : Int)) : a < b := by
  have e : ((m : Int) - 1).toNat = m - 1 := by omega
  rw [e] at hj
  have := lv_lt_of (Lb_toL a) (m - 1) (ys := toL b) (fun i hi => h i (by omega)) (by omega)
  rwa [lv_toL, lv_toL] at this
theorem cmp_step {a b m : Nat} (hm : 0 < m) (h : ∀ i, m ≤ i → (toL a).getD i 0 = (toL b).getD i 0) (h1 : ¬ (((toL a).getD ((m : Int) - 1).toNat 0 : Nat) : Int) < (((toL b).getD ((m : Int) - 1).toNat 0 : Nat) : Int))
    (h2 : ¬ (((toL a).getD ((m : Int) - 1).toNat 0 : Nat) : Int) > (((toL b).getD ((m : Int) - 1).toNat 0 : Nat) : Int)) : ∀ i, m - 1 ≤ i → (toL a).getD i 0 = (toL b).getD i 0 := by
  intro i hi
  have e : ((m : Int) - 1).toNat = m - 1 := by omega
  rw [e] at h1 h2
  by_cases he : i = m - 1
  · subst he; omega
  · exact h i (by omega)
theorem cmp_done {a b m : Nat} (hm : m = 0) (h : ∀ i, m ≤ i → (toL a).getD i 0 = (toL b).getD i 0) : a = b := by
  have := lv_ext (fun i => h i (by omega))
  rwa [lv_toL, lv_toL] at this
/-! addition -/
def AddI (a b : Nat) (out : List Nat) (k c : Nat) : Prop := Lb out ∧ c ≤ 1 ∧ lv (out.take k) + W ^ k * c = lv ((toL a).take k) + lv ((toL b).take k)
theorem take_set_le {xs : List Nat} {k v : Nat} : (xs.set k v).take k = xs.take k := by
  rw [List.take_set_of_le (Nat.le_refl _)]
theorem take_set_succ {xs : List Nat} {k v : Nat} (h : k < xs.length) : lv ((xs.set k v).take (k + 1)) = lv (xs.take k) + W ^ k * v := by
  rw [take_succ_getD (by simpa using h), lv_snoc, take_set_le, List.length_take_of_le (Nat.le_of_lt h)]
  simp [List.getD_eq_getElem?_getD, h]
theorem AddI.start (a b n : Nat) : AddI a b (List.replicate n 0) 0 0 := ⟨Lb.rep n, by omega, by simp [lv]⟩
theorem AddI.step {a b : Nat} {out : List Nat} {k c : Nat} (h : AddI a b out k c) (hk : k < out.length) {y : Nat} (hy : y = (toL b).getD k 0) :
    AddI a b (out.set k (((toL a).getD k 0 + y + c) % 4294967296)) (k + 1) (((toL a).getD k 0 + y + c) / 4294967296) := by
  obtain ⟨h1, h2, h3⟩ := h
  subst hy
  have hx : (toL a).getD k 0 < 4294967296 := (Lb_toL a).getD k
  have hy : (toL b).getD k 0 < 4294967296 := (Lb_toL b).getD k
  refine ⟨h1.set k (Nat.mod_lt _ (by decide)), by omega, ?_⟩
  rw [take_set_succ hk, lv_take_succ', lv_take_succ', Nat.pow_succ]
  have e := Nat.div_add_mod ((toL a).getD k 0 + (toL b).getD k 0 + c) W
  generalize hq : ((toL a).getD k 0 + (toL b).getD k 0 + c) / W = q at *
  generalize hr : ((toL a).getD k 0 + (toL b).getD k 0 + c) % W = r at *
  have e2 : W ^ k * (W * q + r) = W ^ k * ((toL a).getD k 0 + (toL b).getD k 0 + c) := by rw [e]
  simp only [Nat.mul_add, ← Nat.mul_assoc] at e2 ⊢
  omega
theorem AddI.done {a b : Nat} {out : List Nat} {k c : Nat} (h : AddI a b out k c) (hk : k = (toL a).length) (hb : (toL b).length ≤ k) (hl : out.length = k + 1) :
    Lb (out.set k c) ∧ lv (out.set k c) = a + b := by
  obtain ⟨h1, h2, h3⟩ := h
  refine ⟨h1.set k (by show c < 4294967296; omega), ?_⟩
  rw [take_of_le (by omega : (toL a).length ≤ k), take_of_le hb, lv_toL, lv_toL] at h3
  rw [← h3, ← take_set_succ (by omega), take_of_le (by simp; omega)]
/-! subtraction -/
def SubI (a b : Nat) (out : List Nat) (k c : Nat) : Prop := Lb out ∧ c ≤ 1 ∧ lv (out.take k) + lv ((toL b).take k) = lv ((toL a).take k) + W ^ k * c
theorem SubI.start (a b n : Nat) : SubI a b (List.replicate n 0) 0 0 := ⟨Lb.rep n, by omega, by simp [lv]⟩
theorem SubI.step {a b : Nat} {out : List Nat} {k c : Nat} (h : SubI a b out k c) (hk : k < out.length) {y : Nat} (hy : y = (toL b).getD k 0) :
    SubI a b (out.set k (((toL a).getD k 0 + 4294967296 - y - c) % 4294967296)) (k + 1) (if (toL a).getD k 0 < y + c then 1 else 0) := by
  obtain ⟨h1, h2, h3⟩ := h
  subst hy
  have hx := (Lb_toL a).getD k
  have hy := (Lb_toL b).getD k
  refine ⟨h1.set k (Nat.mod_lt _ (by decide)), by split <;> omega, ?_⟩
  rw [take_set_succ hk, lv_take_succ', lv_take_succ', Nat.pow_succ]
  generalize hA : (toL a).getD k 0 = x at *
  generalize hB : (toL b).getD k 0 = y at *
  have hx' : x < 4294967296 := hx
  have hy' : y < 4294967296 := hy
  by_cases hlt : x < y + c
  · rw [if_pos hlt]
    have e : (x + 4294967296 - y - c) % 4294967296 = x + 4294967296 - y - c := by omega
    rw [e]
    have e2 : W ^ k * (x + 4294967296 - y - c) + W ^ k * y + W ^ k * c = W ^ k * x + W ^ k * W := by
      rw [← Nat.mul_add, ← Nat.mul_add, ← Nat.mul_add]; congr 1; show _ = x + 4294967296; omega
    omega
  · rw [if_neg hlt]
    have e : (x + 4294967296 - y - c) % 4294967296 = x - y - c := by omega
    rw [e]
    have e2 : W ^ k * (x - y - c) + W ^ k * y + W ^ k * c = W ^ k * x := by
      rw [← Nat.mul_add, ← Nat.mul_add]; congr 1; omega
    omega
theorem SubI.done {a b : Nat} {out : List Nat} {k c : Nat} (h : SubI a b out k c) (hk : k = (toL a).length) (hab : b ≤ a) (hl : out.length = k) : Lb out ∧ lv out = a - b := by
  obtain ⟨h1, h2, h3⟩ := h
  have hb : (toL b).length ≤ k := by rw [hk]; exact length_toL_mono hab
  rw [take_of_le (by omega : (toL a).length ≤ k), take_of_le hb, take_of_le (by omega : out.length ≤ k), lv_toL, lv_toL] at h3
  have hlt := lv_lt h1
  rw [hl] at hlt
  refine ⟨h1, ?_⟩
  have : c = 0 ∨ c = 1 := by omega
  rcases this with rfl | rfl
  · omega
  · omega
end Go.Proofs.YtegnonhgildhoaaGreat.E
