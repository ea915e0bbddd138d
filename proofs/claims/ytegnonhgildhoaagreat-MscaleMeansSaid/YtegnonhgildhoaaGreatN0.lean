/- Numbers as limbs of 32 bits: plain arithmetic, no program. -/
import Derived.KernelRfl
namespace Go.Proofs.YtegnonhgildhoaaGreat.E
set_option linter.unusedVariables false
set_option linter.unusedSimpArgs false
/-- The base. -/
abbrev W : Nat := 4294967296
def lv : List Nat → Nat
  | [] => 0
  | x :: r => x + W * lv r
def Lb (xs : List Nat) : Prop := ∀ x ∈ xs, x < W
def validU (xs : List Nat) : Bool := xs.isEmpty || xs.getD (xs.length - 1) 0 != 0
/-- What counts: 0 where the limbs are not valid. -/
def nv (xs : List Nat) : Nat := if validU xs then lv xs else 0
/-- The limbs of a number, none 0 at the end. -/
def toL (n : Nat) : List Nat := if h : n = 0 then [] else (n % W) :: toL (n / W)
termination_by n
decreasing_by exact Nat.div_lt_self (Nat.pos_of_ne_zero h) (by decide)
theorem toL_zero : toL 0 = [] := by rw [toL]; rfl
theorem toL_pos {n : Nat} (h : n ≠ 0) : toL n = (n % W) :: toL (n / W) := by rw [toL, dif_neg h]
theorem lv_toL (n : Nat) : lv (toL n) = n := by
  induction n using Nat.strongRecOn with
  | _ n ih =>
    by_cases h : n = 0
    · subst h; rw [toL_zero]; rfl
    · rw [toL_pos h, lv, ih _ (Nat.div_lt_self (Nat.pos_of_ne_zero h) (by decide))]
      exact Nat.mod_add_div n W
theorem Lb_toL (n : Nat) : Lb (toL n) := by
  induction n using Nat.strongRecOn with
  | _ n ih =>
    by_cases h : n = 0
    · subst h; rw [toL_zero]; intro x hx; cases hx
    · rw [toL_pos h]
      intro x hx
      rcases List.mem_cons.1 hx with rfl | hx
      · exact Nat.mod_lt _ (by decide)
      · exact ih _ (Nat.div_lt_self (Nat.pos_of_ne_zero h) (by decide)) x hx
theorem toL_nil {n : Nat} : toL n = [] ↔ n = 0 := by
  constructor
  · intro h
    by_cases h0 : n = 0
    · exact h0
    · rw [toL_pos h0] at h; cases h
  · rintro rfl; exact toL_zero
theorem validU_cons {x : Nat} {r : List Nat} (hr : r ≠ []) : validU (x :: r) = validU r := by
  cases r with
  | nil => exact absurd rfl hr
  | cons y s => simp [validU]
theorem validU_toL (n : Nat) : validU (toL n) = true := by
  induction n using Nat.strongRecOn with
  | _ n ih =>
    by_cases h : n = 0
    · subst h; rw [toL_zero]; rfl
    · rw [toL_pos h]
      by_cases h2 : n / W = 0
      · rw [h2, toL_zero]
        have : n < W := by
          rcases Nat.lt_or_ge n W with hl | hl
          · exact hl
          · have := Nat.div_pos hl (by decide : 0 < W); omega
        simp [validU, Nat.mod_eq_of_lt this, h]
      · rw [validU_cons (fun e => h2 (toL_nil.1 e))]
        exact ih _ (Nat.div_lt_self (Nat.pos_of_ne_zero h) (by decide))
theorem nv_toL (n : Nat) : nv (toL n) = n := by rw [nv, validU_toL, if_pos rfl, lv_toL]
theorem lv_pos {xs : List Nat} (hv : validU xs = true) (hne : xs ≠ []) : lv xs ≠ 0 := by
  induction xs with
  | nil => exact absurd rfl hne
  | cons x r ih =>
    by_cases hr : r = []
    · subst hr; simp [validU] at hv; simp [lv]; exact hv
    · rw [validU_cons hr] at hv
      have := ih hv hr
      simp only [lv]
      have : 0 < W * lv r := Nat.mul_pos (by decide) (Nat.pos_of_ne_zero this)
      omega
theorem toL_lv {xs : List Nat} (hb : Lb xs) (hv : validU xs = true) : toL (lv xs) = xs := by
  induction xs with
  | nil => exact toL_zero
  | cons x r ih =>
    rw [toL_pos (lv_pos hv (by simp))]
    have hx := hb x List.mem_cons_self
    have h1 : lv (x :: r) % W = x := by simp only [lv]; rw [Nat.add_mul_mod_self_left]; exact Nat.mod_eq_of_lt hx
    have h2 : lv (x :: r) / W = lv r := by
      simp only [lv]; rw [Nat.add_mul_div_left _ _ (by decide)]; rw [Nat.div_eq_of_lt hx]; omega
    rw [h1, h2]
    by_cases hr : r = []
    · subst hr; rw [show lv [] = 0 from rfl, toL_zero]
    · rw [ih (fun y hy => hb y (List.mem_cons_of_mem _ hy)) (by rw [validU_cons hr] at hv; exact hv)]
theorem nval_eq {xs : List Nat} (hb : Lb xs) : (if validU xs then xs else []) = toL (nv xs) := by
  unfold nv
  cases hv : validU xs with
  | true => simp only [if_true]; exact (toL_lv hb hv).symm
  | false => simp [toL_zero]
theorem Lb_nil : Lb [] := fun x hx => by cases hx
theorem Lb.take {xs : List Nat} (h : Lb xs) (n : Nat) : Lb (xs.take n) := fun x hx => h x (List.mem_of_mem_take hx)
theorem Lb.getD {xs : List Nat} (h : Lb xs) (i : Nat) : xs.getD i 0 < W := by
  rw [List.getD_eq_getElem?_getD]
  cases hi : xs[i]? with
  | none => exact (by decide : 0 < W)
  | some x => exact h x (List.mem_of_getElem? hi)
theorem Lb.set {xs : List Nat} (h : Lb xs) (i : Nat) {v : Nat} (hv : v < W) : Lb (xs.set i v) := fun x hx => by
  rcases List.mem_or_eq_of_mem_set hx with hx | rfl
  · exact h x hx
  · exact hv
theorem Lb.append {xs ys : List Nat} (h : Lb xs) (k : Lb ys) : Lb (xs ++ ys) := fun x hx => (List.mem_append.1 hx).elim (h x) (k x)
theorem Lb.one {v : Nat} (hv : v < W) : Lb [v] := fun x hx => by simp only [List.mem_singleton] at hx; subst hx; exact hv
theorem Lb.rep (n : Nat) : Lb (List.replicate n 0) := fun x hx => by rw [(List.mem_replicate.1 hx).2]; decide
theorem lv_append (xs ys : List Nat) : lv (xs ++ ys) = lv xs + W ^ xs.length * lv ys := by
  induction xs with
  | nil => simp [lv]
  | cons x r ih =>
    simp only [List.cons_append, lv, ih, List.length_cons, Nat.pow_succ]
    grind
theorem lv_lt {xs : List Nat} (hb : Lb xs) : lv xs < W ^ xs.length := by
  induction xs with
  | nil => simp [lv]
  | cons x r ih =>
    have h1 := ih (fun y hy => hb y (List.mem_cons_of_mem _ hy))
    have h2 := hb x List.mem_cons_self
    simp only [lv, List.length_cons, Nat.pow_succ]
    have : W * lv r + W ≤ W * W ^ r.length := by
      rw [← Nat.mul_succ]; exact Nat.mul_le_mul_left _ h1
    rw [Nat.mul_comm (W ^ r.length)]; omega
theorem lv_snoc (xs : List Nat) (v : Nat) : lv (xs ++ [v]) = lv xs + W ^ xs.length * v := by rw [lv_append]; simp [lv]
theorem take_succ_getD {xs : List Nat} {i : Nat} (h : i < xs.length) : xs.take (i + 1) = xs.take i ++ [xs.getD i 0] := by
  rw [List.take_succ_eq_append_getElem h, List.getD_eq_getElem?_getD, List.getElem?_eq_getElem h]; rfl
theorem lv_take_succ {xs : List Nat} {i : Nat} (h : i < xs.length) : lv (xs.take (i + 1)) = lv (xs.take i) + W ^ i * xs.getD i 0 := by
  rw [take_succ_getD h, lv_snoc, List.length_take_of_le (Nat.le_of_lt h)]
theorem take_of_le {xs : List Nat} {i : Nat} (h : xs.length ≤ i) : xs.take i = xs := List.take_of_length_le h
theorem getD_ge {xs : List Nat} {i : Nat} (h : xs.length ≤ i) : xs.getD i 0 = 0 := by
  rw [List.getD_eq_getElem?_getD, List.getElem?_eq_none h]; rfl
/-- Also past the end. -/
theorem lv_take_succ' (xs : List Nat) (i : Nat) : lv (xs.take (i + 1)) = lv (xs.take i) + W ^ i * xs.getD i 0 := by
  by_cases h : i < xs.length
  · exact lv_take_succ h
  · rw [take_of_le (by omega), take_of_le (by omega), getD_ge (by omega)]; simp
theorem lv_set {xs : List Nat} {i v : Nat} (h : i < xs.length) : lv (xs.set i v) + W ^ i * xs.getD i 0 = lv xs + W ^ i * v := by
  induction xs generalizing i with
  | nil => simp at h
  | cons x r ih =>
    cases i with
    | zero => simp [lv]; omega
    | succ i =>
      have := ih (by simpa using h)
      simp only [List.set_cons_succ, lv, List.getD_cons_succ, Nat.pow_succ]
      grind
theorem lv_rep (n : Nat) : lv (List.replicate n 0) = 0 := by
  induction n with
  | zero => rfl
  | succ n ih => simp [List.replicate_succ, lv, ih]
/-- Zeros at the end count nothing. -/
theorem toL_zeros {xs : List Nat} {n : Nat} (hb : Lb xs) (hz : ∀ i, n ≤ i → xs.getD i 0 = 0) (hv : n = 0 ∨ xs.getD (n - 1) 0 ≠ 0) (hn : n ≤ xs.length) : toL (lv xs) = xs.take n := by
  have h1 : lv xs = lv (xs.take n) := by
    have : ∀ k, n ≤ k → lv (xs.take k) = lv (xs.take n) := by
      intro k hk
      induction k with
      | zero => have : n = 0 := by omega
                subst this; rfl
      | succ k ih =>
        by_cases e : n = k + 1
        · rw [e]
        · rw [lv_take_succ', hz k (by omega), ih (by omega)]; simp
    rw [← this xs.length hn, take_of_le (Nat.le_refl _)]
  rw [h1]
  refine toL_lv (hb.take n) ?_
  rcases hv with rfl | hv
  · rfl
  · by_cases h0 : n = 0
    · subst h0; rfl
    · unfold validU
      have hl : (xs.take n).length = n := List.length_take_of_le hn
      have : (xs.take n).getD (n - 1) 0 = xs.getD (n - 1) 0 := by
        simp [List.getD_eq_getElem?_getD, List.getElem?_take, show n - 1 < n by omega]
      rw [hl, this]
      exact Bool.or_eq_true_iff.2 (.inr (bne_iff_ne.2 hv))
theorem length_toL {n k : Nat} (h : n < W ^ k) : (toL n).length ≤ k := by
  induction k generalizing n with
  | zero => have : n = 0 := by simpa using h
            subst this; rw [toL_zero]; simp
  | succ k ih =>
    by_cases h0 : n = 0
    · subst h0; rw [toL_zero]; simp
    · rw [toL_pos h0]
      have := ih (n := n / W) (Nat.div_lt_of_lt_mul (by rw [Nat.pow_succ, Nat.mul_comm] at h; exact h))
      simp only [List.length_cons]; omega
theorem lt_of_length {n k : Nat} (h : (toL n).length ≤ k) : n < W ^ k := by
  have := lv_lt (Lb_toL n)
  rw [lv_toL] at this
  exact Nat.lt_of_lt_of_le this (Nat.pow_le_pow_right (by decide) h)
theorem length_toL_mono {a b : Nat} (h : a ≤ b) : (toL a).length ≤ (toL b).length := length_toL (Nat.lt_of_le_of_lt h (lt_of_length (Nat.le_refl _)))
theorem length_toL_nv (xs : List Nat) (hb : Lb xs) : (toL (nv xs)).length ≤ xs.length := by
  rw [← nval_eq hb]; split <;> simp
theorem nv_of_valid {xs : List Nat} (h : validU xs = true) : nv xs = lv xs := by simp [nv, h]
end Go.Proofs.YtegnonhgildhoaaGreat.E
