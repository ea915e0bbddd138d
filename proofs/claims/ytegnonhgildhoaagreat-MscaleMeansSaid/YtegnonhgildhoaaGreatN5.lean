/- The long division: its rounds. -/
import Derived.Test.YtegnonhgildhoaaGreatN4
namespace Go.Proofs.YtegnonhgildhoaaGreat.E
open Go Go.RowKit
set_option linter.unusedVariables false
set_option linter.unusedSimpArgs false
theorem shl_wide {x b : Nat} (hb : b ≤ 31) (hx : x < 4294967296) : x * 2 ^ b < 9223372036854775808 := by
  have h1 : 2 ^ b ≤ 2 ^ 31 := Nat.pow_le_pow_right (by decide) hb
  have h2 : x * 2 ^ b ≤ 4294967295 * 2 ^ 31 := Nat.mul_le_mul (by omega) h1
  omega
theorem Wpos (k : Nat) : 0 < W ^ k := Nat.pow_pos (by decide)
theorem pow_le_of_len {b n : Nat} (h : (toL b).length = n + 1) : W ^ n ≤ b := by
  apply Nat.le_of_not_lt
  intro hlt
  have := length_toL hlt
  omega
theorem val_toL {b n : Nat} (h : (toL b).length = n) : svl (toL b) 0 n = b := by rw [svl_all (by omega), lv_toL]
/-- The quotient's limb is guessed, or one more. -/
theorem guess_ok {S V Sl Vl K t d x : Nat} (hS : S = Sl + K * t) (hV : V = Vl + K * d) (hSl : Sl < K) (hVl : Vl < K) (hlt : S < 4294967296 * V) (hd : 4294967296 ≤ d) (hx : x = min (t / d) 4294967295) :
    S / V ≤ x ∧ x ≤ S / V + 1 ∧ S / V ≤ 4294967295 := by
  have hK : 0 < K := by omega
  have hKd : K * 4294967296 ≤ K * d := Nat.mul_le_mul_left _ hd
  have hV0 : 0 < V := by
    have : K * 1 ≤ K * d := Nat.mul_le_mul_left _ (by omega)
    omega
  have hq1 : S / V < 4294967296 := (Nat.div_lt_iff_lt_mul hV0).2 hlt
  have hq2 : S / V ≤ t / d := by
    apply (Nat.le_div_iff_mul_le (by omega)).2
    have h1 : S / V * V ≤ S := Nat.div_mul_le_self _ _
    have h2 : S / V * (K * d) ≤ S / V * V := Nat.mul_le_mul_left _ (by omega)
    have h3 : S < K * (t + 1) := by rw [Nat.mul_add]; omega
    have h4 : K * (S / V * d) < K * (t + 1) := by
      rw [Nat.mul_left_comm]; omega
    have := Nat.lt_of_mul_lt_mul_left h4
    omega
  refine ⟨by rw [hx]; exact Nat.le_min.2 ⟨hq2, by omega⟩, ?_, by omega⟩
  have hxW : x ≤ 4294967295 := by rw [hx]; exact Nat.min_le_right _ _
  have hxt : x * d ≤ t := by
    have : x ≤ t / d := by rw [hx]; exact Nat.min_le_left _ _
    exact (Nat.le_div_iff_mul_le (by omega)).1 this
  by_cases h0 : x = 0
  · rw [h0]; exact Nat.zero_le _
  · have h1 : x * V < S + V := by
      have e1 : x * V = x * Vl + K * (x * d) := by rw [hV, Nat.mul_add, Nat.mul_left_comm]
      have e2 : x * Vl ≤ 4294967295 * K := Nat.mul_le_mul hxW (by omega)
      have e3 : K * (x * d) ≤ K * t := Nat.mul_le_mul_left _ hxt
      have e4 : K * 4294967296 = 4294967295 * K + K := by
        rw [Nat.mul_comm]; exact Nat.add_one_mul 4294967295 K
      omega
    have h2 : (x - 1) * V < S + 1 := by
      obtain ⟨y, rfl⟩ : ∃ y, x = y + 1 := ⟨x - 1, by omega⟩
      rw [Nat.add_mul, Nat.one_mul] at h1
      rw [show y + 1 - 1 = y from rfl]; omega
    have := (Nat.le_div_iff_mul_le hV0).2 (Nat.le_of_lt_succ h2)
    omega
theorem norm_len {b n by_ : Nat} (hn : (toL b).length = n + 1) (hb : by_ = 32 - bl ((toL b).getD n 0)) : (toL (b * 2 ^ by_)).length = n + 1 ∧ 2147483648 * W ^ n ≤ b * 2 ^ by_ ∧ by_ < 32 := by
  have e := val_toL hn
  rw [svl_succ, Nat.zero_add] at e
  have hl := svl_lt (Lb_toL b) 0 n
  have ht : (toL b).getD n 0 < 4294967296 := (Lb_toL b).getD n
  have h1 := pow_le_of_len hn
  generalize (toL b).getD n 0 = x at *
  have hx0 : x ≠ 0 := by rintro rfl; simp at e; omega
  obtain ⟨t1, t2⟩ := bl_top hx0 ht
  rw [← hb] at t1 t2
  have hby : by_ ≤ 32 := by omega
  have hby2 : by_ < 32 := by have := (bl_spec hx0).1; omega
  have hlt : b * 2 ^ by_ < W ^ (n + 1) := by
    have hx1 : x + 1 ≤ 2 ^ (32 - by_) := by
      apply Nat.lt_of_mul_lt_mul_right (a := 2 ^ by_)
      rw [Nat.mul_comm (2 ^ (32 - by_)), pow_split hby]; exact t2
    have h3 : b < W ^ n * (x + 1) := by rw [Nat.mul_add]; omega
    have h4 : b < W ^ n * 2 ^ (32 - by_) := Nat.lt_of_lt_of_le h3 (Nat.mul_le_mul_left _ hx1)
    have h5 := Nat.mul_lt_mul_of_pos_right h4 (Nat.pow_pos (n := by_) (by decide : 0 < 2))
    rw [Nat.mul_assoc, Nat.mul_comm (2 ^ (32 - by_)), pow_split hby] at h5
    rw [Nat.pow_succ]; exact h5
  have hge : W ^ n * 2147483648 ≤ b * 2 ^ by_ := by
    have h3 : W ^ n * x ≤ b := by omega
    have h4 := Nat.mul_le_mul_right (2 ^ by_) h3
    rw [Nat.mul_assoc] at h4
    exact Nat.le_trans (Nat.mul_le_mul_left _ t1) h4
  refine ⟨?_, by rw [Nat.mul_comm]; exact hge, hby2⟩
  have h6 := length_toL hlt
  have h7 : ¬ (toL (b * 2 ^ by_)).length ≤ n := fun h => by
    have := lt_of_length h
    have := Nat.mul_le_mul_left (W ^ n) (by decide : 1 ≤ 2147483648)
    omega
  omega
def DivI (A V n la : Nat) (u q : List Nat) (m : Nat) : Prop := u.length = la + 1 ∧ Lb u ∧ Lb q ∧ q.length = la - n + 1 ∧ m ≤ la - n + 1 ∧ (∀ i, i < m → q.getD i 0 = 0) ∧ V * lv q + svl u 0 (m + n) = A ∧ svl u m n < V ∧ u.getD (m + n) 0 = 0
theorem DivI.start {a b by_ n : Nat} {u : List Nat} (hb : (toL b).length = n) (hn : 0 < n) (hle : n ≤ (toL a).length) (hu : u.length = (toL a).length + 1) (hL : Lb u) (hv : lv u = a * 2 ^ by_) :
    DivI (a * 2 ^ by_) (b * 2 ^ by_) n (toL a).length u (List.replicate ((toL a).length - n + 1) 0) ((toL a).length - n + 1) := by
  have hlen : (toL a).length - n + 1 + n = (toL a).length + 1 := by omega
  refine ⟨hu, hL, Lb.rep _, by simp, Nat.le_refl _, fun i _ => getD_rep _ _, ?_, ?_, ?_⟩
  · rw [lv_rep, hlen, svl_all (by omega), hv]; simp
  · have e := svl_add u 0 ((toL a).length - n + 1) n
    rw [hlen, svl_all (by omega), hv, Nat.zero_add] at e
    obtain ⟨k, rfl⟩ : ∃ k, n = k + 1 := ⟨n - 1, by omega⟩
    have h1 := pow_le_of_len hb
    have h2 : a < W ^ (toL a).length := lt_of_length (Nat.le_refl _)
    apply Nat.lt_of_not_le
    intro hge
    have h3 : W ^ ((toL a).length - (k + 1) + 1) * (W ^ k * 2 ^ by_) ≤ W ^ ((toL a).length - (k + 1) + 1) * svl u ((toL a).length - (k + 1) + 1) (k + 1) :=
      Nat.mul_le_mul_left _ (Nat.le_trans (Nat.mul_le_mul_right _ h1) hge)
    rw [← Nat.mul_assoc, ← Nat.pow_add, show (toL a).length - (k + 1) + 1 + k = (toL a).length by omega] at h3
    have h4 := Nat.mul_lt_mul_of_pos_right h2 (Nat.pow_pos (n := by_) (by decide : 0 < 2))
    omega
  · rw [hlen]; exact getD_ge (by omega)
/-- The parts of a round: what the guess, the taking and the adding need. -/
theorem DivI.parts {A V n la m : Nat} {u q : List Nat} (h : DivI A V n la u q m) (hV : (toL V).length = n) (hn : 2 ≤ n) (hT : 2147483648 * W ^ (n - 1) ≤ V) (hm : 0 < m) :
    u.getD (m - 1 + n) 0 ≤ (toL V).getD (n - 1) 0 ∧ 2147483648 ≤ (toL V).getD (n - 1) 0 ∧ svl u (m - 1) (n + 1) < 4294967296 * V ∧
    ∀ x, x = min (((u.getD (m - 1 + n) 0 * 4294967296 + u.getD (m - 1 + n - 1) 0) * 4294967296 + u.getD (m - 1 + n - 2) 0) / ((toL V).getD (n - 1) 0 * 4294967296 + (toL V).getD (n - 2) 0)) 4294967295 →
      svl u (m - 1) (n + 1) / V ≤ x ∧ x ≤ svl u (m - 1) (n + 1) / V + 1 ∧ svl u (m - 1) (n + 1) / V ≤ 4294967295 := by
  obtain ⟨h1, h2, h3, h4, h5, h6, h7, h8, h9⟩ := h
  obtain ⟨k, rfl⟩ : ∃ k, n = k + 2 := ⟨n - 2, by omega⟩
  obtain ⟨j, rfl⟩ : ∃ j, m = j + 1 := ⟨m - 1, by omega⟩
  rw [show k + 2 - 1 = k + 1 from rfl, show k + 2 - 2 = k from rfl, show j + 1 - 1 = j from rfl, show j + (k + 2) - 1 = j + k + 1 by omega, show j + (k + 2) - 2 = j + k by omega]
  rw [show k + 2 - 1 = k + 1 from rfl] at hT
  have eV := val_toL hV
  rw [svl_succ, svl_succ, Nat.zero_add, Nat.zero_add] at eV
  have hVl := svl_lt (Lb_toL V) 0 k
  have hVl1 := svl_lt (Lb_toL V) 0 (k + 1)
  rw [svl_succ, Nat.zero_add] at hVl1
  have e8 := h8
  rw [svl_succ] at e8
  rw [show j + 1 + (k + 1) = j + (k + 2) by omega] at e8
  have eS := svl_add u j 1 (k + 2)
  rw [svl_succ u j 0, svl_zero, Nat.pow_zero, Nat.one_mul, Nat.zero_add, Nat.add_zero, Nat.pow_one, W_eq, show 1 + (k + 2) = k + 2 + 1 by omega] at eS
  simp only [Nat.add_zero] at eS
  have huj : u.getD j 0 < 4294967296 := h2.getD j
  have e2 : svl u j (k + 2 + 1) = svl u j k + W ^ k * ((u.getD (j + (k + 2)) 0 * 4294967296 + u.getD (j + k + 1) 0) * 4294967296 + u.getD (j + k) 0) := by
    rw [svl_succ, svl_succ, svl_succ, W_eq, show j + (k + 1) = j + k + 1 by omega]
    simp only [Nat.pow_succ]
    generalize u.getD (j + (k + 2)) 0 = p, u.getD (j + k + 1) 0 = p', u.getD (j + k) 0 = p''
    rw [Nat.mul_add, Nat.add_mul, Nat.mul_add]
    have q1 : (4294967296 : Nat) ^ k * 4294967296 * 4294967296 * p = 4294967296 ^ k * (p * 4294967296 * 4294967296) := by
      rw [Nat.mul_assoc, Nat.mul_assoc]; congr 1; rw [Nat.mul_comm p, Nat.mul_assoc, Nat.mul_comm p]
    have q2 : (4294967296 : Nat) ^ k * 4294967296 * p' = 4294967296 ^ k * (p' * 4294967296) := by rw [Nat.mul_assoc, Nat.mul_comm p']
    rw [q1, q2]
    omega
  have e3 : V = svl (toL V) 0 k + W ^ k * ((toL V).getD (k + 1) 0 * 4294967296 + (toL V).getD k 0) := by
    rw [Nat.mul_add]
    have : W ^ k * ((toL V).getD (k + 1) 0 * 4294967296) = W ^ (k + 1) * (toL V).getD (k + 1) 0 := by rw [Nat.pow_succ, W_eq, Nat.mul_assoc, Nat.mul_comm (4294967296 : Nat)]
    omega
  have hu2 : u.getD (j + (k + 2)) 0 ≤ (toL V).getD (k + 1) 0 := by
    have h10 : W ^ (k + 1) * u.getD (j + (k + 2)) 0 < W ^ (k + 1) * ((toL V).getD (k + 1) 0 + 1) := by rw [Nat.mul_add]; omega
    have := Nat.lt_of_mul_lt_mul_left h10
    omega
  have hv1 : 2147483648 ≤ (toL V).getD (k + 1) 0 := by
    have h10 : W ^ (k + 1) * 2147483648 < W ^ (k + 1) * ((toL V).getD (k + 1) 0 + 1) := by rw [Nat.mul_add, Nat.mul_comm]; omega
    have := Nat.lt_of_mul_lt_mul_left h10
    omega
  have hlt : svl u j (k + 2 + 1) < 4294967296 * V := by rw [eS]; omega
  refine ⟨hu2, hv1, hlt, fun x hx => guess_ok e2 e3 (svl_lt h2 j k) hVl hlt (by omega) hx⟩
theorem DivI.step {A V n la m : Nat} {u q u' : List Nat} (h : DivI A V n la u q m) (hn : 0 < n) (hle : n ≤ la) (hVn : V < W ^ n) (hV0 : 0 < V) (hm : 0 < m) (hl : u'.length = u.length) (hL : Lb u') (ho : ∀ i, (i < m - 1 ∨ m - 1 + (n + 1) ≤ i) → u'.getD i 0 = u.getD i 0)
    (hs : svl u' (m - 1) (n + 1) = svl u (m - 1) (n + 1) % V) (hq : svl u (m - 1) (n + 1) / V ≤ 4294967295) : DivI A V n la u' (q.set (m - 1) (svl u (m - 1) (n + 1) / V)) (m - 1) := by
  obtain ⟨h1, h2, h3, h4, h5, h6, h7, h8, h9⟩ := h
  obtain ⟨j, rfl⟩ : ∃ j, m = j + 1 := ⟨m - 1, by omega⟩
  rw [show j + 1 - 1 = j from rfl] at *
  have hmod : svl u j (n + 1) % V < V := Nat.mod_lt _ hV0
  have hdm := Nat.div_add_mod (svl u j (n + 1)) V
  generalize svl u j (n + 1) / V = Q at *
  have es := svl_succ u' j n
  have h0 : u'.getD (j + n) 0 = 0 := by
    apply Nat.eq_zero_of_not_pos
    intro hp
    have : W ^ n * 1 ≤ W ^ n * u'.getD (j + n) 0 := Nat.mul_le_mul_left _ hp
    omega
  simp only [h0, Nat.mul_zero, Nat.add_zero] at es
  refine ⟨by omega, hL, h3.set _ (by show _ < 4294967296; omega), by simpa using h4, by omega, fun i hi => by rw [getD_set_ne (by omega)]; exact h6 i (by omega), ?_, by omega, h0⟩
  have e1 := lv_set (xs := q) (i := j) (v := Q) (by omega)
  rw [h6 j (by omega), Nat.mul_zero, Nat.add_zero] at e1
  have e2 := svl_add u 0 j (n + 1)
  have e3 := svl_add u' 0 j n
  rw [Nat.zero_add] at e2 e3
  rw [show j + 1 + n = j + (n + 1) by omega] at h7
  rw [svl_congr (ys := u) (xs := u') (k := j) (fun i _ hi => ho i (.inl (by omega)))] at e3
  rw [e1, e3, ← es, hs, Nat.mul_add]
  have e4 : W ^ j * svl u j (n + 1) = V * (W ^ j * Q) + W ^ j * (svl u j (n + 1) % V) := by
    rw [Nat.mul_left_comm V, ← Nat.mul_add, hdm]
  omega
theorem red_exact {S V x s n : Nat} (h : s + x * V = S) (hV0 : 0 < V) (hx : S / V ≤ x) : s = S % V ∧ x = S / V := by
  have h1 : x ≤ S / V := (Nat.le_div_iff_mul_le hV0).2 (by omega)
  have e : x = S / V := by omega
  have h2 := Nat.div_add_mod S V
  rw [e, Nat.mul_comm] at h
  exact ⟨by omega, e⟩
theorem red_over {S V x s s' c M : Nat} (h : s + x * V = S + M) (h' : s' + M * c = s + V) (hs : s < M) (hs' : s' < M) (hc : c ≤ 1) (hV0 : 0 < V) (hVM : V ≤ M) (hx : x ≤ S / V + 1) : s' = S % V ∧ x - 1 = S / V ∧ 0 < x := by
  have h1 : S < x * V := by omega
  have h2 : S / V < x := (Nat.div_lt_iff_lt_mul hV0).2 h1
  have e : x = S / V + 1 := by omega
  have h3 := Nat.div_add_mod S V
  have h4 := Nat.mod_lt S hV0
  have e5 : x * V = V * (S / V) + V := by rw [e, Nat.add_mul, Nat.one_mul, Nat.mul_comm]
  have e6 : x - 1 = S / V := by rw [e]; rfl
  refine ⟨?_, e6, by omega⟩
  have hc' : c = 0 ∨ c = 1 := by omega
  rcases hc' with rfl | rfl
  · rw [Nat.mul_zero] at h'
    omega
  · rw [Nat.mul_one] at h'
    omega
theorem DivI.done {a b by_ n la : Nat} {u q : List Nat} (h : DivI (a * 2 ^ by_) (b * 2 ^ by_) n la u q 0) : lv q = a / b ∧ svl u 0 n = (a % b) * 2 ^ by_ ∧ u.getD n 0 = 0 := by
  obtain ⟨h1, h2, h3, h4, h5, h6, h7, h8, h9⟩ := h
  rw [Nat.zero_add] at h7 h9
  have hp : 0 < 2 ^ by_ := Nat.pow_pos (by decide)
  have e1 : (b * 2 ^ by_) * lv q + svl u 0 n = a * 2 ^ by_ := h7
  have hb : 0 < b * 2 ^ by_ := by omega
  have e2 : a * 2 ^ by_ / (b * 2 ^ by_) = lv q := by rw [← e1, Nat.mul_add_div hb, Nat.div_eq_of_lt h8, Nat.add_zero]
  have e3 : a * 2 ^ by_ % (b * 2 ^ by_) = svl u 0 n := by rw [← e1, Nat.mul_add_mod, Nat.mod_eq_of_lt h8]
  rw [Nat.mul_div_mul_right _ _ hp] at e2
  rw [Nat.mul_mod_mul_right] at e3
  exact ⟨e2.symm, e3.symm, h9⟩
def RemI (u : List Nat) (n b : Nat) (out : List Nat) (k : Nat) : Prop := out.length = n ∧ Lb out ∧ lv (out.take k) = (svl u 0 (k + 1) / 2 ^ b) % W ^ k
theorem RemI.start (u : List Nat) (n b : Nat) : RemI u n b (List.replicate n 0) 0 := ⟨by simp, Lb.rep _, by simp [lv, Nat.mod_one]⟩
theorem RemI.step {u : List Nat} {n b k : Nat} {out : List Nat} (h : RemI u n b out k) (hu : Lb u) (hb : b ≤ 32) (hk : k < n) : RemI u n b (out.set k ((u.getD (k + 1) 0 * 2 ^ 32 + u.getD k 0) / 2 ^ b % 4294967296)) (k + 1) := by
  obtain ⟨h1, h2, h3⟩ := h
  refine ⟨by simpa using h1, h2.set _ (Nat.mod_lt _ (by decide)), ?_⟩
  rw [take_set_succ (by omega), h3]
  have hbk : (2 ^ b * W ^ k) ∣ W ^ (k + 1) := ⟨2 ^ (32 - b), by rw [Nat.pow_succ, W_eq, ← pow_split hb]; simp only [Nat.mul_comm, Nat.mul_left_comm, Nat.mul_assoc]⟩
  have e1 : svl u 0 (k + 1) / 2 ^ b % W ^ k = svl u 0 (k + 2) / 2 ^ b % W ^ k := by
    rw [← Nat.mod_mul_right_div_self, ← Nat.mod_mul_right_div_self]
    congr 1
    rw [svl_succ u 0 (k + 1)]
    obtain ⟨z, hz⟩ := hbk
    rw [hz, Nat.mul_assoc, Nat.add_mul_mod_self_left]
  have e2 : (u.getD (k + 1) 0 * 2 ^ 32 + u.getD k 0) = svl u 0 (k + 2) / W ^ k := by
    have := svl_add u 0 k 2
    rw [this, Nat.add_comm (svl u 0 k), Nat.mul_add_div (Wpos k), Nat.div_eq_of_lt (svl_lt hu 0 k), Nat.add_zero, Nat.zero_add, svl_succ, svl_succ, svl_zero, W_eq]
    simp
    omega
  have e4 : svl u 0 (k + 2) / W ^ k / 2 ^ b = svl u 0 (k + 2) / 2 ^ b / W ^ k := by
    rw [Nat.div_div_eq_div_mul, Nat.mul_comm (W ^ k), ← Nat.div_div_eq_div_mul]
  rw [e1, e2, e4]
  generalize svl u 0 (k + 2) / 2 ^ b = N
  rw [Nat.pow_succ, Nat.mod_mul, W_eq]
theorem RemI.done {u : List Nat} {n b r V : Nat} {out : List Nat} (h : RemI u n b out n) (hr : svl u 0 n = r * 2 ^ b) (h0 : u.getD n 0 = 0) (hlt : r * 2 ^ b < W ^ n) : Lb out ∧ lv out = r := by
  obtain ⟨h1, h2, h3⟩ := h
  refine ⟨h2, ?_⟩
  rw [take_of_le (by omega), svl_succ, Nat.zero_add, h0, Nat.mul_zero, Nat.add_zero, hr, Nat.mul_div_cancel _ (Nat.pow_pos (by decide))] at h3
  rw [h3]
  apply Nat.mod_eq_of_lt
  have : r * 1 ≤ r * 2 ^ b := Nat.mul_le_mul_left _ (Nat.pow_pos (by decide))
  omega
end Go.Proofs.YtegnonhgildhoaaGreat.E
