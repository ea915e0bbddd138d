/- Plain law of Scale's three loops: bounds of what is above, dyadic numbers and their sizes. -/
import Derived.Test.YtegnonhgildhoaaGreatP0
namespace Go.Proofs.YtegnonhgildhoaaGreat.E
set_option linter.unusedVariables false
set_option linter.unusedSimpArgs false
/-- W to the power of k, as a number. -/
def KW (k : Nat) : Rat := ((W ^ k : Nat) : Int)
theorem KW_pos (k : Nat) : 0 < KW k := rcast_pos (Wpos k)
theorem KW_add (k l : Nat) : KW (k + l) = KW k * KW l := by
  unfold KW; rw [Nat.pow_add, Int.natCast_mul, Rat.intCast_mul]
theorem num_eq (q : Rat) : (q.num : Rat) = q * ((q.den : Int) : Rat) := by
  have h := Rat.num_divInt_den q
  rw [Rat.divInt_eq_div] at h
  have hd : (0 : Rat) < ((q.den : Int) : Rat) := rcast_pos (Nat.pos_of_ne_zero q.den_nz)
  have e := rdiv_cancel (a := (q.num : Rat)) (b := ((q.den : Int) : Rat)) (by grind)
  rw [h] at e; exact e.symm
theorem Q.abs_le {k : Nat} {q : Rat} (h : Q k q) : -KW k ≤ q ∧ q ≤ KW k := by
  obtain ⟨h1, h2⟩ := Q_iff.1 h
  have e := num_eq q
  have hd : (1 : Rat) ≤ ((q.den : Int) : Rat) := by
    have : ((1 : Int) : Rat) ≤ ((q.den : Int) : Rat) := Rat.intCast_le_intCast.2 (by have := q.den_nz; omega)
    simpa using this
  have n1 : (q.num : Rat) ≤ KW k := Rat.intCast_le_intCast.2 (by omega)
  have n2 : -KW k ≤ (q.num : Rat) := by
    have : ((-((W ^ k : Nat) : Int) : Int) : Rat) ≤ (q.num : Rat) := Rat.intCast_le_intCast.2 (by omega)
    rwa [Rat.intCast_neg] at this
  have hK := KW_pos k
  constructor
  · by_cases h0 : 0 ≤ q
    · grind
    · have := rmul_le (a := 1) (b := ((q.den : Int) : Rat)) (c := -q) hd (by grind)
      grind
  · by_cases h0 : q ≤ 0
    · grind
    · have := rmul_le (a := 1) (b := ((q.den : Int) : Rat)) (c := q) hd (by grind)
      grind
theorem Q.sq_le {k : Nat} {q : Rat} (h : Q k q) : q * q ≤ KW (k + k) := by
  obtain ⟨a, b⟩ := h.abs_le
  rw [KW_add]
  have := Rat.mul_nonneg (a := KW k - q) (b := KW k + q) (by grind) (by grind)
  grind
theorem Q.pos_ge {k : Nat} {q : Rat} (h : Q k q) (h0 : 0 < q) : 1 ≤ q * KW k := by
  obtain ⟨h1, h2⟩ := Q_iff.1 h
  have e := num_eq q
  have hd : ((q.den : Int) : Rat) ≤ KW k := Rat.intCast_le_intCast.2 (by omega)
  have hp : (0 : Rat) < ((q.den : Int) : Rat) := rcast_pos (Nat.pos_of_ne_zero q.den_nz)
  have hn : (0 : Rat) < (q.num : Rat) := by rw [e]; exact Rat.mul_pos h0 hp
  have hn1 : (1 : Rat) ≤ (q.num : Rat) := by
    have : (0 : Int) < q.num := by
      have := Rat.intCast_lt_intCast (a := 0) (b := q.num)
      exact this.1 (by simpa using hn)
    have : ((1 : Int) : Rat) ≤ (q.num : Rat) := Rat.intCast_le_intCast.2 (by omega)
    simpa using this
  have := rmul_le hd (Rat.le_of_lt h0)
  grind
theorem Q.ne_ge {k : Nat} {q : Rat} (h : Q k q) (h0 : q ≠ 0) : 1 ≤ q * q * KW (k + k) := (h.mul h).pos_ge (rsq_pos h0)
/-! above and below -/
theorem mean_top {x : Nat → Rat} {n : Nat} {c b s : Rat} (hn : 0 < n) (hx : ∀ i, i < n → Q 64 (x i)) (hc : Q 64 c) (hc0 : 0 < c) (hb : Q 64 b) (hb0 : 0 < b) (hs : KW 257 ≤ s) : meanN x n c s ≤ b := by
  have hs0 : 0 < s := by have := KW_pos 257; grind
  have hcs := Rat.mul_pos hc0 hs0
  have h1 := mean_high hn hcs (fun i hi => (hx i hi).sq_le)
  refine rle_trans h1 ?_
  have e : 3 * (KW (64 + 64) / (c * s)) = 3 * KW (64 + 64) / (c * s) := by grind
  rw [e]
  refine rdiv_le hcs ?_
  have a1 := hb.pos_ge hb0
  have a2 := hc.pos_ge hc0
  have a3 : 3 ≤ KW 1 := by
    have : ((3 : Int) : Rat) ≤ KW 1 := Rat.intCast_le_intCast.2 (by rw [Nat.pow_one]; decide +kernel)
    simpa using this
  have e1 : KW 257 = KW 1 * (KW 64 * KW 64) * (KW 64 * KW 64) := by rw [← KW_add, ← KW_add, ← KW_add]
  have p64 := KW_pos 64
  rw [KW_add]
  have b1 : 1 ≤ b * KW 64 * (c * KW 64) := by
    have := rmul_le a2 (c := b * KW 64) (by grind)
    grind
  have b2 : KW 257 * (b * c) ≤ s * (b * c) := Rat.mul_le_mul_of_nonneg_right hs (Rat.le_of_lt (Rat.mul_pos hb0 hc0))
  have p2 : 0 ≤ KW 64 * KW 64 := Rat.le_of_lt (Rat.mul_pos p64 p64)
  have b3 : KW 1 * (KW 64 * KW 64) * 1 ≤ KW 1 * (KW 64 * KW 64) * (b * KW 64 * (c * KW 64)) := rmul_le b1 (Rat.mul_nonneg (by grind) p2)
  have b4 : 3 * (KW 64 * KW 64) ≤ KW 1 * (KW 64 * KW 64) := Rat.mul_le_mul_of_nonneg_right a3 p2
  have b5 : KW 1 * (KW 64 * KW 64) * (b * KW 64 * (c * KW 64)) = KW 257 * (b * c) := by rw [e1]; grind
  have b6 : KW 1 * (KW 64 * KW 64) * 1 = KW 1 * (KW 64 * KW 64) := by grind
  have b7 : s * (b * c) = b * (c * s) := by grind
  rw [b5, b6] at b3
  rw [b7] at b2
  exact rle_trans b4 (rle_trans b3 b2)
theorem mean_bot {x : Nat → Rat} {n : Nat} {c s : Rat} (hx : ∀ i, i < n → Q 64 (x i)) (hc : Q 64 c) (hc0 : 0 < c) (hs0 : 0 < s) (hs : s * KW 192 ≤ 1) : meanN x n c s = shareN x n := by
  refine mean_low (Rat.mul_pos hc0 hs0) (fun i hi h0 => ?_)
  have a1 := (hx i hi).ne_ge h0
  have a2 := hc.abs_le.2
  have e1 : KW 192 = KW 64 * KW (64 + 64) := by rw [← KW_add]
  rw [e1] at hs
  have pk := KW_pos (64 + 64)
  have b1 : c * s ≤ KW 64 * s := Rat.mul_le_mul_of_nonneg_right a2 (Rat.le_of_lt hs0)
  have b2 : c * s * KW (64 + 64) ≤ KW 64 * s * KW (64 + 64) := Rat.mul_le_mul_of_nonneg_right b1 (Rat.le_of_lt pk)
  have b3 : c * s * KW (64 + 64) ≤ x i * x i * KW (64 + 64) := by grind
  have := rdiv_le_div b3 (Rat.le_of_lt pk)
  have e2 : c * s * KW (64 + 64) / KW (64 + 64) = c * s := by grind
  have e3 : x i * x i * KW (64 + 64) / KW (64 + 64) = x i * x i := by grind
  rwa [e2, e3] at this
/-! dyadic numbers -/
def two (k : Nat) : Rat := ((2 ^ k : Nat) : Int)
theorem two_pos (k : Nat) : 0 < two k := rcast_pos (Nat.pow_pos (by decide))
theorem two_succ (k : Nat) : two (k + 1) = 2 * two k := by
  unfold two
  rw [Nat.pow_succ, Nat.mul_comm, Int.natCast_mul, Rat.intCast_mul]; rfl
theorem two_zero : two 0 = 1 := rfl
theorem two_mono {k l : Nat} (h : k ≤ l) : two k ≤ two l :=
  Rat.intCast_le_intCast.2 (Int.ofNat_le.2 (Nat.pow_le_pow_right (by decide) h))
theorem two32 (k : Nat) : two (32 * k) = KW k := by
  unfold two KW
  rw [Nat.pow_mul, W_eq]
def dy (h : Rat) (a k : Nat) : Rat := h * ((a : Int) : Rat) / two k
theorem dy_one (h : Rat) : dy h 1 0 = h := by
  unfold dy; rw [two_zero]; have : (((1 : Nat) : Int) : Rat) = 1 := rfl
  rw [this]; grind
theorem dy_double (h : Rat) (a k : Nat) : dy h a k + dy h a k = dy h (2 * a) k := by
  unfold dy
  have : (((2 * a : Nat) : Int) : Rat) = 2 * ((a : Int) : Rat) := by rw [Int.natCast_mul, Rat.intCast_mul]; rfl
  rw [this]; grind
theorem dy_halve (h : Rat) (a k : Nat) : dy h a k / 2 = dy h a (k + 1) := by
  unfold dy; rw [two_succ]; have := two_pos k; grind
theorem dy_up (h : Rat) (a k : Nat) : dy h a k = dy h (2 * a) (k + 1) := by
  rw [← dy_halve, ← dy_double]; grind
theorem dy_succ (h : Rat) (a k : Nat) : dy h (a + 1) k = dy h a k + h / two k := by
  unfold dy; rw [rcast_succ]; have := two_pos k; grind
theorem dy_mid (h : Rat) (a k : Nat) : (dy h a k + dy h (a + 1) k) / 2 = dy h (2 * a + 1) (k + 1) := by
  rw [dy_succ, dy_succ, ← dy_up, two_succ]; have := two_pos k; grind
theorem dy_pos {h : Rat} (h0 : 0 < h) {a : Nat} (ha : 0 < a) (k : Nat) : 0 < dy h a k := by
  unfold dy
  rw [Rat.div_def]
  exact Rat.mul_pos (Rat.mul_pos h0 (rcast_pos ha)) (Rat.inv_pos.2 (two_pos k))
theorem Q_nat {n k : Nat} (h : n < W ^ k) (hk : 1 ≤ k) : Q k ((n : Int) : Rat) := by
  refine Q_iff.2 ⟨?_, ?_⟩
  · show ((n : Int)).natAbs < W ^ k
    omega
  · show 1 < W ^ k
    exact Nat.lt_of_lt_of_le (by decide +kernel : 1 < W ^ 1) (Nat.pow_le_pow_right (by decide) hk)
theorem pow2_lt {k l : Nat} (h : k < 32 * l) : 2 ^ k < W ^ l := by
  rw [show W = 2 ^ 32 from by rw [W_eq], ← Nat.pow_mul]
  exact Nat.pow_lt_pow_right (by decide) h
theorem Q_two {k l : Nat} (h : k < 32 * l) : Q l (two k) := Q_nat (pow2_lt h) (by omega)
/-- The size of 2 ^ e in lowest terms over 2 ^ k is that of the greater one. -/
theorem Q_dy {h : Rat} {a k q l m : Nat} (hq : Q q h) (ha : a < W ^ l) (hl : 1 ≤ l) (hk : k < 32 * m) : Q (q + l + m + 1) (dy h a k) := by
  have := hq.mul (Q_nat ha hl)
  have h2 := Q_two hk
  rw [dy, Rat.div_def]
  have e := two_pos k
  have h3 : Q m (two k)⁻¹ := by
    obtain ⟨h4, h5⟩ := Q_iff.1 h2
    have hp : 0 < 2 ^ k := Nat.pow_pos (by decide)
    have e1 : (two k)⁻¹ = mkRat 1 (2 ^ k) := by
      rw [Rat.mkRat_eq_div]
      show (two k)⁻¹ = ((1 : Int) : Rat) / two k
      rw [Rat.div_def]
      have : ((1 : Int) : Rat) = 1 := rfl
      rw [this, Rat.one_mul]
    rw [e1]
    exact Q_mk (by omega) (by show 1 < W ^ m; exact Nat.lt_of_lt_of_le (by decide +kernel : 1 < W ^ 1) (Nat.pow_le_pow_right (by decide) (by omega))) (pow2_lt hk)
  exact (this.mul h3).le (by omega)
/-- 2 to the power of an integer. -/
def P2 (e : Int) : Rat := if e < 0 then 1 / two (-e).toNat else two e.toNat
theorem P2_pos (e : Int) : 0 < P2 e := by
  unfold P2
  split
  · rw [Rat.div_def]; exact Rat.mul_pos (by decide) (Rat.inv_pos.2 (two_pos _))
  · exact two_pos _
theorem P2_Q {e : Int} {l : Nat} (h1 : -(32 * l : Nat) < e) (h2 : e < (32 * l : Nat)) (hl : 1 ≤ l): Q (l + 3) (P2 e) := by
  unfold P2
  split
  · have := Q_dy (h := 1) (a := 1) (k := (-e).toNat) (q := 1) (l := 1) (m := l) ⟨by decide +kernel, by decide +kernel⟩ (by decide +kernel) (by decide) (by omega)
    have e1 : dy 1 1 (-e).toNat = 1 / two (-e).toNat := by unfold dy; rw [show (((1 : Nat) : Int) : Rat) = 1 from rfl]; grind
    rw [e1] at this
    exact this.le (by omega)
  · exact (Q_two (l := l) (by omega)).le (by omega)
theorem P2_le {e : Int} {l : Nat} (h1 : -(32 * l : Nat) ≤ e) (h2 : e ≤ (32 * l : Nat)) : P2 e ≤ KW l ∧ 1 ≤ P2 e * KW l := by
  rw [← two32]
  unfold P2
  have hp := two_pos (-e).toNat
  have hq := two_pos e.toNat
  have h1' : (1 : Rat) ≤ two (32 * l) := by have := two_mono (Nat.zero_le (32 * l)); rwa [two_zero] at this
  split
  · have a1 : two (-e).toNat ≤ two (32 * l) := two_mono (by omega)
    have a2 : (1 : Rat) ≤ two (-e).toNat := by have := two_mono (Nat.zero_le (-e).toNat); rwa [two_zero] at this
    refine ⟨rdiv_le hp ?_, ?_⟩
    · have := rmul_le a2 (c := two (32 * l)) (by grind); grind
    · have : 1 / two (-e).toNat * two (32 * l) = two (32 * l) / two (-e).toNat := by grind
      rw [this]; exact rle_div hp (by grind)
  · have a1 : two e.toNat ≤ two (32 * l) := two_mono (by omega)
    have a2 : (1 : Rat) ≤ two e.toNat := by have := two_mono (Nat.zero_le e.toNat); rwa [two_zero] at this
    refine ⟨a1, ?_⟩
    have := rmul_le a2 (c := two (32 * l)) (by grind); grind
/-! what Scale returns -/
structure ScaleOk (x : Nat → Rat) (n : Nat) (c b : Rat) (bits : Int) (lo hi : Rat) : Prop where
  pos : 0 < lo
  lt : lo < hi
  above : b < meanN x n c lo
  below : meanN x n c hi ≤ b
  narrow : hi - lo ≤ P2 (-bits) * hi
  qlo : Q 2000 lo
  qhi : Q 2000 hi
/-- The first loop: h0 2 ^ i. -/
theorem loop1_stop {x : Nat → Rat} {n : Nat} {c b h0 : Rat} {i : Nat} (hn : 0 < n) (hx : ∀ i, i < n → Q 64 (x i)) (hc : Q 64 c) (hc0 : 0 < c) (hb : Q 64 b) (hb0 : 0 < b) (hh : 1 ≤ h0 * KW 200)
    (ha : b < meanN x n c (dy h0 (2 ^ i) 0)) : i < 14624 := by
  apply Nat.lt_of_not_le
  intro h
  have hk := KW_pos 200
  have e : dy h0 (2 ^ i) 0 = h0 * two i := by unfold dy; rw [two_zero]; show h0 * two i / 1 = _; grind
  have h1 : two (32 * 457) ≤ two i := two_mono h
  rw [two32, KW_add 257 200] at h1
  have hh0 : 0 < h0 := by
    apply Rat.not_le.1
    intro hle
    have := rmul_le hle (c := KW 200) (by grind)
    grind
  have h2 := rmul_le h1 (Rat.le_of_lt hh0)
  have h3 := rmul_le hh (c := KW 257) (Rat.le_of_lt (KW_pos 257))
  have := mean_top hn hx hc hc0 hb hb0 (s := h0 * two i) (by grind)
  rw [e] at ha
  grind
theorem loop2_stop {x : Nat → Rat} {n : Nat} {c b h1 : Rat} {j : Nat} (hx : ∀ i, i < n → Q 64 (x i)) (hc : Q 64 c) (hc0 : 0 < c) (hs : b < shareN x n) (h0 : 0 < h1) (hh : h1 ≤ KW 657)
    (ha : ¬ b < meanN x n c (dy h1 1 j)) : j < 27168 := by
  apply Nat.lt_of_not_le
  intro h
  apply ha
  rw [mean_bot hx hc hc0 (dy_pos h0 (by decide) j) ?_]
  · exact hs
  · have h2 : two (32 * 849) ≤ two j := two_mono h
    rw [two32, KW_add 657 192] at h2
    have e : dy h1 1 j * KW 192 = h1 * KW 192 / two j := by unfold dy; show h1 * 1 / two j * KW 192 = _; grind
    rw [e]
    refine rdiv_le (two_pos j) ?_
    have := Rat.mul_le_mul_of_nonneg_right hh (Rat.le_of_lt (KW_pos 192))
    grind
theorem dy_le_KW {h0 : Rat} {i : Nat} (h0p : 0 < h0) (hh : h0 ≤ KW 200) (hi : i ≤ 14624) : dy h0 (2 ^ i) 0 ≤ KW 657 := by
  have e : dy h0 (2 ^ i) 0 = h0 * two i := by unfold dy; rw [two_zero]; show h0 * two i / 1 = _; grind
  rw [e]
  have h1 : two i ≤ two (32 * 457) := two_mono hi
  rw [two32] at h1
  have := rmul_le h1 (Rat.le_of_lt h0p)
  have h2 := Rat.mul_le_mul_of_nonneg_right hh (Rat.le_of_lt (KW_pos 457))
  have := KW_add 200 457
  grind
theorem loop3_stop {l : Rat} {a k bits : Nat} (hl : 0 < l) (ha : 2 ^ k ≤ a) (h : P2 (-(bits : Int)) * dy l (a + 1) k < dy l (a + 1) k - dy l a k) : k < bits := by
  apply Nat.lt_of_not_le
  intro hle
  have e2 : P2 (-(bits : Int)) = 1 / two bits := by
    unfold P2
    by_cases hb : bits = 0
    · subst hb; decide +kernel
    · rw [if_pos (by omega), show (-(-(bits : Int))).toNat = bits by omega]
  rw [dy_succ, e2] at h
  have hb := two_pos bits
  have hk := two_pos k
  have h1 : l / two k < two bits * (l / two k) + two bits * 0 ∨ True := .inr trivial
  have h2 : 1 / two bits * (dy l a k + l / two k) = (dy l a k + l / two k) / two bits := by grind
  rw [h2] at h
  have h3 : dy l a k + l / two k < two bits * (l / two k) := by
    apply Rat.not_le.1
    intro h4
    have h5 := rdiv_le_div h4 (Rat.le_of_lt hb)
    have e5 : two bits * (l / two k) / two bits = l / two k := by grind
    rw [e5] at h5
    grind
  have h6 : two k ≤ ((a : Int) : Rat) := Rat.intCast_le_intCast.2 (Int.ofNat_le.2 ha)
  have h7 : two bits ≤ two k := two_mono hle
  have h8 : dy l a k = l / two k * ((a : Int) : Rat) := by unfold dy; grind
  have hlk : 0 < l / two k := by rw [Rat.div_def]; exact Rat.mul_pos hl (Rat.inv_pos.2 hk)
  have h9 := rmul_le (rle_trans h7 h6) (Rat.le_of_lt hlk)
  grind
end Go.Proofs.YtegnonhgildhoaaGreat.E
