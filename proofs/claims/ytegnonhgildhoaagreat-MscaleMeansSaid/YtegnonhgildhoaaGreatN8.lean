/- Rational numbers by their limbs, and their sizes. -/
import Derived.Test.YtegnonhgildhoaaGreatN7
namespace Go.Proofs.YtegnonhgildhoaaGreat.E
open Go Go.RowKit
set_option linter.unusedVariables false
set_option linter.unusedSimpArgs false
def toD (d : Nat) : List Nat := if d = 1 then [] else toL d
def encQ (q : Rat) : Raw := ⟨decide (q.num < 0), toL q.num.natAbs, toD q.den⟩
def validQ (r : Raw) : Bool := validZ ⟨r.neg, r.mag⟩ && validU r.den && (decide (r.den.length = 0) || (!decide (r.mag.length = 0) && !decide (lv r.den = 1) && decide (Nat.gcd (lv r.mag) (lv r.den) = 1)))
def dlv (d : List Nat) : Nat := if d.length = 0 then 1 else lv d
def qv (r : Raw) : Rat := if validQ r then mkRat (zv ⟨r.neg, r.mag⟩) (dlv r.den) else 0
theorem Lb_toD (d : Nat) : Lb (toD d) := by unfold toD; split; exact Lb_nil; exact Lb_toL d
theorem toD_len {d : Nat} (hd : d ≠ 0) : (toD d).length = 0 ↔ d = 1 := by
  unfold toD; split
  · simp [*]
  · rw [toL_len0]; omega
theorem toD_one : toD 1 = [] := rfl
theorem toD_ne {d : Nat} (h : d ≠ 1) : toD d = toL d := if_neg h
theorem toD_valid (d : Nat) : validU (toD d) = true := by unfold toD; split; rfl; exact validU_toL d
theorem dlv_toD {d : Nat} (hd : d ≠ 0) : dlv (toD d) = d := by
  unfold dlv
  by_cases h : d = 1
  · subst h; rfl
  · rw [if_neg (by rw [toD_len hd]; exact h), toD_ne h, lv_toL]
theorem toD_le (d : Nat) : (toD d).length ≤ (toL d).length := by unfold toD; split; exact Nat.zero_le _; exact Nat.le_refl _
theorem validQ_encQ (q : Rat) : validQ (encQ q) = true := by
  have hz : validZ ⟨(encQ q).neg, (encQ q).mag⟩ = true := validZ_encZ q.num
  have hd := q.den_nz
  unfold validQ
  rw [hz]
  show (true && validU (toD q.den) && (decide ((toD q.den).length = 0) || _)) = true
  rw [toD_valid]
  by_cases h : q.den = 1
  · rw [h]; rfl
  · have h0 : ¬ (toD q.den).length = 0 := by rw [toD_len hd]; exact h
    have hn : q.num.natAbs ≠ 0 := by
      intro hn
      have := q.reduced
      rw [hn] at this
      exact h (by simpa [Nat.Coprime] using this)
    have hm : ¬ (toL q.num.natAbs).length = 0 := by rw [toL_len0]; exact hn
    have hc : Nat.gcd (lv (toL q.num.natAbs)) (lv (toD q.den)) = 1 := by rw [lv_toL, toD_ne h, lv_toL]; exact q.reduced
    have hl : ¬ lv (toD q.den) = 1 := by rw [toD_ne h, lv_toL]; exact h
    show (true && true && (decide ((toD q.den).length = 0) || (!decide ((toL q.num.natAbs).length = 0) && !decide (lv (toD q.den) = 1) && decide (Nat.gcd (lv (toL q.num.natAbs)) (lv (toD q.den)) = 1)))) = true
    simp [h0, hm, hc, hl]
theorem qv_encQ (q : Rat) : qv (encQ q) = q := by
  rw [qv, if_pos (validQ_encQ q)]
  show mkRat (zv (encZ q.num)) (dlv (toD q.den)) = q
  rw [zv_encZ, dlv_toD q.den_nz, Rat.mkRat_self]
theorem encQ_zero : encQ 0 = ⟨false, [], []⟩ := by
  show (⟨decide ((0 : Rat).num < 0), toL (0 : Rat).num.natAbs, toD (0 : Rat).den⟩ : Raw) = _
  have h1 : (0 : Rat).num = 0 := rfl
  have h2 : (0 : Rat).den = 1 := rfl
  rw [h1, h2]
  show (⟨decide ((0 : Int) < 0), toL 0, []⟩ : Raw) = _
  rw [toL_zero]; rfl
theorem encQ_qv_f {r : Raw} (h : validQ r = false) : encQ (qv r) = ⟨false, [], []⟩ := by rw [qv, if_neg (by simp [h]), encQ_zero]
theorem mk_num_den {n : Int} {d : Nat} (hd : d ≠ 0) (hc : Nat.gcd n.natAbs d = 1) : (mkRat n d).num = n ∧ (mkRat n d).den = d := by
  rw [← Rat.mk_eq_mkRat n d hd hc]; exact ⟨rfl, rfl⟩
theorem encQ_qv {r : Raw} (h1 : Lb r.mag) (h2 : Lb r.den) (h : validQ r = true) : encQ (qv r) = r := by
  have h' := h
  unfold validQ at h
  simp only [Bool.and_eq_true, Bool.or_eq_true, decide_eq_true_eq] at h
  obtain ⟨⟨hz, hd⟩, hr⟩ := h
  rw [qv, if_pos h']
  obtain ⟨ng, mg, dn⟩ := r
  simp only at *
  have ez := encZ_zv (z := ⟨ng, mg⟩) h1 hz
  have ez1 : decide (zv ⟨ng, mg⟩ < 0) = ng := congrArg RawI.neg ez
  have ez2 : toL (zv ⟨ng, mg⟩).natAbs = mg := congrArg RawI.mag ez
  have key : dlv dn ≠ 0 ∧ Nat.gcd (zv ⟨ng, mg⟩).natAbs (dlv dn) = 1 ∧ toD (dlv dn) = dn := by
    by_cases h0 : dn.length = 0
    · have : dn = [] := List.length_eq_zero_iff.1 h0
      subst this
      exact ⟨by decide, by simp [dlv], rfl⟩
    · rcases hr with hr | hr
      · exact absurd hr h0
      · have hne : dn ≠ [] := fun e => h0 (by rw [e]; rfl)
        have hp := lv_pos hd hne
        have h1' : lv dn ≠ 1 := by simpa using hr.1.2
        have hg := hr.2
        have el : dlv dn = lv dn := if_neg h0
        have em : lv mg = (zv ⟨ng, mg⟩).natAbs := by rw [← ez2, lv_toL]; rw [ez2]
        rw [el]
        exact ⟨hp, by rw [← em]; exact hg, by rw [toD_ne h1', toL_lv h2 hd]⟩
  obtain ⟨k1, k2, k3⟩ := key
  obtain ⟨e1, e2⟩ := mk_num_den k1 k2
  show (⟨decide ((mkRat (zv ⟨ng, mg⟩) (dlv dn)).num < 0), toL (mkRat (zv ⟨ng, mg⟩) (dlv dn)).num.natAbs, toD (mkRat (zv ⟨ng, mg⟩) (dlv dn)).den⟩ : Raw) = _
  rw [e1, e2, ez1, ez2, k3]
/-- A number in lowest terms. -/
theorem low_num {n : Int} {d : Nat} (hd : d ≠ 0) : (mkRat n d).num = n / ((Nat.gcd n.natAbs d : Nat) : Int) ∧ (mkRat n d).den = d / Nat.gcd n.natAbs d := by
  rw [Rat.mkRat_def, dif_neg hd, Rat.normalize_eq hd]; exact ⟨rfl, rfl⟩
theorem low_enc {n : Int} {d : Nat} (hd : d ≠ 0) : encQ (mkRat n d) = ⟨decide (n < 0), toL (n.natAbs / Nat.gcd n.natAbs d), toD (d / Nat.gcd n.natAbs d)⟩ := by
  obtain ⟨e1, e2⟩ := low_num (n := n) hd
  have hg : 0 < Nat.gcd n.natAbs d := Nat.gcd_pos_of_pos_right _ (Nat.pos_of_ne_zero hd)
  have hdv : ((Nat.gcd n.natAbs d : Nat) : Int) ∣ n := Int.ofNat_dvd_left.2 (Nat.gcd_dvd_left _ _)
  have hn : (n / ((Nat.gcd n.natAbs d : Nat) : Int)).natAbs = n.natAbs / Nat.gcd n.natAbs d := by
    rw [Int.natAbs_ediv_of_dvd hdv]; rfl
  have hs : decide (n / ((Nat.gcd n.natAbs d : Nat) : Int) < 0) = decide (n < 0) := by
    obtain ⟨k, hk⟩ := hdv
    generalize Nat.gcd n.natAbs d = g at *
    have hg' : (0 : Int) < (g : Int) := by omega
    have e : n / (g : Int) = k := by rw [hk, Int.mul_ediv_cancel_left _ (by omega)]
    rw [e, decide_eq_decide, hk]
    constructor
    · intro h; exact Int.mul_neg_of_pos_of_neg hg' h
    · intro h
      apply Int.lt_of_not_ge
      intro h0
      have := Int.mul_nonneg (Int.le_of_lt hg') h0
      omega
  show (⟨decide ((mkRat n d).num < 0), toL (mkRat n d).num.natAbs, toD (mkRat n d).den⟩ : Raw) = _
  rw [e1, e2, hn, hs]
/-! sizes -/
def Q (k : Nat) (q : Rat) : Prop := (toL q.num.natAbs).length ≤ k ∧ (toL q.den).length ≤ k
def RQ (k : Nat) (r : Raw) : Prop := Lb r.mag ∧ Lb r.den ∧ r.mag.length ≤ k ∧ r.den.length ≤ k ∧ Q k (qv r)
theorem Q.le {a b : Nat} {q : Rat} (h : Q a q) (hab : a ≤ b) : Q b q := ⟨Nat.le_trans h.1 hab, Nat.le_trans h.2 hab⟩
theorem RQ_enc {k : Nat} {q : Rat} (h : Q k q) : RQ k (encQ q) := ⟨Lb_toL _, Lb_toD _, h.1, Nat.le_trans (toD_le _) h.2, by rw [qv_encQ]; exact h⟩
theorem Q_iff {k : Nat} {q : Rat} : Q k q ↔ q.num.natAbs < W ^ k ∧ q.den < W ^ k :=
  ⟨fun h => ⟨lt_of_length h.1, lt_of_length h.2⟩, fun h => ⟨length_toL h.1, length_toL h.2⟩⟩
theorem Q_mk {n : Int} {d k : Nat} (hd : d ≠ 0) (h1 : n.natAbs < W ^ k) (h2 : d < W ^ k) : Q k (mkRat n d) := by
  obtain ⟨e1, e2⟩ := low_num (n := n) hd
  have hdv : ((Nat.gcd n.natAbs d : Nat) : Int) ∣ n := Int.ofNat_dvd_left.2 (Nat.gcd_dvd_left _ _)
  refine Q_iff.2 ⟨?_, ?_⟩
  · rw [e1, Int.natAbs_ediv_of_dvd hdv]
    exact Nat.lt_of_le_of_lt (Nat.div_le_self _ _) h1
  · rw [e2]; exact Nat.lt_of_le_of_lt (Nat.div_le_self _ _) h2
theorem den_mul_ne (p q : Rat) : p.den * q.den ≠ 0 := Nat.mul_ne_zero p.den_nz q.den_nz
theorem mul_lt_pow {a b k l : Nat} (ha : a < W ^ k) (hb : b < W ^ l) : a * b < W ^ (k + l) := by
  rw [Nat.pow_add]
  exact Nat.mul_lt_mul_of_lt_of_le ha (Nat.le_of_lt hb) (Wpos l)
theorem Q.neg {k : Nat} {q : Rat} (h : Q k q) : Q k (-q) := by
  unfold Q at *
  rw [Rat.neg_num, Int.natAbs_neg]; exact h
theorem Q.mul {k l : Nat} {p q : Rat} (hp : Q k p) (hq : Q l q) : Q (k + l) (p * q) := by
  rw [Rat.mul_def']
  obtain ⟨a, b⟩ := Q_iff.1 hp
  obtain ⟨c, d⟩ := Q_iff.1 hq
  exact Q_mk (den_mul_ne p q) (by rw [Int.natAbs_mul]; exact mul_lt_pow a c) (mul_lt_pow b d)
theorem add_lt_pow {a b k : Nat} (ha : a < W ^ k) (hb : b < W ^ k) : a + b < W ^ (k + 1) := by
  rw [Nat.pow_succ, W_eq] at *; omega
theorem Q.add {k l : Nat} {p q : Rat} (hp : Q k p) (hq : Q l q) : Q (k + l + 1) (p + q) := by
  rw [Rat.add_def']
  obtain ⟨a, b⟩ := Q_iff.1 hp
  obtain ⟨c, d⟩ := Q_iff.1 hq
  refine Q_mk (den_mul_ne p q) (Nat.lt_of_le_of_lt (Int.natAbs_add_le _ _) (add_lt_pow ?_ ?_)) (Nat.lt_of_lt_of_le (mul_lt_pow b d) (Nat.pow_le_pow_right (by decide) (Nat.le_succ _)))
  · rw [Int.natAbs_mul]; exact mul_lt_pow a d
  · rw [Int.natAbs_mul, Nat.add_comm]; exact mul_lt_pow c b
theorem Q.sub {k l : Nat} {p q : Rat} (hp : Q k p) (hq : Q l q) : Q (k + l + 1) (p - q) := by
  rw [Rat.sub_eq_add_neg]; exact hp.add hq.neg
theorem RQ.lens {k : Nat} {r : Raw} (h1 : Lb r.mag) (h2 : Lb r.den) (h3 : r.mag.length ≤ k) (h4 : r.den.length ≤ k) (hk : 1 ≤ k) : RQ k r := by
  refine ⟨h1, h2, h3, h4, ?_⟩
  cases h : validQ r with
  | true =>
    have e := encQ_qv h1 h2 h
    have e1 : toL (qv r).num.natAbs = r.mag := congrArg Raw.mag e
    have e2 : toD (qv r).den = r.den := congrArg Raw.den e
    refine ⟨by rw [e1]; exact h3, ?_⟩
    by_cases hd : (qv r).den = 1
    · rw [hd]; exact Nat.le_trans (by decide +kernel) hk
    · rw [← toD_ne hd, e2]; exact h4
  | false =>
    rw [qv, if_neg (by simp [h])]
    exact ⟨by show (toL 0).length ≤ k; rw [toL_zero]; exact Nat.zero_le _, by show (toL 1).length ≤ k; exact Nat.le_trans (by decide +kernel) hk⟩
theorem zlen_mulN (a : Int) (d : Nat) : (toL (a * (d : Int)).natAbs).length ≤ (toL a.natAbs).length + (toL d).length := by
  rw [Int.natAbs_mul, Int.natAbs_natCast]
  exact length_toL (mul_lt_pow (lt_of_length (Nat.le_refl _)) (lt_of_length (Nat.le_refl _)))
theorem zlen_mul (a b : Int) : (toL (a * b).natAbs).length ≤ (toL a.natAbs).length + (toL b.natAbs).length := by
  rw [Int.natAbs_mul]
  exact length_toL (mul_lt_pow (lt_of_length (Nat.le_refl _)) (lt_of_length (Nat.le_refl _)))
theorem nlen_mul (a b : Nat) : (toL (a * b)).length ≤ (toL a).length + (toL b).length :=
  length_toL (mul_lt_pow (lt_of_length (Nat.le_refl _)) (lt_of_length (Nat.le_refl _)))
theorem zlen_add {a b : Int} {k : Nat} (ha : (toL a.natAbs).length ≤ k) (hb : (toL b.natAbs).length ≤ k) : (toL (a + b).natAbs).length ≤ k + 1 :=
  length_toL (Nat.lt_of_le_of_lt (Int.natAbs_add_le _ _) (add_lt_pow (lt_of_length ha) (lt_of_length hb)))
theorem encQ_neg (q : Rat) : encQ (-q) = ⟨decide (-q.num < 0), toL (-q.num).natAbs, toD q.den⟩ := by
  show (⟨decide ((-q).num < 0), toL (-q).num.natAbs, toD (-q).den⟩ : Raw) = _
  rw [Rat.neg_num]; rfl
theorem encQ_int (v : Int) : encQ (v : Rat) = ⟨decide (v < 0), toL v.natAbs, []⟩ := rfl
theorem int_of_den {q : Rat} (h : q.den = 1) : q = (q.num : Rat) := Rat.ext rfl h
theorem encQ_addI {x y : Rat} (hx : x.den = 1) (hy : y.den = 1) : encQ (x + y) = ⟨decide (x.num + y.num < 0), toL (x.num + y.num).natAbs, []⟩ := by
  have e : x + y = ((x.num + y.num : Int) : Rat) := by rw [Rat.intCast_add, ← int_of_den hx, ← int_of_den hy]
  rw [e, encQ_int]
theorem encQ_mulI {x y : Rat} (hx : x.den = 1) (hy : y.den = 1) : encQ (x * y) = ⟨decide (x.num * y.num < 0), toL (x.num * y.num).natAbs, []⟩ := by
  have e : x * y = ((x.num * y.num : Int) : Rat) := by rw [Rat.intCast_mul, ← int_of_den hx, ← int_of_den hy]
  rw [e, encQ_int]
theorem mk_pos {n d : Int} (h : 0 < d) : mkRat n d.natAbs = (n : Rat) / (d : Rat) := by
  rw [Rat.mkRat_eq_div]
  congr 1
  have : ((d.natAbs : Nat) : Int) = d := by omega
  rw [← this]; rfl
theorem mk_neg {n d : Int} (h : d < 0) : mkRat (-n) d.natAbs = (n : Rat) / (d : Rat) := by
  rw [← Rat.divInt_eq_div]
  cases d with
  | ofNat k => exact absurd h (by simp)
  | negSucc k =>
    show mkRat (-n) (k + 1) = Rat.normalize (-n) (k + 1) (Nat.succ_ne_zero k)
    rw [Rat.mkRat_def, dif_neg (Nat.succ_ne_zero k)]
theorem div_parts (x y : Rat) : ((x.num * (y.den : Int) : Int) : Rat) / ((y.num * (x.den : Int) : Int) : Rat) = x / y := by
  have hx := Rat.num_divInt_den x
  have hy := Rat.num_divInt_den y
  rw [← Rat.divInt_eq_div, Rat.div_def]
  have e : x * y⁻¹ = (Rat.divInt x.num x.den) * (Rat.divInt y.num y.den)⁻¹ := by rw [hx, hy]
  rw [e, Rat.inv_divInt, Rat.divInt_mul_divInt, Int.mul_comm (x.den : Int)]
def cmpQ (x y : Rat) : Int := cmpI (x.num * (y.den : Int)) (y.num * (x.den : Int))
theorem cmpQ_lt {x y : Rat} : cmpQ x y < 0 ↔ x < y := by
  unfold cmpQ cmpI; rw [Rat.lt_iff]
  split
  · simp [*]
  · split <;> simp [*]
theorem cmpQ_gt {x y : Rat} : cmpQ x y > 0 ↔ y < x := by
  unfold cmpQ cmpI; rw [Rat.lt_iff]
  split
  · simp; omega
  · split
    · simp; omega
    · simp; omega
theorem cmpN_zero {a b : Nat} : cmpN a b = 0 ↔ a = b := by
  rcases cmpN_cases a b with ⟨h, e⟩ | ⟨h, e⟩ | ⟨h, e⟩ <;> rw [e] <;> constructor <;> intro h' <;> omega
theorem toL_1 : toL 1 = [1] := by rw [toL_pos (by decide), show 1 / W = 0 from rfl, toL_zero]; rfl
end Go.Proofs.YtegnonhgildhoaaGreat.E
