/- Whole numbers as the machine has them, without their wraps. -/
import Derived.Test.YtegnonhgildhoaaGreatE8
import Derived.Test.YtegnonhgildhoaaGreatN0
namespace Go.Proofs.YtegnonhgildhoaaGreat.E
open Go
set_option linter.unusedVariables false
set_option linter.unusedSimpArgs false
theorem uw64 (n : Nat) : IntKind.u64.wrap (n : Int) = ((n % 18446744073709551616 : Nat) : Int) := by
  simp [IntKind.wrap, IntKind.signed, IntKind.bits]
theorem uw32 (n : Nat) : IntKind.u32.wrap (n : Int) = ((n % 4294967296 : Nat) : Int) := by
  simp [IntKind.wrap, IntKind.signed, IntKind.bits]
theorem uw32e {e : Int} (n : Nat) (h : e = (n : Nat)) : IntKind.u32.wrap e = ((n % 4294967296 : Nat) : Int) := by rw [h, uw32]
theorem uw64b {e : Int} (n : Nat) (h : e = (n : Nat)) (hb : n < 18446744073709551616) : IntKind.u64.wrap e = (n : Nat) := by rw [h, uw64, Nat.mod_eq_of_lt hb]
theorem uw32b {e : Int} (n : Nat) (h : e = (n : Nat)) (hb : n < 4294967296) : IntKind.u32.wrap e = (n : Nat) := by rw [h, uw32, Nat.mod_eq_of_lt hb]
theorem fdivn (n k : Nat) : Int.fdiv (n : Int) (2 ^ k) = ((n / 2 ^ k : Nat) : Int) := by
  rw [Int.fdiv_eq_ediv_of_nonneg _ (by exact Int.le_of_lt (Int.pow_pos (by decide)))]
  simp
theorem tdivn (n m : Nat) : Int.tdiv (n : Int) (m : Int) = ((n / m : Nat) : Int) := by simp [Int.tdiv_eq_ediv_of_nonneg]
theorem tmodn (n m : Nat) : Int.tmod (n : Int) (m : Int) = ((n % m : Nat) : Int) := by simp [Int.tmod_eq_emod_of_nonneg]
theorem bv_and {b x y : Nat} (hx : x < 2 ^ b) (hy : y < 2 ^ b) : (BitVec.ofInt b (x : Int) &&& BitVec.ofInt b (y : Int)).toNat = x &&& y := by
  simp [BitVec.ofInt_natCast, Nat.mod_eq_of_lt hx, Nat.mod_eq_of_lt hy]
theorem bv_or {b x y : Nat} (hx : x < 2 ^ b) (hy : y < 2 ^ b) : (BitVec.ofInt b (x : Int) ||| BitVec.ofInt b (y : Int)).toNat = x ||| y := by
  simp [BitVec.ofInt_natCast, Nat.mod_eq_of_lt hx, Nat.mod_eq_of_lt hy]
theorem bv_xor {b x y : Nat} (hx : x < 2 ^ b) (hy : y < 2 ^ b) : (BitVec.ofInt b (x : Int) ^^^ BitVec.ofInt b (y : Int)).toNat = x ^^^ y := by
  simp [BitVec.ofInt_natCast, Nat.mod_eq_of_lt hx, Nat.mod_eq_of_lt hy]
section
variable {P : Program} {ops : Array Oper} {l : Slots} {M : List Blk} {F : List Fact}
theorem q_quo {i T T' : Nat} {x y : Operand} {k : IntKind} {a b : Int} (hop : (opOf ops i).op = .binOp .quo T x y T') (hx : rho l x = .int k a) (hy : rho l y = .int k b) (hb : b ≠ 0) :
    ∀ w, Now M F w → (execOp (rho l) (opOf ops i)).run P w = .ok (.value (.int k (k.wrap (a.tdiv b)))) w := by
  intro w _
  unfold execOp
  simp only [hop, hx, hy]
  simp [eqGuard, binOp, Op.intDiv, hb, Sem.run, pure]
theorem q_rem {i T T' : Nat} {x y : Operand} {k : IntKind} {a b : Int} (hop : (opOf ops i).op = .binOp .rem T x y T') (hx : rho l x = .int k a) (hy : rho l y = .int k b) (hb : b ≠ 0) :
    ∀ w, Now M F w → (execOp (rho l) (opOf ops i)).run P w = .ok (.value (.int k (a.tmod b))) w := by
  intro w _
  unfold execOp
  simp only [hop, hx, hy]
  simp [eqGuard, binOp, Op.intDiv, hb, Sem.run, pure]
theorem q_shl {i T T' m : Nat} {x y : Operand} {k k' : IntKind} {a b : Int} (hop : (opOf ops i).op = .binOp .shl T x y T') (hx : rho l x = .int k a) (hy : rho l y = .int k' b) (hb : b = (m : Nat)) (hm : m ≤ k.bits) :
    ∀ w, Now M F w → (execOp (rho l) (opOf ops i)).run P w = .ok (.value (.int k (k.wrap (a * 2 ^ m)))) w := by
  intro w _
  unfold execOp
  simp only [hop, hx, hy, hb]
  have h0 : ¬ ((m : Int) < 0) := by omega
  simp [eqGuard, binOp, Op.shift, h0, Sem.run, pure, Nat.min_eq_left hm]
theorem q_shr {i T T' m : Nat} {x y : Operand} {k k' : IntKind} {a b : Int} (hop : (opOf ops i).op = .binOp .shr T x y T') (hx : rho l x = .int k a) (hy : rho l y = .int k' b) (hb : b = (m : Nat)) (hm : m ≤ k.bits) :
    ∀ w, Now M F w → (execOp (rho l) (opOf ops i)).run P w = .ok (.value (.int k (a.fdiv (2 ^ m)))) w := by
  intro w _
  unfold execOp
  simp only [hop, hx, hy, hb]
  have h0 : ¬ ((m : Int) < 0) := by omega
  simp [eqGuard, binOp, Op.shift, h0, Sem.run, pure, Nat.min_eq_left hm]
end
theorem top_bit {n : Nat} (h : n < 4294967296) : n.testBit 31 = decide (2147483648 ≤ n) := by
  rw [Nat.testBit_eq_decide_div_mod_eq]
  by_cases h2 : 2147483648 ≤ n
  · have : n / 2 ^ 31 % 2 = 1 := by omega
    simp [this, h2]
  · have : n / 2 ^ 31 % 2 = 0 := by omega
    simp [this, h2]
theorem sub32_diff (x y c : Nat) (hx : x < 4294967296) (hy : y < 4294967296) (hc : c ≤ 1) : IntKind.u32.wrap (IntKind.u32.wrap ((x : Int) - (y : Int)) - (c : Int)) = (((x + 4294967296 - y - c) % 4294967296 : Nat) : Int) := by
  simp only [IntKind.wrap_u32]
  omega
theorem sub32_borrow (x y c : Nat) (hx : x < 4294967296) (hy : y < 4294967296) (hc : c ≤ 1) :
    Int.fdiv (IntKind.u32.wrap ((BitVec.ofInt 32 (IntKind.u32.wrap ((BitVec.ofInt 32 (IntKind.u32.wrap ((BitVec.ofInt 32 4294967295 ^^^ BitVec.ofInt 32 (x : Int)).toNat : Nat)) &&& BitVec.ofInt 32 (y : Int)).toNat : Nat)) |||
      BitVec.ofInt 32 (IntKind.u32.wrap ((BitVec.ofInt 32 (IntKind.u32.wrap ((BitVec.ofInt 32 4294967295 ^^^ BitVec.ofInt 32 (IntKind.u32.wrap ((BitVec.ofInt 32 (x : Int) ^^^ BitVec.ofInt 32 (y : Int)).toNat : Nat))).toNat : Nat)) &&&
        BitVec.ofInt 32 (IntKind.u32.wrap (IntKind.u32.wrap ((x : Int) - (y : Int)) - (c : Int)))).toNat : Nat))).toNat : Nat)) (2 ^ 31) = ((if x < y + c then 1 else 0 : Nat) : Int) := by
  rw [sub32_diff x y c hx hy hc]
  have hM : (4294967295 : Int) = ((4294967295 : Nat) : Int) := rfl
  have b32 : ∀ {n : Nat}, n < 2 ^ 32 → IntKind.u32.wrap (n : Int) = (n : Int) := fun {n} h => uw32b n rfl h
  have hd : (x + 4294967296 - y - c) % 4294967296 < 2 ^ 32 := Nat.mod_lt _ (by decide)
  have x2 : x < 2 ^ 32 := hx
  have y2 : y < 2 ^ 32 := hy
  have m2 : (4294967295 : Nat) < 2 ^ 32 := by decide
  rw [hM, bv_xor m2 x2, b32 (Nat.xor_lt_two_pow m2 x2), bv_and (Nat.xor_lt_two_pow m2 x2) y2, b32 (Nat.and_lt_two_pow _ y2), bv_xor x2 y2, b32 (Nat.xor_lt_two_pow x2 y2), bv_xor m2 (Nat.xor_lt_two_pow x2 y2),
    b32 (Nat.xor_lt_two_pow m2 (Nat.xor_lt_two_pow x2 y2)), bv_and (Nat.xor_lt_two_pow m2 (Nat.xor_lt_two_pow x2 y2)) hd, b32 (Nat.and_lt_two_pow _ hd), bv_or (Nat.and_lt_two_pow _ y2) (Nat.and_lt_two_pow _ hd),
    b32 (Nat.or_lt_two_pow (Nat.and_lt_two_pow _ y2) (Nat.and_lt_two_pow _ hd)), fdivn]
  have hr : (((4294967295 ^^^ x) &&& y) ||| ((4294967295 ^^^ (x ^^^ y)) &&& ((x + 4294967296 - y - c) % 4294967296))) < 4294967296 := Nat.or_lt_two_pow (n := 32) (Nat.and_lt_two_pow _ y2) (Nat.and_lt_two_pow _ hd)
  have ht : (((4294967295 ^^^ x) &&& y) ||| ((4294967295 ^^^ (x ^^^ y)) &&& ((x + 4294967296 - y - c) % 4294967296))).testBit 31 = decide (x < y + c) := by
    rw [Nat.testBit_or, Nat.testBit_and, Nat.testBit_and, Nat.testBit_xor, Nat.testBit_xor, Nat.testBit_xor, top_bit hx, top_bit hy, top_bit hd, show (4294967295 : Nat).testBit 31 = true by decide]
    by_cases h1 : 2147483648 ≤ x <;> by_cases h2 : 2147483648 ≤ y <;> by_cases h3 : 2147483648 ≤ (x + 4294967296 - y - c) % 4294967296 <;> by_cases h4 : x < y + c <;> simp [h1, h2, h3, h4] <;> omega
  rw [top_bit hr] at ht
  generalize (((4294967295 ^^^ x) &&& y) ||| ((4294967295 ^^^ (x ^^^ y)) &&& ((x + 4294967296 - y - c) % 4294967296))) = r at *
  have h2 : (2147483648 ≤ r) = (x < y + c) := by simpa using ht
  by_cases h4 : x < y + c
  · have : 2147483648 ≤ r := by rw [h2]; exact h4
    rw [if_pos h4, show r / 2 ^ 31 = 1 by omega]
  · have : ¬ 2147483648 ≤ r := by rw [h2]; exact h4
    rw [if_neg h4, show r / 2 ^ 31 = 0 by omega]
theorem or_shift (a b k : Nat) (h : b < 2 ^ k) : a * 2 ^ k ||| b = a * 2 ^ k + b := by
  rw [Nat.mul_comm, Nat.two_pow_add_eq_or_of_lt h]
end Go.Proofs.YtegnonhgildhoaaGreat.E
