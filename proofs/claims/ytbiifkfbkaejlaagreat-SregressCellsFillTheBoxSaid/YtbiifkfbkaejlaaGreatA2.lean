/- Lemmas and contracts of functions on the way to the law, part 2. -/
import Derived.Test.YtbiifkfbkaejlaaGreatProg
import Derived.Test.YtbiifkfbkaejlaaGreatA1
namespace Go.Proofs.YtbiifkfbkaejlaaGreat.E
open Go Go.RowKit
set_option linter.unusedVariables false
set_option linter.unusedSimpArgs false
theorem toL_nv_t {xs : List Nat} (hb : Lb xs) (h : validU xs = true) : toL (nv xs) = xs := by rw [← nval_eq hb, h]; rfl
theorem toL_nv_f {xs : List Nat} (hb : Lb xs) (h : validU xs = false) : toL (nv xs) = [] := by rw [← nval_eq hb, h]; rfl
theorem validU_eq (xs : List Nat) (h : (xs.length : Int) = 0) : validU xs = true := by
  have : xs = [] := List.length_eq_zero_iff.1 (by omega)
  subst this; rfl
theorem ne_of_beq_false {a b : Int} (h : (a == b) = false) : a ≠ b := by simpa using h
theorem validU_ne (xs : List Nat) (h : (xs.length : Int) ≠ 0) : validU xs = (((xs.getD ((xs.length : Int) - 1).toNat 0 : Nat) : Int) != 0) := by
  have hne : xs ≠ [] := fun e => h (by rw [e]; rfl)
  have e : ((xs.length : Int) - 1).toNat = xs.length - 1 := by omega
  rw [e]
  unfold validU
  rw [Bool.eq_iff_iff]
  simp [List.isEmpty_iff, hne]
theorem natural_Valid (s : SA) (xs : List Nat) : Spec Tryz.prog 151 #[sl s xs.length] [fU s xs] (ι := Unit) (fun y => .bool (validU xs)) (fun y => True) (fun y => []) := by
 refine Spec.of_body _ (fn := Tryz.f151) k_ rfl k_ (fun X w0 => ?_)
 refine J.fact (φ := xs.length ≤ 140737488355328) (fun w h => by have := (h _ (.head _)).1; omega) (fun hl1 => ?_)
 refine J.sreg ?_
 refine RN.bq (no 1) [0] [] 1 [(0, sl s xs.length)] k_ ?_
 refine RN.fs k_ ?_
 refine RN.bq (no 4) [0, 6] [] 4 [(0, sl s xs.length), (6, .bool ((((xs.length : Nat) : Int) : Int) == 0))] k_ ?_
 refine RN.split 6 ((((xs.length : Nat) : Int) : Int) == 0) k_ (fun c2 => ?_) (fun c2 => ?_)
 ·replace c2 := eq_of_beq c2
  refine RN.bq (no 9) [2] [] 13 [(2, .bool true)] k_ ?_
  refine RN.fin k_ ?_
  have e_1 : (validU xs) = true := by exact validU_eq _ c2
  refine J.ret (KR.ret (v := .bool true) (()) [none] [] [] k_ v1_ (trivial) v1_)
 ·replace c2 := ne_of_beq_false c2
  refine RN.bq (no 4) [6, 7, 10] [] 8 [(6, .bool false), (7, sl s xs.length), (10, .int .i64 (IntKind.i64.wrap (((xs.length : Nat) : Int) - 1)))] k_ ?_
  rw [show IntKind.i64.wrap (((xs.length : Nat) : Int) - 1) = (((xs.length : Nat) : Int) - 1) from by rw [IntKind.wrap_i64]; omega]
  refine RN.val _ k_ k_ (q_uidx (t := 36) (x := (.tmp 7)) (ix := (.tmp 10)) (K := .i64) (i0 := ((xs.length : Nat) : Int) - 1) (m := (((xs.length : Nat) : Int) - 1).toNat) (e := 107) 0 rfl k_ k_ k_ k_ k_ (by omega) x_) ?_
  refine RN.val _ k_ k_ (q_uload (T := 107) (x := (.tmp 11)) (m := (((xs.length : Nat) : Int) - 1).toNat) (s := s) (xs := xs) 0 rfl k_ k_ k_ x_) ?_
  refine RN.bq (no 3) [2] [] 13 [(2, .bool ((((xs.getD ((((xs.length : Nat) : Int) - 1).toNat) 0 : Nat) : Int) : Int) != 0))] k_ ?_
  refine RN.fin k_ ?_
  have e_1 : (validU xs) = ((((xs.getD ((((xs.length : Nat) : Int) - 1).toNat) 0 : Nat) : Int) : Int) != 0) := by exact validU_ne _ c2
  refine J.ret (KR.ret (v := .bool ((((xs.getD ((((xs.length : Nat) : Int) - 1).toNat) 0 : Nat) : Int) : Int) != 0)) (()) [none] [] [] k_ v1_ (trivial) v1_)
theorem natural_value (s : SA) (xs : List Nat) (hx : Lb xs) : Spec Tryz.prog 143 #[sl s xs.length] [fU s xs] (ι := SA) (fun y => sl y (toL (nv xs)).length) (fun y => True) (fun y => [fU y (toL (nv xs))]) := by
 refine Spec.of_body _ (fn := Tryz.f143) k_ rfl k_ (fun X w0 => ?_)
 refine J.fact (φ := xs.length ≤ 140737488355328) (fun w h => by have := (h _ (.head _)).1; omega) (fun hl1 => ?_)
 refine J.sreg ?_
 refine RN.bq (no 1) [0] [] 1 [(0, sl s xs.length)] k_ ?_
 refine RN.fin k_ ?_
 refine J.seq ?_
 refine J.sreg ?_
 refine RN.bq (no 1) [0, 3] [] 1 [(0, sl s xs.length), (3, sl s xs.length)] k_ ?_
 refine RN.call (natural_Valid s xs) [0] k_ k_ k_ rfl (fun y2 _ => ?_)
 refine RN.fin k_ ?_
 refine J.cond (validU xs) k_ (fun c3 => ?_) (fun c3 => ?_)
 ·refine J.sreg ?_
  refine RN.bq (no 2) [2] [] 2 [(2, sl s xs.length)] k_ ?_
  refine RN.fin k_ ?_
  have e_1 : (toL (nv xs)) = xs := by exact toL_nv_t hx c3
  refine J.ret (KR.next (KR.ret (v := sl s xs.length) (s) [none] [0] [] k_ v1_ (trivial) v1_))
 ·refine J.skip ?_
  refine KN.next ?_
  refine J.sreg ?_
  refine RN.bq (no 1) [2] [] 1 [(2, .slice none 0 0)] k_ ?_
  refine RN.fin k_ ?_
  have e_1 : (toL (nv xs)) = ([] : List Nat) := by exact toL_nv_f hx c3
  refine J.also (fU saNil ([] : List Nat)) (fun w h => fU_nil w) ?_
  refine J.ret (KR.ret (v := .slice none 0 0) (saNil) [none] [0] [] k_ v1_ (trivial) v1_)
theorem trim_step {xs : List Nat} {m : Nat} (h : ∀ i, m ≤ i → xs.getD i 0 = 0) (h0 : 0 < m) (hz : ((xs.getD (m - 1) 0 : Nat) : Int) = 0) : ∀ i, m - 1 ≤ i → xs.getD i 0 = 0 := by
  intro i hi
  by_cases e : i = m - 1
  · subst e; omega
  · exact h i (by omega)
theorem trim_ne {xs : List Nat} {m : Nat} (hz : ((xs.getD (m - 1) 0 : Nat) : Int) ≠ 0) : xs.getD (m - 1) 0 ≠ 0 := fun e => hz (by rw [e]; rfl)
theorem natural_trimmed (s : SA) (xs : List Nat) (hx : Lb xs) : Spec Tryz.prog 144 #[sl s xs.length] [fU s xs] (ι := SA) (fun y => sl y (toL (lv xs)).length) (fun y => True) (fun y => [fU y (toL (lv xs))]) := by
 refine Spec.of_body _ (fn := Tryz.f144) k_ rfl k_ (fun X w0 => ?_)
 refine J.fact (φ := xs.length ≤ 140737488355328) (fun w h => by have := (h _ (.head _)).1; omega) (fun hl1 => ?_)
 refine J.sreg ?_
 refine RN.bq (no 1) [0] [] 1 [(0, sl s xs.length)] k_ ?_
 refine RN.fs k_ ?_
 refine RN.bq (no 3) [0, 3] [] 3 [(0, sl s xs.length), (3, .int .i64 ((xs.length : Nat) : Int))] k_ ?_
 refine RN.fin k_ ?_
 refine J.seq ?_
 refine J.block ?_
 refine J.loop (ι := (Nat)) (fun x => x ≤ xs.length ∧ ∀ i, x ≤ i → xs.getD i 0 = 0) (fun x => x) (fun x => [(0, sl s xs.length), (3, .int .i64 ((x : Nat) : Int))]) (fun x => []) (fun x => [fU s xs]) (xs.length) [0, 3] [0] (⟨Nat.le_refl _, fun i hi => getD_ge hi⟩) k_ (by first | rfl | (simp only [encQ_zero]; done) | (simp only [encQ_zero]; rfl)) (by rfl) (fun m hx2 => ?_)
 replace hx2 : m ≤ xs.length ∧ ∀ i, m ≤ i → xs.getD i 0 = 0 := hx2
 refine J.seq ?_
 refine J.sreg ?_
 refine RN.bq (no 3) [0, 3, 8] [] 3 [(0, sl s xs.length), (3, .int .i64 ((m : Nat) : Int)), (8, .bool (decide (((m : Nat) : Int) > 0)))] k_ ?_
 refine RN.split 8 (decide (((m : Nat) : Int) > 0)) k_ (fun c3 => ?_) (fun c3 => ?_)
 ·replace c3 := of_decide_eq_true c3
  refine RN.bq (no 3) [0, 3, 8, 9, 11] [] 6 [(0, sl s xs.length), (3, .int .i64 ((m : Nat) : Int)), (8, .bool true), (9, sl s xs.length), (11, .int .i64 (IntKind.i64.wrap (((m : Nat) : Int) - 1)))] k_ ?_
  rw [show IntKind.i64.wrap (((m : Nat) : Int) - 1) = ((m - 1 : Nat) : Int) from by rw [IntKind.wrap_i64]; omega]
  refine RN.val _ k_ k_ (q_uidx (t := 36) (x := (.tmp 9)) (ix := (.tmp 11)) (K := .i64) (i0 := ((m - 1 : Nat) : Int)) (m := m - 1) (e := 107) 0 rfl k_ k_ k_ k_ k_ (by omega) x_) ?_
  refine RN.val _ k_ k_ (q_uload (T := 107) (x := (.tmp 12)) (m := m - 1) (s := s) (xs := xs) 0 rfl k_ k_ k_ x_) ?_
  refine RN.bq (no 2) [0, 3, 15] [] 10 [(0, sl s xs.length), (3, .int .i64 ((m : Nat) : Int)), (15, .bool ((((xs.getD (m - 1) 0 : Nat) : Int) : Int) == 0))] k_ ?_
  refine RN.fin k_ ?_
  refine J.cond ((((xs.getD (m - 1) 0 : Nat) : Int) : Int) == 0) k_ (fun c4 => ?_) (fun c4 => ?_)
  ·replace c4 := eq_of_beq c4
   refine J.skip ?_
   refine KN.next ?_
   refine J.block ?_
   refine J.regN ?_
   refine RN.bq (no 2) [0, 17] [] 2 [(0, sl s xs.length), (17, .int .i64 (IntKind.i64.wrap (((m : Nat) : Int) - 1)))] k_ ?_
   rw [show IntKind.i64.wrap (((m : Nat) : Int) - 1) = ((m - 1 : Nat) : Int) from by rw [IntKind.wrap_i64]; omega]
   refine RN.bq (no 1) [0, 3] [] 3 [(0, sl s xs.length), (3, .int .i64 ((m - 1 : Nat) : Int))] k_ ?_
   refine RN.done k_ ?_
   refine KN.blk ?_
   refine KN.roundE (m - 1) [0, 3] [0] (l2 := [(0, sl s xs.length), (3, .int .i64 ((m - 1 : Nat) : Int))]) (by (try dsimp only); omega) (by (try dsimp only); exact ⟨by omega, trim_step hx2.2 (by omega) (by assumption)⟩) k_ (by rfl) (by rfl) (by rfl)
  ·replace c4 := ne_of_beq_false c4
   refine J.exit (KX.next (KX.next (KX.hit ?_)))
   refine KN.next ?_
   refine J.sreg ?_
   refine RN.bq (no 2) [18, 19] [] 2 [(18, sl s xs.length), (19, .int .i64 ((m : Nat) : Int))] k_ ?_
   refine RN.val _ k_ k_ (q_uslice (t := 36) (x := (.tmp 18)) (lo := 0) (hi := m) (s := s) (xs := xs) (e := 107) 0 (xs.take m) rfl k_ k_ (.inl ⟨rfl, rfl⟩) (.inr ⟨(.tmp 19), .i64, ((m : Nat) : Int), rfl, by kernel_rfl, by omega⟩) k_ k_ x_ x_ (by simp; try omega)) ?_
   refine RN.also (fU (saSub s 1 0) (xs.take m)) (fun w h => fU_take (h _ (.head _)) m x_) ?_
   refine RN.bq (no 1) [2] [] 4 [(2, sl (saSub s 1 0) (xs.take m).length)] k_ ?_
   refine RN.fin k_ ?_
   have e_1 : (toL (lv xs)) = (xs.take m) := by first | exact toL_zeros hx hx2.2 (.inl (by omega)) hx2.1 | exact toL_zeros hx hx2.2 (.inr (trim_ne (by assumption))) hx2.1
   refine J.ret (KR.ret (v := sl (saSub s 1 0) (xs.take m).length) (saSub s 1 0) [none] [0] [] k_ v1_ (trivial) v1_)
 ·replace c3 := of_decide_eq_false c3
  refine RN.bq (no 7) [0, 3, 15] [] 10 [(0, sl s xs.length), (3, .int .i64 ((m : Nat) : Int)), (15, .bool false)] k_ ?_
  refine RN.fin k_ ?_
  refine J.condF k_ ?_
  refine J.exit (KX.next (KX.next (KX.hit ?_)))
  refine KN.next ?_
  refine J.sreg ?_
  refine RN.bq (no 2) [18, 19] [] 2 [(18, sl s xs.length), (19, .int .i64 ((m : Nat) : Int))] k_ ?_
  refine RN.val _ k_ k_ (q_uslice (t := 36) (x := (.tmp 18)) (lo := 0) (hi := m) (s := s) (xs := xs) (e := 107) 0 (xs.take m) rfl k_ k_ (.inl ⟨rfl, rfl⟩) (.inr ⟨(.tmp 19), .i64, ((m : Nat) : Int), rfl, by kernel_rfl, by omega⟩) k_ k_ x_ x_ (by simp; try omega)) ?_
  refine RN.also (fU (saSub s 1 0) (xs.take m)) (fun w h => fU_take (h _ (.head _)) m x_) ?_
  refine RN.bq (no 1) [2] [] 4 [(2, sl (saSub s 1 0) (xs.take m).length)] k_ ?_
  refine RN.fin k_ ?_
  have e_1 : (toL (lv xs)) = (xs.take m) := by first | exact toL_zeros hx hx2.2 (.inl (by omega)) hx2.1 | exact toL_zeros hx hx2.2 (.inr (trim_ne (by assumption))) hx2.1
  refine J.ret (KR.ret (v := sl (saSub s 1 0) (xs.take m).length) (saSub s 1 0) [none] [0] [] k_ v1_ (trivial) v1_)
theorem bits_Add32 (x : Nat) (z : Nat) (c : Nat) (hx : x < 4294967296) (hz : z < 4294967296) (hc : c ≤ 1) : Spec Tryz.prog 153 #[.int .u32 ((x : Nat) : Int), .int .u32 ((z : Nat) : Int), .int .u32 ((c : Nat) : Int)] [] (ι := Unit) (fun y => .tuple #[.int .u32 (((x + z + c) % 4294967296 : Nat) : Int), .int .u32 (((x + z + c) / 4294967296 : Nat) : Int)]) (fun y => True) (fun y => []) := by
 refine Spec.of_body _ (fn := Tryz.f153) k_ rfl k_ (fun X w0 => ?_)
 refine J.sreg ?_
 refine RN.bq (no 2) [0, 1, 2] [] 2 [(0, .int .u32 ((x : Nat) : Int)), (1, .int .u32 ((z : Nat) : Int)), (2, .int .u32 ((c : Nat) : Int))] k_ ?_
 refine RN.fs k_ ?_
 refine RN.bq (no 2) [1, 2, 10] [] 2 [(1, .int .u32 ((z : Nat) : Int)), (2, .int .u32 ((c : Nat) : Int)), (10, .int .u64 (IntKind.u64.wrap ((x : Nat) : Int)))] k_ ?_
 rw [show IntKind.u64.wrap ((x : Nat) : Int) = ((x : Nat) : Int) from uw64b x (by rfl) (by omega)]
 refine RN.bq (no 2) [2, 10, 12] [] 4 [(2, .int .u32 ((c : Nat) : Int)), (10, .int .u64 ((x : Nat) : Int)), (12, .int .u64 (IntKind.u64.wrap ((z : Nat) : Int)))] k_ ?_
 rw [show IntKind.u64.wrap ((z : Nat) : Int) = ((z : Nat) : Int) from uw64b z (by rfl) (by omega)]
 refine RN.bq (no 1) [2, 13] [] 5 [(2, .int .u32 ((c : Nat) : Int)), (13, .int .u64 (IntKind.u64.wrap (((x : Nat) : Int) + ((z : Nat) : Int))))] k_ ?_
 rw [show IntKind.u64.wrap (((x : Nat) : Int) + ((z : Nat) : Int)) = ((x + z : Nat) : Int) from uw64b (x + z) (by omega) (by omega)]
 refine RN.bq (no 2) [13, 15] [] 7 [(13, .int .u64 ((x + z : Nat) : Int)), (15, .int .u64 (IntKind.u64.wrap ((c : Nat) : Int)))] k_ ?_
 rw [show IntKind.u64.wrap ((c : Nat) : Int) = ((c : Nat) : Int) from uw64b c (by rfl) (by omega)]
 refine RN.bq (no 1) [16] [] 8 [(16, .int .u64 (IntKind.u64.wrap (((x + z : Nat) : Int) + ((c : Nat) : Int))))] k_ ?_
 rw [show IntKind.u64.wrap (((x + z : Nat) : Int) + ((c : Nat) : Int)) = (((x + z) + c : Nat) : Int) from uw64b ((x + z) + c) (by omega) (by omega)]
 refine RN.bq (no 1) [8] [] 9 [(8, .int .u64 (((x + z) + c : Nat) : Int))] k_ ?_
 refine RN.fs k_ ?_
 refine RN.bq (no 2) [8, 18] [] 2 [(8, .int .u64 (((x + z) + c : Nat) : Int)), (18, .int .u32 (IntKind.u32.wrap (((x + z) + c : Nat) : Int)))] k_ ?_
 rw [show IntKind.u32.wrap (((x + z) + c : Nat) : Int) = ((((x + z) + c) % 4294967296 : Nat) : Int) from uw32e ((x + z) + c) (by rfl)]
 refine RN.bq (no 1) [6, 8] [] 3 [(6, .int .u32 ((((x + z) + c) % 4294967296 : Nat) : Int)), (8, .int .u64 (((x + z) + c : Nat) : Int))] k_ ?_
 refine RN.fs k_ ?_
 refine RN.bq (no 2) [6, 20] [] 2 [(6, .int .u32 ((((x + z) + c) % 4294967296 : Nat) : Int)), (20, .int .u64 (Int.fdiv (((x + z) + c : Nat) : Int) (2 ^ 32)))] k_ ?_
 rw [show Int.fdiv (((x + z) + c : Nat) : Int) (2 ^ 32) = ((((x + z) + c) / 2 ^ 32 : Nat) : Int) from fdivn _ _]
 refine RN.bq (no 1) [6, 21] [] 3 [(6, .int .u32 ((((x + z) + c) % 4294967296 : Nat) : Int)), (21, .int .u32 (IntKind.u32.wrap ((((x + z) + c) / 2 ^ 32 : Nat) : Int)))] k_ ?_
 rw [show IntKind.u32.wrap ((((x + z) + c) / 2 ^ 32 : Nat) : Int) = ((((x + z) + c) / 2 ^ 32 : Nat) : Int) from uw32b (((x + z) + c) / 2 ^ 32) (by rfl) (by omega)]
 refine RN.bq (no 1) [6, 7] [] 4 [(6, .int .u32 ((((x + z) + c) % 4294967296 : Nat) : Int)), (7, .int .u32 ((((x + z) + c) / 2 ^ 32 : Nat) : Int))] k_ ?_
 refine RN.fin k_ ?_
 have e_1 : ((((x + z + c) % 4294967296 : Nat) : Int) : Int) = (((((x + z) + c) % 4294967296 : Nat) : Int) : Int) := by rfl
 have e_2 : ((((x + z + c) / 4294967296 : Nat) : Int) : Int) = (((((x + z) + c) / 2 ^ 32 : Nat) : Int) : Int) := by rfl
 refine J.ret (KR.ret (v := .tuple #[.int .u32 ((((x + z) + c) % 4294967296 : Nat) : Int), .int .u32 ((((x + z) + c) / 2 ^ 32 : Nat) : Int)]) (()) [none, none] [] [] k_ v2_ (trivial) v2_)
theorem toL_nv_len {xs : List Nat} (hb : Lb xs) (n : Nat) (h : xs.length ≤ n) : (toL (nv xs)).length ≤ n := Nat.le_trans (length_toL_nv xs hb) h
theorem natural_Compare (s : SA) (xs : List Nat) (t : SA) (ys : List Nat) (hx : Lb xs) (hy : Lb ys) : Spec Tryz.prog 136 #[sl s xs.length, sl t ys.length] [fU s xs, fU t ys] (ι := Unit) (fun y => .int .i64 (cmpN (nv xs) (nv ys))) (fun y => True) (fun y => []) := by
 refine Spec.of_body _ (fn := Tryz.f136) k_ rfl k_ (fun X w0 => ?_)
 refine J.fact (φ := xs.length ≤ 140737488355328) (fun w h => by have := (h _ (.head _)).1; omega) (fun hl1 => ?_)
 refine J.fact (φ := ys.length ≤ 140737488355328) (fun w h => by have := (h _ (.tail _ ((.head _)))).1; omega) (fun hl2 => ?_)
 have hnx := toL_nv_len hx _ hl1
 have hny := toL_nv_len hy _ hl2
 refine J.sreg ?_
 refine RN.bq (no 1) [0, 1] [] 1 [(0, sl s xs.length), (1, sl t ys.length)] k_ ?_
 refine RN.fs k_ ?_
 refine RN.bq (no 1) [1, 6] [] 1 [(1, sl t ys.length), (6, sl s xs.length)] k_ ?_
 refine RN.call (natural_value s xs y_) [0] k_ k_ k_ rfl (fun y3 _ => ?_)
 refine RN.bq (no 1) [7, 8] [] 3 [(7, sl y3 (toL (nv xs)).length), (8, sl t ys.length)] k_ ?_
 refine RN.call (natural_value t ys y_) [2] k_ k_ k_ rfl (fun y4 _ => ?_)
 refine RN.bq (no 2) [0, 1] [] 6 [(0, sl y3 (toL (nv xs)).length), (1, sl y4 (toL (nv ys)).length)] k_ ?_
 refine RN.fin k_ ?_
 refine J.seq ?_
 refine J.sreg ?_
 refine RN.bq (no 5) [0, 1, 14] [] 5 [(0, sl y3 (toL (nv xs)).length), (1, sl y4 (toL (nv ys)).length), (14, .bool (((((toL (nv xs)).length : Nat) : Int) : Int) != (((toL (nv ys)).length : Nat) : Int)))] k_ ?_
 refine RN.fin k_ ?_
 refine J.cond (((((toL (nv xs)).length : Nat) : Int) : Int) != (((toL (nv ys)).length : Nat) : Int)) k_ (fun c5 => ?_) (fun c5 => ?_)
 ·replace c5 := bne_iff_ne.1 c5
  refine J.seq ?_
  refine J.sreg ?_
  refine RN.bq (no 5) [19] [] 5 [(19, .bool (decide ((((toL (nv xs)).length : Nat) : Int) < (((toL (nv ys)).length : Nat) : Int))))] k_ ?_
  refine RN.fin k_ ?_
  refine J.cond (decide ((((toL (nv xs)).length : Nat) : Int) < (((toL (nv ys)).length : Nat) : Int))) k_ (fun c6 => ?_) (fun c6 => ?_)
  ·replace c6 := of_decide_eq_true c6
   refine J.sreg ?_
   refine RN.bq (no 1) [4] [] 1 [(4, .int .i64 (-1))] k_ ?_
   refine RN.fin k_ ?_
   have e_1 : (cmpN (nv xs) (nv ys) : Int) = ((-1) : Int) := by exact cmpN_lt (toL_len_lt (by omega))
   refine J.ret (KR.next (KR.next (KR.ret (v := .int .i64 (-1)) (()) [none] [] [] k_ v1_ (trivial) v1_)))
  ·replace c6 := of_decide_eq_false c6
   refine J.skip ?_
   refine KN.next ?_
   refine J.sreg ?_
   refine RN.bq (no 1) [4] [] 1 [(4, .int .i64 1)] k_ ?_
   refine RN.fin k_ ?_
   have e_1 : (cmpN (nv xs) (nv ys) : Int) = (1 : Int) := by exact cmpN_gt (toL_len_lt (by omega))
   refine J.ret (KR.next (KR.ret (v := .int .i64 1) (()) [none] [] [] k_ v1_ (trivial) v1_))
 ·replace c5 := bne_eq_false_iff_eq.1 c5
  refine J.skip ?_
  refine KN.next ?_
  refine J.seq ?_
  refine J.sreg ?_
  refine RN.bq (no 3) [0, 1, 22] [] 3 [(0, sl y3 (toL (nv xs)).length), (1, sl y4 (toL (nv ys)).length), (22, .int .i64 (IntKind.i64.wrap ((((toL (nv xs)).length : Nat) : Int) - 1)))] k_ ?_
  rw [show IntKind.i64.wrap ((((toL (nv xs)).length : Nat) : Int) - 1) = ((((toL (nv xs)).length : Nat) : Int) - 1) from by rw [IntKind.wrap_i64]; omega]
  refine RN.bq (no 1) [0, 1, 5] [] 4 [(0, sl y3 (toL (nv xs)).length), (1, sl y4 (toL (nv ys)).length), (5, .int .i64 ((((toL (nv xs)).length : Nat) : Int) - 1))] k_ ?_
  refine RN.fin k_ ?_
  refine J.block ?_
  refine J.loop (ι := (Nat)) (fun x => x ≤ (toL (nv xs)).length ∧ ∀ i, x ≤ i → (toL (nv xs)).getD i 0 = (toL (nv ys)).getD i 0) (fun x => x) (fun x => [(0, sl y3 (toL (nv xs)).length), (1, sl y4 (toL (nv ys)).length), (5, .int .i64 ((x : Int) - 1))]) (fun x => []) (fun x => [fU y4 (toL (nv ys)), fU y3 (toL (nv xs)), fU s xs, fU t ys]) ((toL (nv xs)).length) [0, 1, 5] [0, 1, 2, 3] (⟨Nat.le_refl _, fun i hi => by rw [getD_ge hi, getD_ge (by omega)]⟩) k_ (by first | rfl | (simp only [encQ_zero]; done) | (simp only [encQ_zero]; rfl)) (by rfl) (fun m hI => ?_)
  replace hI : m ≤ (toL (nv xs)).length ∧ ∀ i, m ≤ i → (toL (nv xs)).getD i 0 = (toL (nv ys)).getD i 0 := hI
  refine J.seq ?_
  refine J.sreg ?_
  refine RN.bq (no 2) [0, 1, 5, 24] [] 2 [(0, sl y3 (toL (nv xs)).length), (1, sl y4 (toL (nv ys)).length), (5, .int .i64 ((m : Int) - 1)), (24, .bool (decide (((m : Int) - 1) ≥ 0)))] k_ ?_
  refine RN.fin k_ ?_
  refine J.cond (decide (((m : Int) - 1) ≥ 0)) k_ (fun c7 => ?_) (fun c7 => ?_)
  ·replace c7 := of_decide_eq_true c7
   refine J.skip ?_
   refine KN.next ?_
   refine J.seq ?_
   refine J.block ?_
   refine J.block ?_
   refine J.seq ?_
   refine J.regD k_ [] ?_
   refine RD.bq (nl [0, 1, 4, 5]) [0, 1, 5, 28, 29, 32, 33] [] [(0, sl y3 (toL (nv xs)).length), (1, sl y4 (toL (nv ys)).length), (5, .int .i64 ((m : Int) - 1)), (28, sl y3 (toL (nv xs)).length), (29, .int .i64 ((m : Int) - 1)), (32, sl y4 (toL (nv ys)).length), (33, .int .i64 ((m : Int) - 1))] k_ k_ ?_
   refine RD.val (i := 2) _ k_ k_ k_ (q_uidx (t := 36) (x := (.tmp 28)) (ix := (.tmp 29)) (K := .i64) (i0 := (m : Int) - 1) (m := ((m : Int) - 1).toNat) (e := 107) 1 rfl k_ k_ k_ k_ k_ (by omega) x_) ?_
   refine RD.val (i := 3) _ k_ k_ k_ (q_uload (T := 107) (x := (.tmp 30)) (m := ((m : Int) - 1).toNat) (s := y3) (xs := toL (nv xs)) 1 rfl k_ k_ k_ x_) ?_
   refine RD.val (i := 6) _ k_ k_ k_ (q_uidx (t := 36) (x := (.tmp 32)) (ix := (.tmp 33)) (K := .i64) (i0 := (m : Int) - 1) (m := ((m : Int) - 1).toNat) (e := 107) 0 rfl k_ k_ k_ k_ k_ (by omega) x_) ?_
   refine RD.val (i := 7) _ k_ k_ k_ (q_uload (T := 107) (x := (.tmp 34)) (m := ((m : Int) - 1).toNat) (s := y4) (xs := toL (nv ys)) 0 rfl k_ k_ k_ x_) ?_
   refine RD.bq (nl [8, 9]) [0, 1, 5, 27] [] [(0, sl y3 (toL (nv xs)).length), (1, sl y4 (toL (nv ys)).length), (5, .int .i64 ((m : Int) - 1)), (27, .bool (decide ((((toL (nv xs)).getD (((m : Int) - 1).toNat) 0 : Nat) : Int) < (((toL (nv ys)).getD (((m : Int) - 1).toNat) 0 : Nat) : Int))))] k_ k_ ?_
   refine RD.done k_ ?_
   refine KN.next ?_
   refine J.cond (decide ((((toL (nv xs)).getD (((m : Int) - 1).toNat) 0 : Nat) : Int) < (((toL (nv ys)).getD (((m : Int) - 1).toNat) 0 : Nat) : Int))) k_ (fun c8 => ?_) (fun c8 => ?_)
   ·replace c8 := of_decide_eq_true c8
    refine J.sreg ?_
    refine RN.bq (no 1) [4] [] 1 [(4, .int .i64 (-1))] k_ ?_
    refine RN.fin k_ ?_
    have e_1 : (cmpN (nv xs) (nv ys) : Int) = ((-1) : Int) := by exact cmpN_lt (cmp_lt_at (by omega) hI.2 ‹_›)
    refine J.ret (KR.blk (KR.blk (KR.next (KR.next (KR.blk (KR.next (KR.ret (v := .int .i64 (-1)) (()) [none] [] [] k_ v1_ (trivial) v1_)))))))
   ·replace c8 := of_decide_eq_false c8
    refine J.seq ?_
    refine J.regD k_ [] ?_
    refine RD.bq (nl [0, 1, 4, 5]) [0, 1, 5, 38, 39, 42, 43] [] [(0, sl y3 (toL (nv xs)).length), (1, sl y4 (toL (nv ys)).length), (5, .int .i64 ((m : Int) - 1)), (38, sl y3 (toL (nv xs)).length), (39, .int .i64 ((m : Int) - 1)), (42, sl y4 (toL (nv ys)).length), (43, .int .i64 ((m : Int) - 1))] k_ k_ ?_
    refine RD.val (i := 2) _ k_ k_ k_ (q_uidx (t := 36) (x := (.tmp 38)) (ix := (.tmp 39)) (K := .i64) (i0 := (m : Int) - 1) (m := ((m : Int) - 1).toNat) (e := 107) 1 rfl k_ k_ k_ k_ k_ (by omega) x_) ?_
    refine RD.val (i := 3) _ k_ k_ k_ (q_uload (T := 107) (x := (.tmp 40)) (m := ((m : Int) - 1).toNat) (s := y3) (xs := toL (nv xs)) 1 rfl k_ k_ k_ x_) ?_
    refine RD.val (i := 6) _ k_ k_ k_ (q_uidx (t := 36) (x := (.tmp 42)) (ix := (.tmp 43)) (K := .i64) (i0 := (m : Int) - 1) (m := ((m : Int) - 1).toNat) (e := 107) 0 rfl k_ k_ k_ k_ k_ (by omega) x_) ?_
    refine RD.val (i := 7) _ k_ k_ k_ (q_uload (T := 107) (x := (.tmp 44)) (m := ((m : Int) - 1).toNat) (s := y4) (xs := toL (nv ys)) 0 rfl k_ k_ k_ x_) ?_
    refine RD.bq (nl [8, 9]) [0, 1, 5, 37] [] [(0, sl y3 (toL (nv xs)).length), (1, sl y4 (toL (nv ys)).length), (5, .int .i64 ((m : Int) - 1)), (37, .bool (decide ((((toL (nv xs)).getD (((m : Int) - 1).toNat) 0 : Nat) : Int) > (((toL (nv ys)).getD (((m : Int) - 1).toNat) 0 : Nat) : Int))))] k_ k_ ?_
    refine RD.done k_ ?_
    refine KN.next ?_
    refine J.cond (decide ((((toL (nv xs)).getD (((m : Int) - 1).toNat) 0 : Nat) : Int) > (((toL (nv ys)).getD (((m : Int) - 1).toNat) 0 : Nat) : Int))) k_ (fun c9 => ?_) (fun c9 => ?_)
    ·replace c9 := of_decide_eq_true c9
     refine J.sreg ?_
     refine RN.bq (no 1) [4] [] 1 [(4, .int .i64 1)] k_ ?_
     refine RN.fin k_ ?_
     have e_1 : (cmpN (nv xs) (nv ys) : Int) = (1 : Int) := by exact cmpN_gt (cmp_lt_at (by omega) (fun i hi => (hI.2 i hi).symm) ‹_›)
     refine J.ret (KR.blk (KR.blk (KR.next (KR.next (KR.blk (KR.next (KR.ret (v := .int .i64 1) (()) [none] [] [] k_ v1_ (trivial) v1_)))))))
    ·replace c9 := of_decide_eq_false c9
     refine J.skip ?_
     refine KN.blk ?_
     refine KN.blk ?_
     refine KN.next ?_
     refine J.regN ?_
     refine RN.bq (no 2) [0, 1, 26] [] 2 [(0, sl y3 (toL (nv xs)).length), (1, sl y4 (toL (nv ys)).length), (26, .int .i64 (IntKind.i64.wrap (((m : Int) - 1) - 1)))] k_ ?_
     rw [show IntKind.i64.wrap (((m : Int) - 1) - 1) = (((m : Int) - 1) - 1) from by rw [IntKind.wrap_i64]; omega]
     refine RN.bq (no 1) [0, 1, 5] [] 3 [(0, sl y3 (toL (nv xs)).length), (1, sl y4 (toL (nv ys)).length), (5, .int .i64 (((m : Int) - 1) - 1))] k_ ?_
     refine RN.done k_ ?_
     refine KN.roundE (m - 1) [0, 1, 5] [0, 1, 2, 3] (l2 := [(0, sl y3 (toL (nv xs)).length), (1, sl y4 (toL (nv ys)).length), (5, .int .i64 (((m : Int) - 1) - 1))]) (by (try dsimp only); omega) (by (try dsimp only); exact ⟨by omega, cmp_step (by omega) hI.2 ‹_› ‹_›⟩) k_ (by rw [show ((m - 1 : Nat) : Int) = (m : Int) - 1 from by omega]) (by rfl) (by rfl)
  ·replace c7 := of_decide_eq_false c7
   refine J.exit (KX.next (KX.next (KX.hit ?_)))
   refine KN.next ?_
   refine J.sreg ?_
   refine RN.bq (no 1) [4] [] 1 [(4, .int .i64 0)] k_ ?_
   refine RN.fin k_ ?_
   have e_1 : (cmpN (nv xs) (nv ys) : Int) = (0 : Int) := by exact cmpN_eq (cmp_done (by omega) hI.2)
   refine J.ret (KR.ret (v := .int .i64 0) (()) [none] [] [] k_ v1_ (trivial) v1_)
theorem natural_Compare_c (s : SA) (xs' : Nat) (t : SA) (ys' : Nat) : Spec Tryz.prog 136 #[sl s (toL xs').length, sl t (toL ys').length] [fU s (toL xs'), fU t (toL ys')] (ι := Unit) (fun y => .int .i64 (cmpN xs' ys')) (fun y => True) (fun y => []) := by
  have H := natural_Compare s (toL xs') t (toL ys') (Lb_toL _) (Lb_toL _)
  first | exact H | (simp only [nv_toL, lv_toL, validU_toL] at H; exact H)
theorem y_natural_Add {p : Prop} (h : p := by first | assumption | exact Lb_toL _ | omega | (simp; done) | exact hI3.1.set _ (Nat.lt_of_le_of_lt hc1 (by decide))) : p := h
theorem natural_Add (s : SA) (xs : List Nat) (t : SA) (ys : List Nat) (hx : Lb xs) (hy : Lb ys) (hxl : xs.length ≤ 1099511627776) (hyl : ys.length ≤ 1099511627776) : Spec Tryz.prog 139 #[sl s xs.length, sl t ys.length] [fU s xs, fU t ys] (ι := SA) (fun y => sl y (toL (nv xs + nv ys)).length) (fun y => True) (fun y => [fU y (toL (nv xs + nv ys))]) := by
 refine Spec.of_body _ (fn := Tryz.f139) k_ rfl k_ (fun X w0 => ?_)
 refine J.fact (φ := xs.length ≤ 140737488355328) (fun w h => by have := (h _ (.head _)).1; omega) (fun hl1 => ?_)
 refine J.fact (φ := ys.length ≤ 140737488355328) (fun w h => by have := (h _ (.tail _ ((.head _)))).1; omega) (fun hl2 => ?_)
 have hnx := toL_nv_len hx _ hxl
 have hny := toL_nv_len hy _ hyl
 refine J.sreg ?_
 refine RN.bq (no 1) [0, 1] [] 1 [(0, sl s xs.length), (1, sl t ys.length)] k_ ?_
 refine RN.fs k_ ?_
 refine RN.bq (no 1) [1, 10] [] 1 [(1, sl t ys.length), (10, sl s xs.length)] k_ ?_
 refine RN.call (natural_value s xs y_natural_Add) [0] k_ k_ k_ rfl (fun y3 _ => ?_)
 refine RN.bq (no 1) [11, 12] [] 3 [(11, sl y3 (toL (nv xs)).length), (12, sl t ys.length)] k_ ?_
 refine RN.call (natural_value t ys y_natural_Add) [2] k_ k_ k_ rfl (fun y4 _ => ?_)
 refine RN.bq (no 2) [0, 1] [] 6 [(0, sl y3 (toL (nv xs)).length), (1, sl y4 (toL (nv ys)).length)] k_ ?_
 refine RN.fin k_ ?_
 refine J.seqC (ι := (SA) × (Nat) × (SA) × (Nat)) (fun x => (toL x.2.2.2).length ≤ (toL x.2.1).length ∧ (toL x.2.1).length ≤ 1099511627776 ∧ x.2.1 + x.2.2.2 = nv xs + nv ys) (fun x => [(0, sl x.1 (toL x.2.1).length), (1, sl x.2.2.1 (toL x.2.2.2).length)]) (fun x => []) (fun x => [fU x.1 (toL x.2.1), fU x.2.2.1 (toL x.2.2.2), fU y4 (toL (nv ys)), fU y3 (toL (nv xs)), fU s xs, fU t ys]) ?_ ?_
 ·refine J.sreg ?_
  refine RN.bq (no 5) [0, 1, 18] [] 5 [(0, sl y3 (toL (nv xs)).length), (1, sl y4 (toL (nv ys)).length), (18, .bool (decide ((((toL (nv xs)).length : Nat) : Int) < (((toL (nv ys)).length : Nat) : Int))))] k_ ?_
  refine RN.fin k_ ?_
  refine J.cond (decide ((((toL (nv xs)).length : Nat) : Int) < (((toL (nv ys)).length : Nat) : Int))) k_ (fun c5 => ?_) (fun c5 => ?_)
  ·replace c5 := of_decide_eq_true c5
   refine J.regN ?_
   refine RN.bq (no 4) [0, 1] [] 4 [(0, sl y4 (toL (nv ys)).length), (1, sl y3 (toL (nv xs)).length)] k_ ?_
   refine RN.done k_ ?_
   refine KN.meet (y4, nv ys, y3, nv xs) [0, 1] [0, 1, 0, 1, 2, 3] (l2 := [(0, sl y4 (toL (nv ys)).length), (1, sl y3 (toL (nv xs)).length)]) (by (try dsimp only); exact ⟨by omega, hny, Nat.add_comm _ _⟩) k_ (by rfl) (by rfl) (by rfl)
  ·replace c5 := of_decide_eq_false c5
   refine J.skip ?_
   refine KN.meet (y3, nv xs, y4, nv ys) [0, 1] [1, 0, 0, 1, 2, 3] (l2 := [(0, sl y3 (toL (nv xs)).length), (1, sl y4 (toL (nv ys)).length)]) (by (try dsimp only); exact ⟨by omega, hnx, rfl⟩) k_ (by rfl) (by rfl) (by rfl)
 ·intro x6 hC
  obtain ⟨sa, a, sb, b⟩ := x6
  replace hC : (toL b).length ≤ (toL a).length ∧ (toL a).length ≤ 1099511627776 ∧ a + b = nv xs + nv ys := hC
  obtain ⟨hC1, hC2, hC3⟩ := hC
  refine J.sreg ?_
  refine RN.bq (no 3) [0, 1, 23] [] 3 [(0, sl sa (toL a).length), (1, sl sb (toL b).length), (23, .int .i64 (IntKind.i64.wrap ((((toL a).length : Nat) : Int) + 1)))] k_ ?_
  rw [show IntKind.i64.wrap ((((toL a).length : Nat) : Int) + 1) = ((((toL a).length) + 1 : Nat) : Int) from by rw [IntKind.wrap_i64]; omega]
  refine RN.make (e := 0) (m := (((toL a).length) + 1)) (.cells (encU (List.replicate (((toL a).length) + 1) 0)) 107 (0, 0)) k_ k_ (fun w => (q_make1 (t := 36) (m := (((toL a).length) + 1)) (by_ := 4) (K := .i64) (K' := .i64) (n1 := ((((toL a).length) + 1 : Nat) : Int)) (n2 := ((((toL a).length) + 1 : Nat) : Int)) (x := (.tmp 23)) (y := (.tmp 23)) (e := 107) k_ k_ k_ (by omega) (by omega) k_ k_ rfl (by omega) (by omega) w).trans (by rw [encU_rep])) (fun b7 => ?_)
  refine RN.bq (no 1) [0, 1, 5] [] 5 [(0, sl sa (toL a).length), (1, sl sb (toL b).length), (5, .slice (some ⟨b7, 0, none⟩) (((toL a).length) + 1) (((toL a).length) + 1))] k_ ?_
  refine RN.fs k_ ?_
  refine RN.bq (no 1) [0, 1, 5, 6] [] 1 [(0, sl sa (toL a).length), (1, sl sb (toL b).length), (5, .slice (some ⟨b7, 0, none⟩) (((toL a).length) + 1) (((toL a).length) + 1)), (6, .int .u32 0)] k_ ?_
  refine RN.fin k_ ?_
  refine J.seq ?_
  refine J.sreg ?_
  refine RN.bq (no 3) [0, 1, 5, 6, 25, 26, 27] [] 3 [(0, sl sa (toL a).length), (1, sl sb (toL b).length), (5, .slice (some ⟨b7, 0, none⟩) (((toL a).length) + 1) (((toL a).length) + 1)), (6, .int .u32 0), (25, sl sa (toL a).length), (26, .int .i64 (((toL a).length : Nat) : Int)), (27, .int .i64 0)] k_ ?_
  refine RN.fin k_ ?_
  refine J.block ?_
  refine J.loop (ι := (Nat) × (List Nat) × (Nat)) (fun x => x.1 ≤ (toL a).length ∧ x.2.1.length = (toL a).length + 1 ∧ AddI a b x.2.1 x.1 x.2.2) (fun x => (toL a).length - x.1) (fun x => [(0, sl sa (toL a).length), (1, sl sb (toL b).length), (5, .slice (some ⟨b7, 0, none⟩) (((toL a).length) + 1) (((toL a).length) + 1)), (6, .int .u32 ((x.2.2 : Nat) : Int)), (25, sl sa (toL a).length), (26, .int .i64 (((toL a).length : Nat) : Int)), (27, .int .i64 ((x.1 : Nat) : Int))]) (fun x => [(b7, .cells (encU x.2.1) 107 (0, 0))]) (fun x => [fU sa (toL a), fU sb (toL b), fU y4 (toL (nv ys)), fU y3 (toL (nv xs)), fU s xs, fU t ys]) (0, List.replicate (((toL a).length) + 1) 0, 0) [0, 1, 5, 6, 25, 26, 27] [0, 1, 2, 3, 4, 5] (⟨Nat.zero_le _, by simp, AddI.start a b _⟩) k_ (by first | rfl | (simp only [encQ_zero]; done) | (simp only [encQ_zero]; rfl)) (by rfl) (fun x8 hI => ?_)
  obtain ⟨k, out, c⟩ := x8
  replace hI : k ≤ (toL a).length ∧ out.length = (toL a).length + 1 ∧ AddI a b out k c := hI
  obtain ⟨hI1, hI2, hI3⟩ := hI
  have hc1 := hI3.2.1
  have hga : (toL a).getD k 0 < 4294967296 := (Lb_toL a).getD k
  have hgb : (toL b).getD k 0 < 4294967296 := (Lb_toL b).getD k
  refine J.sreg ?_
  refine RN.bq (no 1) [0, 1, 5, 6, 25, 26, 27, 28] [] 1 [(0, sl sa (toL a).length), (1, sl sb (toL b).length), (5, .slice (some ⟨b7, 0, none⟩) (((toL a).length) + 1) (((toL a).length) + 1)), (6, .int .u32 ((c : Nat) : Int)), (25, sl sa (toL a).length), (26, .int .i64 (((toL a).length : Nat) : Int)), (27, .int .i64 ((k : Nat) : Int)), (28, .bool (decide (((k : Nat) : Int) < (((toL a).length : Nat) : Int))))] k_ ?_
  refine RN.fin k_ ?_
  refine J.seq ?_
  refine J.cond (decide (((k : Nat) : Int) < (((toL a).length : Nat) : Int))) k_ (fun c9 => ?_) (fun c9 => ?_)
  ·replace c9 := of_decide_eq_true c9
   refine J.skip ?_
   refine KN.next ?_
   refine J.seq ?_
   refine J.block ?_
   refine J.sreg ?_
   refine RN.bq (no 1) [0, 1, 5, 6, 25, 26, 27, 29] [] 1 [(0, sl sa (toL a).length), (1, sl sb (toL b).length), (5, .slice (some ⟨b7, 0, none⟩) (((toL a).length) + 1) (((toL a).length) + 1)), (6, .int .u32 ((c : Nat) : Int)), (25, sl sa (toL a).length), (26, .int .i64 (((toL a).length : Nat) : Int)), (27, .int .i64 ((k : Nat) : Int)), (29, .int .i64 ((k : Nat) : Int))] k_ ?_
   refine RN.val _ k_ k_ (q_uidx (t := 36) (x := (.tmp 25)) (ix := (.tmp 27)) (K := .i64) (i0 := ((k : Nat) : Int)) (m := k) (e := 107) 0 rfl k_ k_ k_ k_ k_ (by omega) x_) ?_
   refine RN.val _ k_ k_ (q_uload (T := 107) (x := (.tmp 30)) (m := k) (s := sa) (xs := toL a) 0 rfl k_ k_ k_ x_) ?_
   refine RN.bq (no 2) [0, 1, 5, 6, 7, 8, 25, 26, 27] [] 5 [(0, sl sa (toL a).length), (1, sl sb (toL b).length), (5, .slice (some ⟨b7, 0, none⟩) (((toL a).length) + 1) (((toL a).length) + 1)), (6, .int .u32 ((c : Nat) : Int)), (7, .int .i64 ((k : Nat) : Int)), (8, .int .u32 (((toL a).getD k 0 : Nat) : Int)), (25, sl sa (toL a).length), (26, .int .i64 (((toL a).length : Nat) : Int)), (27, .int .i64 ((k : Nat) : Int))] k_ ?_
   refine RN.fs k_ ?_
   refine RN.bq (no 1) [0, 1, 5, 6, 7, 8, 9, 25, 26, 27] [] 1 [(0, sl sa (toL a).length), (1, sl sb (toL b).length), (5, .slice (some ⟨b7, 0, none⟩) (((toL a).length) + 1) (((toL a).length) + 1)), (6, .int .u32 ((c : Nat) : Int)), (7, .int .i64 ((k : Nat) : Int)), (8, .int .u32 (((toL a).getD k 0 : Nat) : Int)), (9, .int .u32 0), (25, sl sa (toL a).length), (26, .int .i64 (((toL a).length : Nat) : Int)), (27, .int .i64 ((k : Nat) : Int))] k_ ?_
   refine RN.fin k_ ?_
   refine J.seq ?_
   refine J.sreg ?_
   refine RN.bq (no 4) [0, 1, 5, 6, 7, 8, 9, 25, 26, 27, 35] [] 4 [(0, sl sa (toL a).length), (1, sl sb (toL b).length), (5, .slice (some ⟨b7, 0, none⟩) (((toL a).length) + 1) (((toL a).length) + 1)), (6, .int .u32 ((c : Nat) : Int)), (7, .int .i64 ((k : Nat) : Int)), (8, .int .u32 (((toL a).getD k 0 : Nat) : Int)), (9, .int .u32 0), (25, sl sa (toL a).length), (26, .int .i64 (((toL a).length : Nat) : Int)), (27, .int .i64 ((k : Nat) : Int)), (35, .bool (decide (((k : Nat) : Int) < (((toL b).length : Nat) : Int))))] k_ ?_
   refine RN.fin k_ ?_
   refine J.cond (decide (((k : Nat) : Int) < (((toL b).length : Nat) : Int))) k_ (fun c10 => ?_) (fun c10 => ?_)
   ·replace c10 := of_decide_eq_true c10
    refine J.regN ?_
    refine RN.bq (no 2) [0, 1, 5, 6, 7, 8, 25, 26, 27, 36, 37] [] 2 [(0, sl sa (toL a).length), (1, sl sb (toL b).length), (5, .slice (some ⟨b7, 0, none⟩) (((toL a).length) + 1) (((toL a).length) + 1)), (6, .int .u32 ((c : Nat) : Int)), (7, .int .i64 ((k : Nat) : Int)), (8, .int .u32 (((toL a).getD k 0 : Nat) : Int)), (25, sl sa (toL a).length), (26, .int .i64 (((toL a).length : Nat) : Int)), (27, .int .i64 ((k : Nat) : Int)), (36, sl sb (toL b).length), (37, .int .i64 ((k : Nat) : Int))] k_ ?_
    refine RN.val _ k_ k_ (q_uidx (t := 36) (x := (.tmp 36)) (ix := (.tmp 37)) (K := .i64) (i0 := ((k : Nat) : Int)) (m := k) (e := 107) 1 rfl k_ k_ k_ k_ k_ (by omega) x_) ?_
    refine RN.val _ k_ k_ (q_uload (T := 107) (x := (.tmp 38)) (m := k) (s := sb) (xs := toL b) 1 rfl k_ k_ k_ x_) ?_
    refine RN.bq (no 1) [0, 1, 5, 6, 7, 8, 9, 25, 26, 27] [] 5 [(0, sl sa (toL a).length), (1, sl sb (toL b).length), (5, .slice (some ⟨b7, 0, none⟩) (((toL a).length) + 1) (((toL a).length) + 1)), (6, .int .u32 ((c : Nat) : Int)), (7, .int .i64 ((k : Nat) : Int)), (8, .int .u32 (((toL a).getD k 0 : Nat) : Int)), (9, .int .u32 (((toL b).getD k 0 : Nat) : Int)), (25, sl sa (toL a).length), (26, .int .i64 (((toL a).length : Nat) : Int)), (27, .int .i64 ((k : Nat) : Int))] k_ ?_
    refine RN.fin k_ ?_
    refine J.regN ?_
    refine RN.bq (no 5) [0, 1, 5, 25, 26, 27, 41, 42, 43, 44, 45] [] 5 [(0, sl sa (toL a).length), (1, sl sb (toL b).length), (5, .slice (some ⟨b7, 0, none⟩) (((toL a).length) + 1) (((toL a).length) + 1)), (25, sl sa (toL a).length), (26, .int .i64 (((toL a).length : Nat) : Int)), (27, .int .i64 ((k : Nat) : Int)), (41, .slice (some ⟨b7, 0, none⟩) (((toL a).length) + 1) (((toL a).length) + 1)), (42, .int .i64 ((k : Nat) : Int)), (43, .int .u32 (((toL a).getD k 0 : Nat) : Int)), (44, .int .u32 (((toL b).getD k 0 : Nat) : Int)), (45, .int .u32 ((c : Nat) : Int))] k_ ?_
    refine RN.call (bits_Add32 ((toL a).getD k 0) ((toL b).getD k 0) c y_natural_Add y_natural_Add y_natural_Add) [] k_ k_ k_ rfl (fun y11 _ => ?_)
    refine RN.bq (no 3) [0, 1, 5, 25, 26, 27, 41, 42, 47, 48] [] 9 [(0, sl sa (toL a).length), (1, sl sb (toL b).length), (5, .slice (some ⟨b7, 0, none⟩) (((toL a).length) + 1) (((toL a).length) + 1)), (25, sl sa (toL a).length), (26, .int .i64 (((toL a).length : Nat) : Int)), (27, .int .i64 ((k : Nat) : Int)), (41, .slice (some ⟨b7, 0, none⟩) (((toL a).length) + 1) (((toL a).length) + 1)), (42, .int .i64 ((k : Nat) : Int)), (47, .int .u32 (((((toL a).getD k 0) + ((toL b).getD k 0) + c) % 4294967296 : Nat) : Int)), (48, .int .u32 (((((toL a).getD k 0) + ((toL b).getD k 0) + c) / 4294967296 : Nat) : Int))] k_ ?_
    refine RN.val _ k_ k_ (q_oidx (t := 36) (x := (.tmp 41)) (ix := (.tmp 42)) (b := b7) (n := (((toL a).length) + 1)) (c := (((toL a).length) + 1)) (K := .i64) (i0 := ((k : Nat) : Int)) (m := k) (e := 107) (sz := 1) k_ k_ k_ k_ k_ (by omega) x_) ?_
    refine RN.ot k_ k_ (ot_ustore (mi := 0) (T := 107) (x := (.tmp 49)) (y := (.tmp 47)) (b := b7) (m := k) (xs := out) (v := (((((toL a).getD k 0) + ((toL b).getD k 0) + c) % 4294967296 : Nat) : Int)) (v0 := (((toL a).getD k 0) + ((toL b).getD k 0) + c) % 4294967296) rfl k_ k_ k_ k_ k_ (by omega) x_) (fun _ _ => ?_)
    refine RN.bq (no 1) [0, 1, 5, 6, 25, 26, 27] [] 12 [(0, sl sa (toL a).length), (1, sl sb (toL b).length), (5, .slice (some ⟨b7, 0, none⟩) (((toL a).length) + 1) (((toL a).length) + 1)), (6, .int .u32 (((((toL a).getD k 0) + ((toL b).getD k 0) + c) / 4294967296 : Nat) : Int)), (25, sl sa (toL a).length), (26, .int .i64 (((toL a).length : Nat) : Int)), (27, .int .i64 ((k : Nat) : Int))] k_ ?_
    refine RN.done k_ ?_
    refine KN.blk ?_
    refine KN.next ?_
    refine J.regN ?_
    refine RN.bq (no 1) [0, 1, 5, 6, 25, 26, 50] [] 1 [(0, sl sa (toL a).length), (1, sl sb (toL b).length), (5, .slice (some ⟨b7, 0, none⟩) (((toL a).length) + 1) (((toL a).length) + 1)), (6, .int .u32 (((((toL a).getD k 0) + ((toL b).getD k 0) + c) / 4294967296 : Nat) : Int)), (25, sl sa (toL a).length), (26, .int .i64 (((toL a).length : Nat) : Int)), (50, .int .i64 (IntKind.i64.wrap (((k : Nat) : Int) + 1)))] k_ ?_
    rw [show IntKind.i64.wrap (((k : Nat) : Int) + 1) = ((k + 1 : Nat) : Int) from by rw [IntKind.wrap_i64]; omega]
    refine RN.bq (no 1) [0, 1, 5, 6, 25, 26, 27] [] 2 [(0, sl sa (toL a).length), (1, sl sb (toL b).length), (5, .slice (some ⟨b7, 0, none⟩) (((toL a).length) + 1) (((toL a).length) + 1)), (6, .int .u32 (((((toL a).getD k 0) + ((toL b).getD k 0) + c) / 4294967296 : Nat) : Int)), (25, sl sa (toL a).length), (26, .int .i64 (((toL a).length : Nat) : Int)), (27, .int .i64 ((k + 1 : Nat) : Int))] k_ ?_
    refine RN.done k_ ?_
    refine KN.roundE (k + 1, out.set k ((((toL a).getD k 0) + ((toL b).getD k 0) + c) % 4294967296), (((toL a).getD k 0) + ((toL b).getD k 0) + c) / 4294967296) [0, 1, 5, 6, 25, 26, 27] [0, 1, 2, 3, 4, 5] (l2 := [(0, sl sa (toL a).length), (1, sl sb (toL b).length), (5, .slice (some ⟨b7, 0, none⟩) (((toL a).length) + 1) (((toL a).length) + 1)), (6, .int .u32 (((((toL a).getD k 0) + ((toL b).getD k 0) + c) / 4294967296 : Nat) : Int)), (25, sl sa (toL a).length), (26, .int .i64 (((toL a).length : Nat) : Int)), (27, .int .i64 ((k + 1 : Nat) : Int))]) (by (try dsimp only); omega) (by (try dsimp only); exact ⟨by omega, by (try simp); omega, hI3.step (by omega) (by first | rfl | (rw [getD_ge (by omega)]))⟩) k_ (by rfl) (by rfl) (by rfl)
   ·replace c10 := of_decide_eq_false c10
    refine J.skip ?_
    refine KN.next ?_
    refine J.regN ?_
    refine RN.bq (no 5) [0, 1, 5, 25, 26, 27, 41, 42, 43, 44, 45] [] 5 [(0, sl sa (toL a).length), (1, sl sb (toL b).length), (5, .slice (some ⟨b7, 0, none⟩) (((toL a).length) + 1) (((toL a).length) + 1)), (25, sl sa (toL a).length), (26, .int .i64 (((toL a).length : Nat) : Int)), (27, .int .i64 ((k : Nat) : Int)), (41, .slice (some ⟨b7, 0, none⟩) (((toL a).length) + 1) (((toL a).length) + 1)), (42, .int .i64 ((k : Nat) : Int)), (43, .int .u32 (((toL a).getD k 0 : Nat) : Int)), (44, .int .u32 0), (45, .int .u32 ((c : Nat) : Int))] k_ ?_
    refine RN.call (bits_Add32 ((toL a).getD k 0) 0 c y_natural_Add y_natural_Add y_natural_Add) [] k_ k_ k_ rfl (fun y12 _ => ?_)
    refine RN.bq (no 3) [0, 1, 5, 25, 26, 27, 41, 42, 47, 48] [] 9 [(0, sl sa (toL a).length), (1, sl sb (toL b).length), (5, .slice (some ⟨b7, 0, none⟩) (((toL a).length) + 1) (((toL a).length) + 1)), (25, sl sa (toL a).length), (26, .int .i64 (((toL a).length : Nat) : Int)), (27, .int .i64 ((k : Nat) : Int)), (41, .slice (some ⟨b7, 0, none⟩) (((toL a).length) + 1) (((toL a).length) + 1)), (42, .int .i64 ((k : Nat) : Int)), (47, .int .u32 (((((toL a).getD k 0) + 0 + c) % 4294967296 : Nat) : Int)), (48, .int .u32 (((((toL a).getD k 0) + 0 + c) / 4294967296 : Nat) : Int))] k_ ?_
    refine RN.val _ k_ k_ (q_oidx (t := 36) (x := (.tmp 41)) (ix := (.tmp 42)) (b := b7) (n := (((toL a).length) + 1)) (c := (((toL a).length) + 1)) (K := .i64) (i0 := ((k : Nat) : Int)) (m := k) (e := 107) (sz := 1) k_ k_ k_ k_ k_ (by omega) x_) ?_
    refine RN.ot k_ k_ (ot_ustore (mi := 0) (T := 107) (x := (.tmp 49)) (y := (.tmp 47)) (b := b7) (m := k) (xs := out) (v := (((((toL a).getD k 0) + 0 + c) % 4294967296 : Nat) : Int)) (v0 := (((toL a).getD k 0) + 0 + c) % 4294967296) rfl k_ k_ k_ k_ k_ (by omega) x_) (fun _ _ => ?_)
    refine RN.bq (no 1) [0, 1, 5, 6, 25, 26, 27] [] 12 [(0, sl sa (toL a).length), (1, sl sb (toL b).length), (5, .slice (some ⟨b7, 0, none⟩) (((toL a).length) + 1) (((toL a).length) + 1)), (6, .int .u32 (((((toL a).getD k 0) + 0 + c) / 4294967296 : Nat) : Int)), (25, sl sa (toL a).length), (26, .int .i64 (((toL a).length : Nat) : Int)), (27, .int .i64 ((k : Nat) : Int))] k_ ?_
    refine RN.done k_ ?_
    refine KN.blk ?_
    refine KN.next ?_
    refine J.regN ?_
    refine RN.bq (no 1) [0, 1, 5, 6, 25, 26, 50] [] 1 [(0, sl sa (toL a).length), (1, sl sb (toL b).length), (5, .slice (some ⟨b7, 0, none⟩) (((toL a).length) + 1) (((toL a).length) + 1)), (6, .int .u32 (((((toL a).getD k 0) + 0 + c) / 4294967296 : Nat) : Int)), (25, sl sa (toL a).length), (26, .int .i64 (((toL a).length : Nat) : Int)), (50, .int .i64 (IntKind.i64.wrap (((k : Nat) : Int) + 1)))] k_ ?_
    rw [show IntKind.i64.wrap (((k : Nat) : Int) + 1) = ((k + 1 : Nat) : Int) from by rw [IntKind.wrap_i64]; omega]
    refine RN.bq (no 1) [0, 1, 5, 6, 25, 26, 27] [] 2 [(0, sl sa (toL a).length), (1, sl sb (toL b).length), (5, .slice (some ⟨b7, 0, none⟩) (((toL a).length) + 1) (((toL a).length) + 1)), (6, .int .u32 (((((toL a).getD k 0) + 0 + c) / 4294967296 : Nat) : Int)), (25, sl sa (toL a).length), (26, .int .i64 (((toL a).length : Nat) : Int)), (27, .int .i64 ((k + 1 : Nat) : Int))] k_ ?_
    refine RN.done k_ ?_
    refine KN.roundE (k + 1, out.set k ((((toL a).getD k 0) + 0 + c) % 4294967296), (((toL a).getD k 0) + 0 + c) / 4294967296) [0, 1, 5, 6, 25, 26, 27] [0, 1, 2, 3, 4, 5] (l2 := [(0, sl sa (toL a).length), (1, sl sb (toL b).length), (5, .slice (some ⟨b7, 0, none⟩) (((toL a).length) + 1) (((toL a).length) + 1)), (6, .int .u32 (((((toL a).getD k 0) + 0 + c) / 4294967296 : Nat) : Int)), (25, sl sa (toL a).length), (26, .int .i64 (((toL a).length : Nat) : Int)), (27, .int .i64 ((k + 1 : Nat) : Int))]) (by (try dsimp only); omega) (by (try dsimp only); exact ⟨by omega, by (try simp); omega, hI3.step (by omega) (by first | rfl | (rw [getD_ge (by omega)]))⟩) k_ (by rfl) (by rfl) (by rfl)
  ·replace c9 := of_decide_eq_false c9
   refine J.exit (KX.next (KX.next (KX.hit ?_)))
   refine KN.next ?_
   refine J.sreg ?_
   refine RN.bq (no 4) [5, 51, 53, 54] [] 4 [(5, .slice (some ⟨b7, 0, none⟩) (((toL a).length) + 1) (((toL a).length) + 1)), (51, .slice (some ⟨b7, 0, none⟩) (((toL a).length) + 1) (((toL a).length) + 1)), (53, .int .i64 (((toL a).length : Nat) : Int)), (54, .int .u32 ((c : Nat) : Int))] k_ ?_
   refine RN.val _ k_ k_ (q_oidx (t := 36) (x := (.tmp 51)) (ix := (.tmp 53)) (b := b7) (n := (((toL a).length) + 1)) (c := (((toL a).length) + 1)) (K := .i64) (i0 := (((toL a).length : Nat) : Int)) (m := (toL a).length) (e := 107) (sz := 1) k_ k_ k_ k_ k_ (by omega) x_) ?_
   refine RN.ot k_ k_ (ot_ustore (mi := 0) (T := 107) (x := (.tmp 55)) (y := (.tmp 54)) (b := b7) (m := (toL a).length) (xs := out) (v := ((c : Nat) : Int)) (v0 := c) rfl k_ k_ k_ k_ k_ (by omega) x_) (fun _ _ => ?_)
   refine RN.fs k_ ?_
   refine RN.bq (no 1) [56] [] 1 [(56, .slice (some ⟨b7, 0, none⟩) (((toL a).length) + 1) (((toL a).length) + 1))] k_ ?_
   refine RN.share 0 rfl rfl ?_
   refine RN.also (fU (⟨some ⟨b7, 0, none⟩, ((toL a).length) + 1⟩ : SA) (out.set ((toL a).length) c)) (fun w h => fU_own (h _ (.head _)) (by (try simp); omega) (by (try simp); omega)) ?_
   refine RN.turn 56 (v := .slice (some ⟨b7, 0, none⟩) (((toL a).length) + 1) (((toL a).length) + 1)) (v' := sl (⟨some ⟨b7, 0, none⟩, ((toL a).length) + 1⟩ : SA) (out.set ((toL a).length) c).length) k_ (sl_eq (by (try simp); omega)) ?_
   refine RN.call (natural_trimmed (⟨some ⟨b7, 0, none⟩, ((toL a).length) + 1⟩ : SA) (out.set ((toL a).length) c) y_natural_Add) [0] k_ k_ k_ rfl (fun y13 _ => ?_)
   refine RN.bq (no 1) [4] [] 3 [(4, sl y13 (toL (lv (out.set ((toL a).length) c))).length)] k_ ?_
   refine RN.fin k_ ?_
   have e_1 : (toL (nv xs + nv ys)) = (toL (lv (out.set ((toL a).length) c))) := by rw [show (toL a).length = k from by omega, (hI3.done (by omega) (by omega) (by omega)).2, hC3]
   refine J.ret (KR.ret (v := sl y13 (toL (lv (out.set ((toL a).length) c))).length) (y13) [none] [0] [] k_ v1_ (trivial) v1_)
theorem natural_Add_c (s : SA) (xs' : Nat) (t : SA) (ys' : Nat) (hxl : (toL xs').length ≤ 1099511627776) (hyl : (toL ys').length ≤ 1099511627776) : Spec Tryz.prog 139 #[sl s (toL xs').length, sl t (toL ys').length] [fU s (toL xs'), fU t (toL ys')] (ι := SA) (fun y => sl y (toL (xs' + ys')).length) (fun y => True) (fun y => [fU y (toL (xs' + ys'))]) := by
  have H := natural_Add s (toL xs') t (toL ys') (Lb_toL _) (Lb_toL _) (by first | exact hxl | simpa only [nv_toL, nv_toL] using hxl) (by first | exact hyl | simpa only [nv_toL, nv_toL] using hyl)
  first | exact H | (simp only [nv_toL, lv_toL, validU_toL] at H; exact H)
theorem bits_Sub32 (x : Nat) (z : Nat) (c : Nat) (hx : x < 4294967296) (hz : z < 4294967296) (hc : c ≤ 1) : Spec Tryz.prog 154 #[.int .u32 ((x : Nat) : Int), .int .u32 ((z : Nat) : Int), .int .u32 ((c : Nat) : Int)] [] (ι := Unit) (fun y => .tuple #[.int .u32 (((x + 4294967296 - z - c) % 4294967296 : Nat) : Int), .int .u32 ((if x < z + c then 1 else 0 : Nat) : Int)]) (fun y => True) (fun y => []) := by
 refine Spec.of_body _ (fn := Tryz.f154) k_ rfl k_ (fun X w0 => ?_)
 refine J.sreg ?_
 refine RN.bq (no 2) [0, 1, 2] [] 2 [(0, .int .u32 ((x : Nat) : Int)), (1, .int .u32 ((z : Nat) : Int)), (2, .int .u32 ((c : Nat) : Int))] k_ ?_
 refine RN.fs k_ ?_
 refine RN.bq (no 6) [0, 1, 6] [] 6 [(0, .int .u32 ((x : Nat) : Int)), (1, .int .u32 ((z : Nat) : Int)), (6, .int .u32 (IntKind.u32.wrap ((IntKind.u32.wrap (((x : Nat) : Int) - ((z : Nat) : Int))) - ((c : Nat) : Int))))] k_ ?_
 refine RN.fs k_ ?_
 refine RN.bq (no 13) [6, 7] [] 13 [(6, .int .u32 (IntKind.u32.wrap ((IntKind.u32.wrap (((x : Nat) : Int) - ((z : Nat) : Int))) - ((c : Nat) : Int)))), (7, .int .u32 (Int.fdiv (IntKind.u32.wrap ((BitVec.ofInt 32 (IntKind.u32.wrap ((BitVec.ofInt 32 (IntKind.u32.wrap ((BitVec.ofInt 32 4294967295 ^^^ BitVec.ofInt 32 ((x : Nat) : Int)).toNat : Nat)) &&& BitVec.ofInt 32 ((z : Nat) : Int)).toNat : Nat)) ||| BitVec.ofInt 32 (IntKind.u32.wrap ((BitVec.ofInt 32 (IntKind.u32.wrap ((BitVec.ofInt 32 4294967295 ^^^ BitVec.ofInt 32 (IntKind.u32.wrap ((BitVec.ofInt 32 ((x : Nat) : Int) ^^^ BitVec.ofInt 32 ((z : Nat) : Int)).toNat : Nat))).toNat : Nat)) &&& BitVec.ofInt 32 (IntKind.u32.wrap ((IntKind.u32.wrap (((x : Nat) : Int) - ((z : Nat) : Int))) - ((c : Nat) : Int)))).toNat : Nat))).toNat : Nat)) (2 ^ 31)))] k_ ?_
 refine RN.fin k_ ?_
 have e_1 : ((((x + 4294967296 - z - c) % 4294967296 : Nat) : Int) : Int) = (IntKind.u32.wrap ((IntKind.u32.wrap (((x : Nat) : Int) - ((z : Nat) : Int))) - ((c : Nat) : Int)) : Int) := by first | exact (sub32_diff x z c hx hz hc).symm | exact (sub32_borrow x z c hx hz hc).symm
 have e_2 : (((if x < z + c then 1 else 0 : Nat) : Int) : Int) = (Int.fdiv (IntKind.u32.wrap ((BitVec.ofInt 32 (IntKind.u32.wrap ((BitVec.ofInt 32 (IntKind.u32.wrap ((BitVec.ofInt 32 4294967295 ^^^ BitVec.ofInt 32 ((x : Nat) : Int)).toNat : Nat)) &&& BitVec.ofInt 32 ((z : Nat) : Int)).toNat : Nat)) ||| BitVec.ofInt 32 (IntKind.u32.wrap ((BitVec.ofInt 32 (IntKind.u32.wrap ((BitVec.ofInt 32 4294967295 ^^^ BitVec.ofInt 32 (IntKind.u32.wrap ((BitVec.ofInt 32 ((x : Nat) : Int) ^^^ BitVec.ofInt 32 ((z : Nat) : Int)).toNat : Nat))).toNat : Nat)) &&& BitVec.ofInt 32 (IntKind.u32.wrap ((IntKind.u32.wrap (((x : Nat) : Int) - ((z : Nat) : Int))) - ((c : Nat) : Int)))).toNat : Nat))).toNat : Nat)) (2 ^ 31) : Int) := by first | exact (sub32_diff x z c hx hz hc).symm | exact (sub32_borrow x z c hx hz hc).symm
 refine J.ret (KR.ret (v := .tuple #[.int .u32 (IntKind.u32.wrap ((IntKind.u32.wrap (((x : Nat) : Int) - ((z : Nat) : Int))) - ((c : Nat) : Int))), .int .u32 (Int.fdiv (IntKind.u32.wrap ((BitVec.ofInt 32 (IntKind.u32.wrap ((BitVec.ofInt 32 (IntKind.u32.wrap ((BitVec.ofInt 32 4294967295 ^^^ BitVec.ofInt 32 ((x : Nat) : Int)).toNat : Nat)) &&& BitVec.ofInt 32 ((z : Nat) : Int)).toNat : Nat)) ||| BitVec.ofInt 32 (IntKind.u32.wrap ((BitVec.ofInt 32 (IntKind.u32.wrap ((BitVec.ofInt 32 4294967295 ^^^ BitVec.ofInt 32 (IntKind.u32.wrap ((BitVec.ofInt 32 ((x : Nat) : Int) ^^^ BitVec.ofInt 32 ((z : Nat) : Int)).toNat : Nat))).toNat : Nat)) &&& BitVec.ofInt 32 (IntKind.u32.wrap ((IntKind.u32.wrap (((x : Nat) : Int) - ((z : Nat) : Int))) - ((c : Nat) : Int)))).toNat : Nat))).toNat : Nat)) (2 ^ 31))]) (()) [none, none] [] [] k_ v2_ (trivial) v2_)
theorem cmp_le {a b : Nat} (h : ¬ cmpN a b < 0) : b ≤ a := by rw [cmpN_neg] at h; omega
theorem y_natural_Sub {p : Prop} (h : p := by first | assumption | exact Lb_toL _ | omega | (simp; done) | exact hI3.1) : p := h
theorem natural_Sub (s : SA) (xs : List Nat) (t : SA) (ys : List Nat) (hx : Lb xs) (hy : Lb ys) (hxl : xs.length ≤ 1099511627776) (hyl : ys.length ≤ 1099511627776) : Spec Tryz.prog 140 #[sl s xs.length, sl t ys.length] [fU s xs, fU t ys] (ι := SA) (fun y => .tuple #[sl y (toL (nv xs - nv ys)).length, .bool (decide (nv ys ≤ nv xs))]) (fun y => True) (fun y => [fU y (toL (nv xs - nv ys))]) := by
 refine Spec.of_body _ (fn := Tryz.f140) k_ rfl k_ (fun X w0 => ?_)
 refine J.fact (φ := xs.length ≤ 140737488355328) (fun w h => by have := (h _ (.head _)).1; omega) (fun hl1 => ?_)
 refine J.fact (φ := ys.length ≤ 140737488355328) (fun w h => by have := (h _ (.tail _ ((.head _)))).1; omega) (fun hl2 => ?_)
 have hnx := toL_nv_len hx _ hxl
 have hny := toL_nv_len hy _ hyl
 refine J.sreg ?_
 refine RN.bq (no 2) [0, 1] [] 2 [(0, sl s xs.length), (1, sl t ys.length)] k_ ?_
 refine RN.fs k_ ?_
 refine RN.bq (no 1) [1, 11] [] 1 [(1, sl t ys.length), (11, sl s xs.length)] k_ ?_
 refine RN.call (natural_value s xs y_natural_Sub) [0] k_ k_ k_ rfl (fun y3 _ => ?_)
 refine RN.bq (no 1) [12, 13] [] 3 [(12, sl y3 (toL (nv xs)).length), (13, sl t ys.length)] k_ ?_
 refine RN.call (natural_value t ys y_natural_Sub) [2] k_ k_ k_ rfl (fun y4 _ => ?_)
 refine RN.bq (no 2) [0, 1] [] 6 [(0, sl y3 (toL (nv xs)).length), (1, sl y4 (toL (nv ys)).length)] k_ ?_
 refine RN.fin k_ ?_
 refine J.seq ?_
 refine J.sreg ?_
 refine RN.bq (no 2) [0, 1, 15, 16] [] 2 [(0, sl y3 (toL (nv xs)).length), (1, sl y4 (toL (nv ys)).length), (15, sl y3 (toL (nv xs)).length), (16, sl y4 (toL (nv ys)).length)] k_ ?_
 refine RN.call (natural_Compare_c y3 (nv xs) y4 (nv ys)) [1, 0] k_ k_ k_ rfl (fun y5 _ => ?_)
 refine RN.bq (no 1) [0, 1, 18] [] 4 [(0, sl y3 (toL (nv xs)).length), (1, sl y4 (toL (nv ys)).length), (18, .bool (decide ((cmpN (nv xs) (nv ys)) < 0)))] k_ ?_
 refine RN.fin k_ ?_
 refine J.cond (decide ((cmpN (nv xs) (nv ys)) < 0)) k_ (fun c6 => ?_) (fun c6 => ?_)
 ·replace c6 := of_decide_eq_true c6
  refine J.sreg ?_
  refine RN.bq (no 2) [4, 5] [] 2 [(4, .slice none 0 0), (5, .bool false)] k_ ?_
  refine RN.fin k_ ?_
  have e_1 : (toL (nv xs - nv ys)) = ([] : List Nat) := by first | (rw [show nv xs - nv ys = 0 from by have := cmpN_neg.1 ‹_›; omega, toL_zero]) | (have := cmpN_neg.1 ‹_›; simp; omega)
  have e_2 : (decide (nv ys ≤ nv xs)) = false := by first | (rw [show nv xs - nv ys = 0 from by have := cmpN_neg.1 ‹_›; omega, toL_zero]) | (have := cmpN_neg.1 ‹_›; simp; omega)
  refine J.also (fU saNil ([] : List Nat)) (fun w h => fU_nil w) ?_
  refine J.ret (KR.next (KR.ret (v := .tuple #[.slice none 0 0, .bool false]) (saNil) [none, none] [0] [] k_ v2_ (trivial) v2_))
 ·replace c6 := of_decide_eq_false c6
  refine J.skip ?_
  refine KN.next ?_
  refine J.sreg ?_
  refine RN.bq (no 2) [0, 1, 20] [] 2 [(0, sl y3 (toL (nv xs)).length), (1, sl y4 (toL (nv ys)).length), (20, .int .i64 (((toL (nv xs)).length : Nat) : Int))] k_ ?_
  refine RN.make (e := 0) (m := ((toL (nv xs)).length)) (.cells (encU (List.replicate ((toL (nv xs)).length) 0)) 107 (0, 0)) k_ k_ (fun w => (q_make1 (t := 36) (m := ((toL (nv xs)).length)) (by_ := 4) (K := .i64) (K' := .i64) (n1 := (((toL (nv xs)).length : Nat) : Int)) (n2 := (((toL (nv xs)).length : Nat) : Int)) (x := (.tmp 20)) (y := (.tmp 20)) (e := 107) k_ k_ k_ (by omega) (by omega) k_ k_ rfl (by omega) (by omega) w).trans (by rw [encU_rep])) (fun b7 => ?_)
  refine RN.bq (no 1) [0, 1, 6] [] 4 [(0, sl y3 (toL (nv xs)).length), (1, sl y4 (toL (nv ys)).length), (6, .slice (some ⟨b7, 0, none⟩) ((toL (nv xs)).length) ((toL (nv xs)).length))] k_ ?_
  refine RN.fs k_ ?_
  refine RN.bq (no 1) [0, 1, 6, 7] [] 1 [(0, sl y3 (toL (nv xs)).length), (1, sl y4 (toL (nv ys)).length), (6, .slice (some ⟨b7, 0, none⟩) ((toL (nv xs)).length) ((toL (nv xs)).length)), (7, .int .u32 0)] k_ ?_
  refine RN.fin k_ ?_
  refine J.seq ?_
  refine J.sreg ?_
  refine RN.bq (no 3) [1, 6, 7, 22, 23, 24] [] 3 [(1, sl y4 (toL (nv ys)).length), (6, .slice (some ⟨b7, 0, none⟩) ((toL (nv xs)).length) ((toL (nv xs)).length)), (7, .int .u32 0), (22, sl y3 (toL (nv xs)).length), (23, .int .i64 (((toL (nv xs)).length : Nat) : Int)), (24, .int .i64 0)] k_ ?_
  refine RN.fin k_ ?_
  refine J.block ?_
  refine J.loop (ι := (Nat) × (List Nat) × (Nat)) (fun x => x.1 ≤ (toL (nv xs)).length ∧ x.2.1.length = (toL (nv xs)).length ∧ SubI (nv xs) (nv ys) x.2.1 x.1 x.2.2) (fun x => (toL (nv xs)).length - x.1) (fun x => [(1, sl y4 (toL (nv ys)).length), (6, .slice (some ⟨b7, 0, none⟩) ((toL (nv xs)).length) ((toL (nv xs)).length)), (7, .int .u32 ((x.2.2 : Nat) : Int)), (22, sl y3 (toL (nv xs)).length), (23, .int .i64 (((toL (nv xs)).length : Nat) : Int)), (24, .int .i64 ((x.1 : Nat) : Int))]) (fun x => [(b7, .cells (encU x.2.1) 107 (0, 0))]) (fun x => [fU y4 (toL (nv ys)), fU y3 (toL (nv xs)), fU s xs, fU t ys]) (0, List.replicate ((toL (nv xs)).length) 0, 0) [1, 6, 7, 22, 23, 24] [0, 1, 2, 3] (⟨Nat.zero_le _, by simp, SubI.start _ _ _⟩) k_ (by first | rfl | (simp only [encQ_zero]; done) | (simp only [encQ_zero]; rfl)) (by rfl) (fun x8 hI => ?_)
  obtain ⟨k, out, c⟩ := x8
  replace hI : k ≤ (toL (nv xs)).length ∧ out.length = (toL (nv xs)).length ∧ SubI (nv xs) (nv ys) out k c := hI
  obtain ⟨hI1, hI2, hI3⟩ := hI
  have hc1 := hI3.2.1
  have hga : (toL (nv xs)).getD k 0 < 4294967296 := (Lb_toL (nv xs)).getD k
  have hgb : (toL (nv ys)).getD k 0 < 4294967296 := (Lb_toL (nv ys)).getD k
  refine J.sreg ?_
  refine RN.bq (no 1) [1, 6, 7, 22, 23, 24, 25] [] 1 [(1, sl y4 (toL (nv ys)).length), (6, .slice (some ⟨b7, 0, none⟩) ((toL (nv xs)).length) ((toL (nv xs)).length)), (7, .int .u32 ((c : Nat) : Int)), (22, sl y3 (toL (nv xs)).length), (23, .int .i64 (((toL (nv xs)).length : Nat) : Int)), (24, .int .i64 ((k : Nat) : Int)), (25, .bool (decide (((k : Nat) : Int) < (((toL (nv xs)).length : Nat) : Int))))] k_ ?_
  refine RN.fin k_ ?_
  refine J.seq ?_
  refine J.cond (decide (((k : Nat) : Int) < (((toL (nv xs)).length : Nat) : Int))) k_ (fun c9 => ?_) (fun c9 => ?_)
  ·replace c9 := of_decide_eq_true c9
   refine J.skip ?_
   refine KN.next ?_
   refine J.seq ?_
   refine J.block ?_
   refine J.sreg ?_
   refine RN.bq (no 1) [1, 6, 7, 22, 23, 24, 26] [] 1 [(1, sl y4 (toL (nv ys)).length), (6, .slice (some ⟨b7, 0, none⟩) ((toL (nv xs)).length) ((toL (nv xs)).length)), (7, .int .u32 ((c : Nat) : Int)), (22, sl y3 (toL (nv xs)).length), (23, .int .i64 (((toL (nv xs)).length : Nat) : Int)), (24, .int .i64 ((k : Nat) : Int)), (26, .int .i64 ((k : Nat) : Int))] k_ ?_
   refine RN.val _ k_ k_ (q_uidx (t := 36) (x := (.tmp 22)) (ix := (.tmp 24)) (K := .i64) (i0 := ((k : Nat) : Int)) (m := k) (e := 107) 1 rfl k_ k_ k_ k_ k_ (by omega) x_) ?_
   refine RN.val _ k_ k_ (q_uload (T := 107) (x := (.tmp 27)) (m := k) (s := y3) (xs := toL (nv xs)) 1 rfl k_ k_ k_ x_) ?_
   refine RN.bq (no 2) [1, 6, 7, 8, 9, 22, 23, 24] [] 5 [(1, sl y4 (toL (nv ys)).length), (6, .slice (some ⟨b7, 0, none⟩) ((toL (nv xs)).length) ((toL (nv xs)).length)), (7, .int .u32 ((c : Nat) : Int)), (8, .int .i64 ((k : Nat) : Int)), (9, .int .u32 (((toL (nv xs)).getD k 0 : Nat) : Int)), (22, sl y3 (toL (nv xs)).length), (23, .int .i64 (((toL (nv xs)).length : Nat) : Int)), (24, .int .i64 ((k : Nat) : Int))] k_ ?_
   refine RN.fs k_ ?_
   refine RN.bq (no 1) [1, 6, 7, 8, 9, 10, 22, 23, 24] [] 1 [(1, sl y4 (toL (nv ys)).length), (6, .slice (some ⟨b7, 0, none⟩) ((toL (nv xs)).length) ((toL (nv xs)).length)), (7, .int .u32 ((c : Nat) : Int)), (8, .int .i64 ((k : Nat) : Int)), (9, .int .u32 (((toL (nv xs)).getD k 0 : Nat) : Int)), (10, .int .u32 0), (22, sl y3 (toL (nv xs)).length), (23, .int .i64 (((toL (nv xs)).length : Nat) : Int)), (24, .int .i64 ((k : Nat) : Int))] k_ ?_
   refine RN.fin k_ ?_
   refine J.seq ?_
   refine J.sreg ?_
   refine RN.bq (no 4) [1, 6, 7, 8, 9, 10, 22, 23, 24, 32] [] 4 [(1, sl y4 (toL (nv ys)).length), (6, .slice (some ⟨b7, 0, none⟩) ((toL (nv xs)).length) ((toL (nv xs)).length)), (7, .int .u32 ((c : Nat) : Int)), (8, .int .i64 ((k : Nat) : Int)), (9, .int .u32 (((toL (nv xs)).getD k 0 : Nat) : Int)), (10, .int .u32 0), (22, sl y3 (toL (nv xs)).length), (23, .int .i64 (((toL (nv xs)).length : Nat) : Int)), (24, .int .i64 ((k : Nat) : Int)), (32, .bool (decide (((k : Nat) : Int) < (((toL (nv ys)).length : Nat) : Int))))] k_ ?_
   refine RN.fin k_ ?_
   refine J.cond (decide (((k : Nat) : Int) < (((toL (nv ys)).length : Nat) : Int))) k_ (fun c10 => ?_) (fun c10 => ?_)
   ·replace c10 := of_decide_eq_true c10
    refine J.regN ?_
    refine RN.bq (no 2) [1, 6, 7, 8, 9, 22, 23, 24, 33, 34] [] 2 [(1, sl y4 (toL (nv ys)).length), (6, .slice (some ⟨b7, 0, none⟩) ((toL (nv xs)).length) ((toL (nv xs)).length)), (7, .int .u32 ((c : Nat) : Int)), (8, .int .i64 ((k : Nat) : Int)), (9, .int .u32 (((toL (nv xs)).getD k 0 : Nat) : Int)), (22, sl y3 (toL (nv xs)).length), (23, .int .i64 (((toL (nv xs)).length : Nat) : Int)), (24, .int .i64 ((k : Nat) : Int)), (33, sl y4 (toL (nv ys)).length), (34, .int .i64 ((k : Nat) : Int))] k_ ?_
    refine RN.val _ k_ k_ (q_uidx (t := 36) (x := (.tmp 33)) (ix := (.tmp 34)) (K := .i64) (i0 := ((k : Nat) : Int)) (m := k) (e := 107) 0 rfl k_ k_ k_ k_ k_ (by omega) x_) ?_
    refine RN.val _ k_ k_ (q_uload (T := 107) (x := (.tmp 35)) (m := k) (s := y4) (xs := toL (nv ys)) 0 rfl k_ k_ k_ x_) ?_
    refine RN.bq (no 1) [1, 6, 7, 8, 9, 10, 22, 23, 24] [] 5 [(1, sl y4 (toL (nv ys)).length), (6, .slice (some ⟨b7, 0, none⟩) ((toL (nv xs)).length) ((toL (nv xs)).length)), (7, .int .u32 ((c : Nat) : Int)), (8, .int .i64 ((k : Nat) : Int)), (9, .int .u32 (((toL (nv xs)).getD k 0 : Nat) : Int)), (10, .int .u32 (((toL (nv ys)).getD k 0 : Nat) : Int)), (22, sl y3 (toL (nv xs)).length), (23, .int .i64 (((toL (nv xs)).length : Nat) : Int)), (24, .int .i64 ((k : Nat) : Int))] k_ ?_
    refine RN.fin k_ ?_
    refine J.regN ?_
    refine RN.bq (no 5) [1, 6, 22, 23, 24, 38, 39, 40, 41, 42] [] 5 [(1, sl y4 (toL (nv ys)).length), (6, .slice (some ⟨b7, 0, none⟩) ((toL (nv xs)).length) ((toL (nv xs)).length)), (22, sl y3 (toL (nv xs)).length), (23, .int .i64 (((toL (nv xs)).length : Nat) : Int)), (24, .int .i64 ((k : Nat) : Int)), (38, .slice (some ⟨b7, 0, none⟩) ((toL (nv xs)).length) ((toL (nv xs)).length)), (39, .int .i64 ((k : Nat) : Int)), (40, .int .u32 (((toL (nv xs)).getD k 0 : Nat) : Int)), (41, .int .u32 (((toL (nv ys)).getD k 0 : Nat) : Int)), (42, .int .u32 ((c : Nat) : Int))] k_ ?_
    refine RN.call (bits_Sub32 ((toL (nv xs)).getD k 0) ((toL (nv ys)).getD k 0) c y_natural_Sub y_natural_Sub y_natural_Sub) [] k_ k_ k_ rfl (fun y11 _ => ?_)
    refine RN.bq (no 3) [1, 6, 22, 23, 24, 38, 39, 44, 45] [] 9 [(1, sl y4 (toL (nv ys)).length), (6, .slice (some ⟨b7, 0, none⟩) ((toL (nv xs)).length) ((toL (nv xs)).length)), (22, sl y3 (toL (nv xs)).length), (23, .int .i64 (((toL (nv xs)).length : Nat) : Int)), (24, .int .i64 ((k : Nat) : Int)), (38, .slice (some ⟨b7, 0, none⟩) ((toL (nv xs)).length) ((toL (nv xs)).length)), (39, .int .i64 ((k : Nat) : Int)), (44, .int .u32 (((((toL (nv xs)).getD k 0) + 4294967296 - ((toL (nv ys)).getD k 0) - c) % 4294967296 : Nat) : Int)), (45, .int .u32 ((if ((toL (nv xs)).getD k 0) < ((toL (nv ys)).getD k 0) + c then 1 else 0 : Nat) : Int))] k_ ?_
    refine RN.val _ k_ k_ (q_oidx (t := 36) (x := (.tmp 38)) (ix := (.tmp 39)) (b := b7) (n := ((toL (nv xs)).length)) (c := ((toL (nv xs)).length)) (K := .i64) (i0 := ((k : Nat) : Int)) (m := k) (e := 107) (sz := 1) k_ k_ k_ k_ k_ (by omega) x_) ?_
    refine RN.ot k_ k_ (ot_ustore (mi := 0) (T := 107) (x := (.tmp 46)) (y := (.tmp 44)) (b := b7) (m := k) (xs := out) (v := (((((toL (nv xs)).getD k 0) + 4294967296 - ((toL (nv ys)).getD k 0) - c) % 4294967296 : Nat) : Int)) (v0 := (((toL (nv xs)).getD k 0) + 4294967296 - ((toL (nv ys)).getD k 0) - c) % 4294967296) rfl k_ k_ k_ k_ k_ (by omega) x_) (fun _ _ => ?_)
    refine RN.bq (no 1) [1, 6, 7, 22, 23, 24] [] 12 [(1, sl y4 (toL (nv ys)).length), (6, .slice (some ⟨b7, 0, none⟩) ((toL (nv xs)).length) ((toL (nv xs)).length)), (7, .int .u32 ((if ((toL (nv xs)).getD k 0) < ((toL (nv ys)).getD k 0) + c then 1 else 0 : Nat) : Int)), (22, sl y3 (toL (nv xs)).length), (23, .int .i64 (((toL (nv xs)).length : Nat) : Int)), (24, .int .i64 ((k : Nat) : Int))] k_ ?_
    refine RN.done k_ ?_
    refine KN.blk ?_
    refine KN.next ?_
    refine J.regN ?_
    refine RN.bq (no 1) [1, 6, 7, 22, 23, 47] [] 1 [(1, sl y4 (toL (nv ys)).length), (6, .slice (some ⟨b7, 0, none⟩) ((toL (nv xs)).length) ((toL (nv xs)).length)), (7, .int .u32 ((if ((toL (nv xs)).getD k 0) < ((toL (nv ys)).getD k 0) + c then 1 else 0 : Nat) : Int)), (22, sl y3 (toL (nv xs)).length), (23, .int .i64 (((toL (nv xs)).length : Nat) : Int)), (47, .int .i64 (IntKind.i64.wrap (((k : Nat) : Int) + 1)))] k_ ?_
    rw [show IntKind.i64.wrap (((k : Nat) : Int) + 1) = ((k + 1 : Nat) : Int) from by rw [IntKind.wrap_i64]; omega]
    refine RN.bq (no 1) [1, 6, 7, 22, 23, 24] [] 2 [(1, sl y4 (toL (nv ys)).length), (6, .slice (some ⟨b7, 0, none⟩) ((toL (nv xs)).length) ((toL (nv xs)).length)), (7, .int .u32 ((if ((toL (nv xs)).getD k 0) < ((toL (nv ys)).getD k 0) + c then 1 else 0 : Nat) : Int)), (22, sl y3 (toL (nv xs)).length), (23, .int .i64 (((toL (nv xs)).length : Nat) : Int)), (24, .int .i64 ((k + 1 : Nat) : Int))] k_ ?_
    refine RN.done k_ ?_
    refine KN.roundE (k + 1, out.set k ((((toL (nv xs)).getD k 0) + 4294967296 - ((toL (nv ys)).getD k 0) - c) % 4294967296), if ((toL (nv xs)).getD k 0) < ((toL (nv ys)).getD k 0) + c then 1 else 0) [1, 6, 7, 22, 23, 24] [0, 1, 2, 3] (l2 := [(1, sl y4 (toL (nv ys)).length), (6, .slice (some ⟨b7, 0, none⟩) ((toL (nv xs)).length) ((toL (nv xs)).length)), (7, .int .u32 ((if ((toL (nv xs)).getD k 0) < ((toL (nv ys)).getD k 0) + c then 1 else 0 : Nat) : Int)), (22, sl y3 (toL (nv xs)).length), (23, .int .i64 (((toL (nv xs)).length : Nat) : Int)), (24, .int .i64 ((k + 1 : Nat) : Int))]) (by (try dsimp only); omega) (by (try dsimp only); exact ⟨by omega, by (try simp); omega, hI3.step (by omega) (by first | rfl | (rw [getD_ge (by omega)]))⟩) k_ (by rfl) (by rfl) (by rfl)
   ·replace c10 := of_decide_eq_false c10
    refine J.skip ?_
    refine KN.next ?_
    refine J.regN ?_
    refine RN.bq (no 5) [1, 6, 22, 23, 24, 38, 39, 40, 41, 42] [] 5 [(1, sl y4 (toL (nv ys)).length), (6, .slice (some ⟨b7, 0, none⟩) ((toL (nv xs)).length) ((toL (nv xs)).length)), (22, sl y3 (toL (nv xs)).length), (23, .int .i64 (((toL (nv xs)).length : Nat) : Int)), (24, .int .i64 ((k : Nat) : Int)), (38, .slice (some ⟨b7, 0, none⟩) ((toL (nv xs)).length) ((toL (nv xs)).length)), (39, .int .i64 ((k : Nat) : Int)), (40, .int .u32 (((toL (nv xs)).getD k 0 : Nat) : Int)), (41, .int .u32 0), (42, .int .u32 ((c : Nat) : Int))] k_ ?_
    refine RN.call (bits_Sub32 ((toL (nv xs)).getD k 0) 0 c y_natural_Sub y_natural_Sub y_natural_Sub) [] k_ k_ k_ rfl (fun y12 _ => ?_)
    refine RN.bq (no 3) [1, 6, 22, 23, 24, 38, 39, 44, 45] [] 9 [(1, sl y4 (toL (nv ys)).length), (6, .slice (some ⟨b7, 0, none⟩) ((toL (nv xs)).length) ((toL (nv xs)).length)), (22, sl y3 (toL (nv xs)).length), (23, .int .i64 (((toL (nv xs)).length : Nat) : Int)), (24, .int .i64 ((k : Nat) : Int)), (38, .slice (some ⟨b7, 0, none⟩) ((toL (nv xs)).length) ((toL (nv xs)).length)), (39, .int .i64 ((k : Nat) : Int)), (44, .int .u32 (((((toL (nv xs)).getD k 0) + 4294967296 - 0 - c) % 4294967296 : Nat) : Int)), (45, .int .u32 ((if ((toL (nv xs)).getD k 0) < 0 + c then 1 else 0 : Nat) : Int))] k_ ?_
    refine RN.val _ k_ k_ (q_oidx (t := 36) (x := (.tmp 38)) (ix := (.tmp 39)) (b := b7) (n := ((toL (nv xs)).length)) (c := ((toL (nv xs)).length)) (K := .i64) (i0 := ((k : Nat) : Int)) (m := k) (e := 107) (sz := 1) k_ k_ k_ k_ k_ (by omega) x_) ?_
    refine RN.ot k_ k_ (ot_ustore (mi := 0) (T := 107) (x := (.tmp 46)) (y := (.tmp 44)) (b := b7) (m := k) (xs := out) (v := (((((toL (nv xs)).getD k 0) + 4294967296 - 0 - c) % 4294967296 : Nat) : Int)) (v0 := (((toL (nv xs)).getD k 0) + 4294967296 - 0 - c) % 4294967296) rfl k_ k_ k_ k_ k_ (by omega) x_) (fun _ _ => ?_)
    refine RN.bq (no 1) [1, 6, 7, 22, 23, 24] [] 12 [(1, sl y4 (toL (nv ys)).length), (6, .slice (some ⟨b7, 0, none⟩) ((toL (nv xs)).length) ((toL (nv xs)).length)), (7, .int .u32 ((if ((toL (nv xs)).getD k 0) < 0 + c then 1 else 0 : Nat) : Int)), (22, sl y3 (toL (nv xs)).length), (23, .int .i64 (((toL (nv xs)).length : Nat) : Int)), (24, .int .i64 ((k : Nat) : Int))] k_ ?_
    refine RN.done k_ ?_
    refine KN.blk ?_
    refine KN.next ?_
    refine J.regN ?_
    refine RN.bq (no 1) [1, 6, 7, 22, 23, 47] [] 1 [(1, sl y4 (toL (nv ys)).length), (6, .slice (some ⟨b7, 0, none⟩) ((toL (nv xs)).length) ((toL (nv xs)).length)), (7, .int .u32 ((if ((toL (nv xs)).getD k 0) < 0 + c then 1 else 0 : Nat) : Int)), (22, sl y3 (toL (nv xs)).length), (23, .int .i64 (((toL (nv xs)).length : Nat) : Int)), (47, .int .i64 (IntKind.i64.wrap (((k : Nat) : Int) + 1)))] k_ ?_
    rw [show IntKind.i64.wrap (((k : Nat) : Int) + 1) = ((k + 1 : Nat) : Int) from by rw [IntKind.wrap_i64]; omega]
    refine RN.bq (no 1) [1, 6, 7, 22, 23, 24] [] 2 [(1, sl y4 (toL (nv ys)).length), (6, .slice (some ⟨b7, 0, none⟩) ((toL (nv xs)).length) ((toL (nv xs)).length)), (7, .int .u32 ((if ((toL (nv xs)).getD k 0) < 0 + c then 1 else 0 : Nat) : Int)), (22, sl y3 (toL (nv xs)).length), (23, .int .i64 (((toL (nv xs)).length : Nat) : Int)), (24, .int .i64 ((k + 1 : Nat) : Int))] k_ ?_
    refine RN.done k_ ?_
    refine KN.roundE (k + 1, out.set k ((((toL (nv xs)).getD k 0) + 4294967296 - 0 - c) % 4294967296), if ((toL (nv xs)).getD k 0) < 0 + c then 1 else 0) [1, 6, 7, 22, 23, 24] [0, 1, 2, 3] (l2 := [(1, sl y4 (toL (nv ys)).length), (6, .slice (some ⟨b7, 0, none⟩) ((toL (nv xs)).length) ((toL (nv xs)).length)), (7, .int .u32 ((if ((toL (nv xs)).getD k 0) < 0 + c then 1 else 0 : Nat) : Int)), (22, sl y3 (toL (nv xs)).length), (23, .int .i64 (((toL (nv xs)).length : Nat) : Int)), (24, .int .i64 ((k + 1 : Nat) : Int))]) (by (try dsimp only); omega) (by (try dsimp only); exact ⟨by omega, by (try simp); omega, hI3.step (by omega) (by first | rfl | (rw [getD_ge (by omega)]))⟩) k_ (by rfl) (by rfl) (by rfl)
  ·replace c9 := of_decide_eq_false c9
   refine J.exit (KX.next (KX.next (KX.hit ?_)))
   refine KN.next ?_
   refine J.sreg ?_
   refine RN.bq (no 1) [48] [] 1 [(48, .slice (some ⟨b7, 0, none⟩) ((toL (nv xs)).length) ((toL (nv xs)).length))] k_ ?_
   refine RN.share 0 rfl rfl ?_
   refine RN.also (fU (⟨some ⟨b7, 0, none⟩, (toL (nv xs)).length⟩ : SA) out) (fun w h => fU_own (h _ (.head _)) x_ x_) ?_
   refine RN.turn 48 (v := .slice (some ⟨b7, 0, none⟩) ((toL (nv xs)).length) ((toL (nv xs)).length)) (v' := sl (⟨some ⟨b7, 0, none⟩, (toL (nv xs)).length⟩ : SA) out.length) k_ (sl_eq x_) ?_
   refine RN.call (natural_trimmed (⟨some ⟨b7, 0, none⟩, (toL (nv xs)).length⟩ : SA) out y_natural_Sub) [0] k_ k_ k_ rfl (fun y13 _ => ?_)
   refine RN.bq (no 2) [4, 5] [] 4 [(4, sl y13 (toL (lv out)).length), (5, .bool true)] k_ ?_
   refine RN.fin k_ ?_
   have e_1 : (toL (nv xs - nv ys)) = (toL (lv out)) := by first | (rw [(hI3.done (by omega) (cmp_le ‹_›) (by omega)).2]) | (have := cmp_le ‹_›; simp; omega)
   have e_2 : (decide (nv ys ≤ nv xs)) = true := by first | (rw [(hI3.done (by omega) (cmp_le ‹_›) (by omega)).2]) | (have := cmp_le ‹_›; simp; omega)
   refine J.ret (KR.ret (v := .tuple #[sl y13 (toL (lv out)).length, .bool true]) (y13) [none, none] [0] [] k_ v2_ (trivial) v2_)
theorem natural_Sub_c (s : SA) (xs' : Nat) (t : SA) (ys' : Nat) (hxl : (toL xs').length ≤ 1099511627776) (hyl : (toL ys').length ≤ 1099511627776) : Spec Tryz.prog 140 #[sl s (toL xs').length, sl t (toL ys').length] [fU s (toL xs'), fU t (toL ys')] (ι := SA) (fun y => .tuple #[sl y (toL (xs' - ys')).length, .bool (decide (ys' ≤ xs'))]) (fun y => True) (fun y => [fU y (toL (xs' - ys'))]) := by
  have H := natural_Sub s (toL xs') t (toL ys') (Lb_toL _) (Lb_toL _) (by first | exact hxl | simpa only [nv_toL, nv_toL] using hxl) (by first | exact hyl | simpa only [nv_toL, nv_toL] using hyl)
  first | exact H | (simp only [nv_toL, lv_toL, validU_toL] at H; exact H)
theorem y_natural_FromUint {p : Prop} (h : p := by first | assumption | exact Lb_toL _ | omega | (simp; done) | exact Lb_two (by omega) (by omega)) : p := h
theorem natural_FromUint (v : Nat) (hv : v < 18446744073709551616) : Spec Tryz.prog 156 #[.int .u64 ((v : Nat) : Int)] [] (ι := SA) (fun y => sl y (toL v).length) (fun y => True) (fun y => [fU y (toL v)]) := by
 refine Spec.of_body _ (fn := Tryz.f156) k_ rfl k_ (fun X w0 => ?_)
 refine J.sreg ?_
 refine RN.bq (no 1) [0] [] 1 [(0, .int .u64 ((v : Nat) : Int))] k_ ?_
 refine RN.fs k_ ?_
 refine RN.bq (no 2) [0, 4] [] 2 [(0, .int .u64 ((v : Nat) : Int)), (4, .int .u32 (IntKind.u32.wrap ((v : Nat) : Int)))] k_ ?_
 rw [show IntKind.u32.wrap ((v : Nat) : Int) = ((v % 4294967296 : Nat) : Int) from uw32e v (by rfl)]
 refine RN.bq (no 2) [4, 6] [] 4 [(4, .int .u32 ((v % 4294967296 : Nat) : Int)), (6, .int .u64 (Int.fdiv ((v : Nat) : Int) (2 ^ 32)))] k_ ?_
 rw [show Int.fdiv ((v : Nat) : Int) (2 ^ 32) = ((v / 2 ^ 32 : Nat) : Int) from fdivn _ _]
 refine RN.bq (no 1) [4, 7] [] 5 [(4, .int .u32 ((v % 4294967296 : Nat) : Int)), (7, .int .u32 (IntKind.u32.wrap ((v / 2 ^ 32 : Nat) : Int)))] k_ ?_
 rw [show IntKind.u32.wrap ((v / 2 ^ 32 : Nat) : Int) = (((v / 2 ^ 32) % 4294967296 : Nat) : Int) from uw32e (v / 2 ^ 32) (by rfl)]
 refine RN.new (fun b => .slice (some ⟨b, 0, none⟩) 2 2) (.cells (encU ([v % 4294967296, (v / 2 ^ 32) % 4294967296] : List Nat)) 107 (0, 0)) k_ k_ (fun w => by kernel_rfl) (fun b1 => ?_)
 refine RN.share 0 rfl rfl ?_
 refine RN.also (fU (⟨some ⟨b1, 0, none⟩, 2⟩ : SA) ([v % 4294967296, (v / 2 ^ 32) % 4294967296] : List Nat)) (fun w h => fU_own (h _ (.head _)) (by simp) (by simp)) ?_
 refine RN.turn 8 (v := .slice (some ⟨b1, 0, none⟩) 2 2) (v' := sl (⟨some ⟨b1, 0, none⟩, 2⟩ : SA) ([v % 4294967296, (v / 2 ^ 32) % 4294967296] : List Nat).length) k_ (sl_eq (by simp)) ?_
 refine RN.call (natural_trimmed (⟨some ⟨b1, 0, none⟩, 2⟩ : SA) ([v % 4294967296, (v / 2 ^ 32) % 4294967296] : List Nat) y_natural_FromUint) [0] k_ k_ k_ rfl (fun y2 _ => ?_)
 refine RN.bq (no 1) [2] [] 8 [(2, sl y2 (toL (lv ([v % 4294967296, (v / 2 ^ 32) % 4294967296] : List Nat))).length)] k_ ?_
 refine RN.fin k_ ?_
 have e_1 : (toL v) = (toL (lv ([v % 4294967296, (v / 2 ^ 32) % 4294967296] : List Nat))) := by rw [lv_two hv]
 refine J.ret (KR.ret (v := sl y2 (toL (lv ([v % 4294967296, (v / 2 ^ 32) % 4294967296] : List Nat))).length) (y2) [none] [0] [] k_ v1_ (trivial) v1_)
theorem natural_Uint (s : SA) (xs : List Nat) (hx : Lb xs) : Spec Tryz.prog 155 #[sl s xs.length] [fU s xs] (ι := Unit) (fun y => .tuple #[.int .u64 ((if nv xs < 18446744073709551616 then nv xs else 0 : Nat) : Int), .bool (decide (nv xs < 18446744073709551616))]) (fun y => True) (fun y => []) := by
 refine Spec.of_body _ (fn := Tryz.f155) k_ rfl k_ (fun X w0 => ?_)
 refine J.fact (φ := xs.length ≤ 140737488355328) (fun w h => by have := (h _ (.head _)).1; omega) (fun hl1 => ?_)
 refine J.sreg ?_
 refine RN.bq (no 2) [0, 2] [] 2 [(0, sl s xs.length), (2, .int .u64 0)] k_ ?_
 refine RN.fs k_ ?_
 refine RN.bq (no 1) [2, 6] [] 1 [(2, .int .u64 0), (6, sl s xs.length)] k_ ?_
 refine RN.call (natural_value s xs y_) [0] k_ k_ k_ rfl (fun y2 _ => ?_)
 refine RN.bq (no 1) [0, 2] [] 3 [(0, sl y2 (toL (nv xs)).length), (2, .int .u64 0)] k_ ?_
 refine RN.fin k_ ?_
 refine J.seq ?_
 refine J.sreg ?_
 refine RN.bq (no 3) [0, 2, 10] [] 3 [(0, sl y2 (toL (nv xs)).length), (2, .int .u64 0), (10, .bool (decide ((((toL (nv xs)).length : Nat) : Int) > 2)))] k_ ?_
 refine RN.fin k_ ?_
 refine J.cond (decide ((((toL (nv xs)).length : Nat) : Int) > 2)) k_ (fun c3 => ?_) (fun c3 => ?_)
 ·replace c3 := of_decide_eq_true c3
  refine J.sreg ?_
  refine RN.bq (no 2) [2, 3] [] 2 [(2, .int .u64 0), (3, .bool false)] k_ ?_
  refine RN.fin k_ ?_
  have e_1 : (((if nv xs < 18446744073709551616 then nv xs else 0 : Nat) : Int) : Int) = (0 : Int) := by (have hn : ¬ nv xs < 18446744073709551616 := (fun hn => (by have := u64_len.2 hn; omega))); simp [hn]
  have e_2 : (decide (nv xs < 18446744073709551616)) = false := by (have hn : ¬ nv xs < 18446744073709551616 := (fun hn => (by have := u64_len.2 hn; omega))); simp [hn]
  refine J.ret (KR.next (KR.ret (v := .tuple #[.int .u64 0, .bool false]) (()) [none, none] [] [] k_ v2_ (trivial) v2_))
 ·replace c3 := of_decide_eq_false c3
  refine J.skip ?_
  refine KN.next ?_
  refine J.seq ?_
  refine J.sreg ?_
  refine RN.bq (no 3) [2, 11, 12, 13] [] 3 [(2, .int .u64 0), (11, sl y2 (toL (nv xs)).length), (12, .int .i64 (((toL (nv xs)).length : Nat) : Int)), (13, .int .i64 0)] k_ ?_
  refine RN.fin k_ ?_
  refine J.block ?_
  refine J.loop (ι := (Nat) × (Nat)) (fun x => x.1 ≤ (toL (nv xs)).length ∧ x.2 = lv ((toL (nv xs)).take x.1)) (fun x => (toL (nv xs)).length - x.1) (fun x => [(2, .int .u64 ((x.2 : Nat) : Int)), (11, sl y2 (toL (nv xs)).length), (12, .int .i64 (((toL (nv xs)).length : Nat) : Int)), (13, .int .i64 ((x.1 : Nat) : Int))]) (fun x => []) (fun x => [fU y2 (toL (nv xs)), fU s xs]) (0, 0) [2, 11, 12, 13] [0, 1] (⟨Nat.zero_le _, by simp [lv]⟩) k_ (by first | rfl | (simp only [encQ_zero]; done) | (simp only [encQ_zero]; rfl)) (by rfl) (fun x4 hI => ?_)
  obtain ⟨k, v⟩ := x4
  replace hI : k ≤ (toL (nv xs)).length ∧ v = lv ((toL (nv xs)).take k) := hI
  obtain ⟨hI1, hI2⟩ := hI
  have hz : (toL (nv xs)).getD k 0 < 4294967296 := (Lb_toL _).getD k
  have hv : k ≤ (toL (nv xs)).length → v < W ^ k := fun hk => by rw [hI2]; have := lv_lt ((Lb_toL (nv xs)).take k); rwa [List.length_take_of_le hk] at this
  refine J.sreg ?_
  refine RN.bq (no 1) [2, 11, 12, 13, 14] [] 1 [(2, .int .u64 ((v : Nat) : Int)), (11, sl y2 (toL (nv xs)).length), (12, .int .i64 (((toL (nv xs)).length : Nat) : Int)), (13, .int .i64 ((k : Nat) : Int)), (14, .bool (decide (((k : Nat) : Int) < (((toL (nv xs)).length : Nat) : Int))))] k_ ?_
  refine RN.fin k_ ?_
  refine J.seq ?_
  refine J.cond (decide (((k : Nat) : Int) < (((toL (nv xs)).length : Nat) : Int))) k_ (fun c5 => ?_) (fun c5 => ?_)
  ·replace c5 := of_decide_eq_true c5
   refine J.skip ?_
   refine KN.next ?_
   refine J.seq ?_
   refine J.block ?_
   refine J.sreg ?_
   refine RN.bq (no 1) [2, 11, 12, 13, 15] [] 1 [(2, .int .u64 ((v : Nat) : Int)), (11, sl y2 (toL (nv xs)).length), (12, .int .i64 (((toL (nv xs)).length : Nat) : Int)), (13, .int .i64 ((k : Nat) : Int)), (15, .int .i64 ((k : Nat) : Int))] k_ ?_
   refine RN.val _ k_ k_ (q_uidx (t := 36) (x := (.tmp 11)) (ix := (.tmp 13)) (K := .i64) (i0 := ((k : Nat) : Int)) (m := k) (e := 107) 0 rfl k_ k_ k_ k_ k_ (by omega) x_) ?_
   refine RN.val _ k_ k_ (q_uload (T := 107) (x := (.tmp 16)) (m := k) (s := y2) (xs := toL (nv xs)) 0 rfl k_ k_ k_ x_) ?_
   refine RN.bq (no 2) [2, 4, 5, 11, 12, 13] [] 5 [(2, .int .u64 ((v : Nat) : Int)), (4, .int .i64 ((k : Nat) : Int)), (5, .int .u32 (((toL (nv xs)).getD k 0 : Nat) : Int)), (11, sl y2 (toL (nv xs)).length), (12, .int .i64 (((toL (nv xs)).length : Nat) : Int)), (13, .int .i64 ((k : Nat) : Int))] k_ ?_
   refine RN.fin k_ ?_
   refine J.regN ?_
   refine RN.bq (no 3) [4, 11, 12, 13, 18, 20] [] 3 [(4, .int .i64 ((k : Nat) : Int)), (11, sl y2 (toL (nv xs)).length), (12, .int .i64 (((toL (nv xs)).length : Nat) : Int)), (13, .int .i64 ((k : Nat) : Int)), (18, .int .u64 ((v : Nat) : Int)), (20, .int .u64 (IntKind.u64.wrap (((toL (nv xs)).getD k 0 : Nat) : Int)))] k_ ?_
   rw [show IntKind.u64.wrap (((toL (nv xs)).getD k 0 : Nat) : Int) = (((toL (nv xs)).getD k 0 : Nat) : Int) from uw64b ((toL (nv xs)).getD k 0) (by rfl) (by omega)]
   refine RN.bq (no 2) [11, 12, 13, 18, 20, 22] [] 5 [(11, sl y2 (toL (nv xs)).length), (12, .int .i64 (((toL (nv xs)).length : Nat) : Int)), (13, .int .i64 ((k : Nat) : Int)), (18, .int .u64 ((v : Nat) : Int)), (20, .int .u64 (((toL (nv xs)).getD k 0 : Nat) : Int)), (22, .int .i64 (IntKind.i64.wrap (32 * ((k : Nat) : Int))))] k_ ?_
   rw [show IntKind.i64.wrap (32 * ((k : Nat) : Int)) = ((32 * k : Nat) : Int) from by rw [IntKind.wrap_i64]; omega]
   refine RN.val _ k_ k_ (q_shl (T := 109) (T' := 3) (x := (.tmp 20)) (y := (.tmp 22)) (k := .u64) (k' := .i64) (a := (((toL (nv xs)).getD k 0 : Nat) : Int)) (b := ((32 * k : Nat) : Int)) (m := (32 * k)) k_ k_ k_ (by omega) (by simp only [IntKind.bits]; omega)) ?_
   rw [show (IntKind.u64.wrap ((((toL (nv xs)).getD k 0 : Nat) : Int) * 2 ^ (32 * k))) = (((toL (nv xs)).getD k 0 * 2 ^ (32 * k) : Nat) : Int) from by exact uint_shl (by omega) hz]
   refine RN.bq (no 1) [11, 12, 13, 24] [] 7 [(11, sl y2 (toL (nv xs)).length), (12, .int .i64 (((toL (nv xs)).length : Nat) : Int)), (13, .int .i64 ((k : Nat) : Int)), (24, .int .u64 (IntKind.u64.wrap ((BitVec.ofInt 64 ((v : Nat) : Int) ||| BitVec.ofInt 64 (((toL (nv xs)).getD k 0 * 2 ^ (32 * k) : Nat) : Int)).toNat : Nat)))] k_ ?_
   rw [show (IntKind.u64.wrap ((BitVec.ofInt 64 ((v : Nat) : Int) ||| BitVec.ofInt 64 (((toL (nv xs)).getD k 0 * 2 ^ (32 * k) : Nat) : Int)).toNat : Nat)) = ((v + W ^ k * (toL (nv xs)).getD k 0 : Nat) : Int) from by exact uint_or (by omega) hz (hv hI1)]
   refine RN.bq (no 1) [2, 11, 12, 13] [] 8 [(2, .int .u64 ((v + W ^ k * (toL (nv xs)).getD k 0 : Nat) : Int)), (11, sl y2 (toL (nv xs)).length), (12, .int .i64 (((toL (nv xs)).length : Nat) : Int)), (13, .int .i64 ((k : Nat) : Int))] k_ ?_
   refine RN.done k_ ?_
   refine KN.blk ?_
   refine KN.next ?_
   refine J.regN ?_
   refine RN.bq (no 1) [2, 11, 12, 25] [] 1 [(2, .int .u64 ((v + W ^ k * (toL (nv xs)).getD k 0 : Nat) : Int)), (11, sl y2 (toL (nv xs)).length), (12, .int .i64 (((toL (nv xs)).length : Nat) : Int)), (25, .int .i64 (IntKind.i64.wrap (((k : Nat) : Int) + 1)))] k_ ?_
   rw [show IntKind.i64.wrap (((k : Nat) : Int) + 1) = ((k + 1 : Nat) : Int) from by rw [IntKind.wrap_i64]; omega]
   refine RN.bq (no 1) [2, 11, 12, 13] [] 2 [(2, .int .u64 ((v + W ^ k * (toL (nv xs)).getD k 0 : Nat) : Int)), (11, sl y2 (toL (nv xs)).length), (12, .int .i64 (((toL (nv xs)).length : Nat) : Int)), (13, .int .i64 ((k + 1 : Nat) : Int))] k_ ?_
   refine RN.done k_ ?_
   refine KN.roundE (k + 1, v + W ^ k * (toL (nv xs)).getD k 0) [2, 11, 12, 13] [0, 1] (l2 := [(2, .int .u64 ((v + W ^ k * (toL (nv xs)).getD k 0 : Nat) : Int)), (11, sl y2 (toL (nv xs)).length), (12, .int .i64 (((toL (nv xs)).length : Nat) : Int)), (13, .int .i64 ((k + 1 : Nat) : Int))]) (by (try dsimp only); omega) (by (try dsimp only); exact ⟨by omega, by rw [hI2, lv_take_succ']⟩) k_ (by rfl) (by rfl) (by rfl)
  ·replace c5 := of_decide_eq_false c5
   refine J.exit (KX.next (KX.next (KX.hit ?_)))
   refine KN.next ?_
   refine J.sreg ?_
   refine RN.bq (no 3) [2, 3] [] 3 [(2, .int .u64 ((v : Nat) : Int)), (3, .bool true)] k_ ?_
   refine RN.fin k_ ?_
   have e_1 : (((if nv xs < 18446744073709551616 then nv xs else 0 : Nat) : Int) : Int) = (((v : Nat) : Int) : Int) := by have hn : nv xs < 18446744073709551616 := u64_len.1 (by omega); have hv2 : v = nv xs := (by rw [hI2, take_of_le (by omega), lv_toL]); simp [hn, hv2]
   have e_2 : (decide (nv xs < 18446744073709551616)) = true := by have hn : nv xs < 18446744073709551616 := u64_len.1 (by omega); have hv2 : v = nv xs := (by rw [hI2, take_of_le (by omega), lv_toL]); simp [hn, hv2]
   refine J.ret (KR.ret (v := .tuple #[.int .u64 ((v : Nat) : Int), .bool true]) (()) [none, none] [] [] k_ v2_ (trivial) v2_)
theorem natural_Uint_c (s : SA) (xs' : Nat) : Spec Tryz.prog 155 #[sl s (toL xs').length] [fU s (toL xs')] (ι := Unit) (fun y => .tuple #[.int .u64 ((if xs' < 18446744073709551616 then xs' else 0 : Nat) : Int), .bool (decide (xs' < 18446744073709551616))]) (fun y => True) (fun y => []) := by
  have H := natural_Uint s (toL xs') (Lb_toL _)
  first | exact H | (simp only [nv_toL, lv_toL, validU_toL] at H; exact H)
theorem y_natural_Mul {p : Prop} (h : p := by first | assumption | exact Lb_toL _ | omega | (simp; done) | exact hI2.2.1) : p := h
theorem natural_Mul (s : SA) (xs : List Nat) (t : SA) (ys : List Nat) (hx : Lb xs) (hy : Lb ys) (hxl : xs.length ≤ 1099511627776) (hyl : ys.length ≤ 1099511627776) : Spec Tryz.prog 108 #[sl s xs.length, sl t ys.length] [fU s xs, fU t ys] (ι := SA) (fun y => sl y (toL (nv xs * nv ys)).length) (fun y => True) (fun y => [fU y (toL (nv xs * nv ys))]) := by
 refine Spec.of_body _ (fn := Tryz.f108) k_ rfl k_ (fun X w0 => ?_)
 refine J.fact (φ := xs.length ≤ 140737488355328) (fun w h => by have := (h _ (.head _)).1; omega) (fun hl1 => ?_)
 refine J.fact (φ := ys.length ≤ 140737488355328) (fun w h => by have := (h _ (.tail _ ((.head _)))).1; omega) (fun hl2 => ?_)
 have hnx := toL_nv_len hx _ hxl
 have hny := toL_nv_len hy _ hyl
 refine J.sreg ?_
 refine RN.bq (no 1) [0, 1] [] 1 [(0, sl s xs.length), (1, sl t ys.length)] k_ ?_
 refine RN.fs k_ ?_
 refine RN.bq (no 1) [1, 11] [] 1 [(1, sl t ys.length), (11, sl s xs.length)] k_ ?_
 refine RN.call (natural_value s xs y_natural_Mul) [0] k_ k_ k_ rfl (fun y3 _ => ?_)
 refine RN.bq (no 1) [12, 13] [] 3 [(12, sl y3 (toL (nv xs)).length), (13, sl t ys.length)] k_ ?_
 refine RN.call (natural_value t ys y_natural_Mul) [2] k_ k_ k_ rfl (fun y4 _ => ?_)
 refine RN.bq (no 2) [0, 1] [] 6 [(0, sl y3 (toL (nv xs)).length), (1, sl y4 (toL (nv ys)).length)] k_ ?_
 refine RN.fs k_ ?_
 refine RN.bq (no 5) [0, 1, 19] [] 5 [(0, sl y3 (toL (nv xs)).length), (1, sl y4 (toL (nv ys)).length), (19, .int .i64 (IntKind.i64.wrap ((((toL (nv xs)).length : Nat) : Int) + (((toL (nv ys)).length : Nat) : Int))))] k_ ?_
 rw [show IntKind.i64.wrap ((((toL (nv xs)).length : Nat) : Int) + (((toL (nv ys)).length : Nat) : Int)) = ((((toL (nv xs)).length) + ((toL (nv ys)).length) : Nat) : Int) from by rw [IntKind.wrap_i64]; omega]
 refine RN.make (e := 0) (m := (((toL (nv xs)).length) + ((toL (nv ys)).length))) (.cells (encU (List.replicate (((toL (nv xs)).length) + ((toL (nv ys)).length)) 0)) 107 (0, 0)) k_ k_ (fun w => (q_make1 (t := 36) (m := (((toL (nv xs)).length) + ((toL (nv ys)).length))) (by_ := 4) (K := .i64) (K' := .i64) (n1 := ((((toL (nv xs)).length) + ((toL (nv ys)).length) : Nat) : Int)) (n2 := ((((toL (nv xs)).length) + ((toL (nv ys)).length) : Nat) : Int)) (x := (.tmp 19)) (y := (.tmp 19)) (e := 107) k_ k_ k_ (by omega) (by omega) k_ k_ rfl (by omega) (by omega) w).trans (by rw [encU_rep])) (fun b5 => ?_)
 refine RN.bq (no 1) [0, 1, 5] [] 7 [(0, sl y3 (toL (nv xs)).length), (1, sl y4 (toL (nv ys)).length), (5, .slice (some ⟨b5, 0, none⟩) (((toL (nv xs)).length) + ((toL (nv ys)).length)) (((toL (nv xs)).length) + ((toL (nv ys)).length)))] k_ ?_
 refine RN.fin k_ ?_
 refine J.seq ?_
 refine J.sreg ?_
 refine RN.bq (no 3) [1, 5, 21, 22, 23] [] 3 [(1, sl y4 (toL (nv ys)).length), (5, .slice (some ⟨b5, 0, none⟩) (((toL (nv xs)).length) + ((toL (nv ys)).length)) (((toL (nv xs)).length) + ((toL (nv ys)).length))), (21, sl y3 (toL (nv xs)).length), (22, .int .i64 (((toL (nv xs)).length : Nat) : Int)), (23, .int .i64 0)] k_ ?_
 refine RN.fin k_ ?_
 refine J.block ?_
 refine J.loop (ι := (Nat) × (List Nat)) (fun x => x.1 ≤ (toL (nv xs)).length ∧ MulI (nv xs) (nv ys) x.2 x.1) (fun x => (toL (nv xs)).length - x.1) (fun x => [(1, sl y4 (toL (nv ys)).length), (5, .slice (some ⟨b5, 0, none⟩) (((toL (nv xs)).length) + ((toL (nv ys)).length)) (((toL (nv xs)).length) + ((toL (nv ys)).length))), (21, sl y3 (toL (nv xs)).length), (22, .int .i64 (((toL (nv xs)).length : Nat) : Int)), (23, .int .i64 ((x.1 : Nat) : Int))]) (fun x => [(b5, .cells (encU x.2) 107 (0, 0))]) (fun x => [fU y4 (toL (nv ys)), fU y3 (toL (nv xs)), fU s xs, fU t ys]) (0, List.replicate (((toL (nv xs)).length) + ((toL (nv ys)).length)) 0) [1, 5, 21, 22, 23] [0, 1, 2, 3] (⟨Nat.zero_le _, MulI.start _ _⟩) k_ (by first | rfl | (simp only [encQ_zero]; done) | (simp only [encQ_zero]; rfl)) (by rfl) (fun x6 hI => ?_)
 obtain ⟨i, out⟩ := x6
 replace hI : i ≤ (toL (nv xs)).length ∧ MulI (nv xs) (nv ys) out i := hI
 obtain ⟨hI1, hI2⟩ := hI
 have hI3 := hI2.1
 have hga : (toL (nv xs)).getD i 0 < 4294967296 := (Lb_toL (nv xs)).getD i
 refine J.sreg ?_
 refine RN.bq (no 1) [1, 5, 21, 22, 23, 24] [] 1 [(1, sl y4 (toL (nv ys)).length), (5, .slice (some ⟨b5, 0, none⟩) (((toL (nv xs)).length) + ((toL (nv ys)).length)) (((toL (nv xs)).length) + ((toL (nv ys)).length))), (21, sl y3 (toL (nv xs)).length), (22, .int .i64 (((toL (nv xs)).length : Nat) : Int)), (23, .int .i64 ((i : Nat) : Int)), (24, .bool (decide (((i : Nat) : Int) < (((toL (nv xs)).length : Nat) : Int))))] k_ ?_
 refine RN.fin k_ ?_
 refine J.seq ?_
 refine J.cond (decide (((i : Nat) : Int) < (((toL (nv xs)).length : Nat) : Int))) k_ (fun c7 => ?_) (fun c7 => ?_)
 ·replace c7 := of_decide_eq_true c7
  refine J.skip ?_
  refine KN.next ?_
  refine J.seq ?_
  refine J.block ?_
  refine J.sreg ?_
  refine RN.bq (no 1) [1, 5, 21, 22, 23, 25] [] 1 [(1, sl y4 (toL (nv ys)).length), (5, .slice (some ⟨b5, 0, none⟩) (((toL (nv xs)).length) + ((toL (nv ys)).length)) (((toL (nv xs)).length) + ((toL (nv ys)).length))), (21, sl y3 (toL (nv xs)).length), (22, .int .i64 (((toL (nv xs)).length : Nat) : Int)), (23, .int .i64 ((i : Nat) : Int)), (25, .int .i64 ((i : Nat) : Int))] k_ ?_
  refine RN.val _ k_ k_ (q_uidx (t := 36) (x := (.tmp 21)) (ix := (.tmp 23)) (K := .i64) (i0 := ((i : Nat) : Int)) (m := i) (e := 107) 1 rfl k_ k_ k_ k_ k_ (by omega) x_) ?_
  refine RN.val _ k_ k_ (q_uload (T := 107) (x := (.tmp 26)) (m := i) (s := y3) (xs := toL (nv xs)) 1 rfl k_ k_ k_ x_) ?_
  refine RN.bq (no 2) [1, 5, 6, 7, 21, 22, 23] [] 5 [(1, sl y4 (toL (nv ys)).length), (5, .slice (some ⟨b5, 0, none⟩) (((toL (nv xs)).length) + ((toL (nv ys)).length)) (((toL (nv xs)).length) + ((toL (nv ys)).length))), (6, .int .i64 ((i : Nat) : Int)), (7, .int .u32 (((toL (nv xs)).getD i 0 : Nat) : Int)), (21, sl y3 (toL (nv xs)).length), (22, .int .i64 (((toL (nv xs)).length : Nat) : Int)), (23, .int .i64 ((i : Nat) : Int))] k_ ?_
  refine RN.fs k_ ?_
  refine RN.bq (no 1) [1, 5, 6, 7, 8, 21, 22, 23] [] 1 [(1, sl y4 (toL (nv ys)).length), (5, .slice (some ⟨b5, 0, none⟩) (((toL (nv xs)).length) + ((toL (nv ys)).length)) (((toL (nv xs)).length) + ((toL (nv ys)).length))), (6, .int .i64 ((i : Nat) : Int)), (7, .int .u32 (((toL (nv xs)).getD i 0 : Nat) : Int)), (8, .int .u64 0), (21, sl y3 (toL (nv xs)).length), (22, .int .i64 (((toL (nv xs)).length : Nat) : Int)), (23, .int .i64 ((i : Nat) : Int))] k_ ?_
  refine RN.fin k_ ?_
  refine J.seq ?_
  refine J.sreg ?_
  refine RN.bq (no 3) [1, 5, 6, 7, 8, 21, 22, 23, 28, 29, 30] [] 3 [(1, sl y4 (toL (nv ys)).length), (5, .slice (some ⟨b5, 0, none⟩) (((toL (nv xs)).length) + ((toL (nv ys)).length)) (((toL (nv xs)).length) + ((toL (nv ys)).length))), (6, .int .i64 ((i : Nat) : Int)), (7, .int .u32 (((toL (nv xs)).getD i 0 : Nat) : Int)), (8, .int .u64 0), (21, sl y3 (toL (nv xs)).length), (22, .int .i64 (((toL (nv xs)).length : Nat) : Int)), (23, .int .i64 ((i : Nat) : Int)), (28, sl y4 (toL (nv ys)).length), (29, .int .i64 (((toL (nv ys)).length : Nat) : Int)), (30, .int .i64 0)] k_ ?_
  refine RN.fin k_ ?_
  refine J.block ?_
  refine J.loop (ι := (Nat) × (List Nat) × (Nat)) (fun x => x.1 ≤ (toL (nv ys)).length ∧ MulJ (nv xs) (nv ys) x.2.1 i x.1 x.2.2) (fun x => (toL (nv ys)).length - x.1) (fun x => [(1, sl y4 (toL (nv ys)).length), (5, .slice (some ⟨b5, 0, none⟩) (((toL (nv xs)).length) + ((toL (nv ys)).length)) (((toL (nv xs)).length) + ((toL (nv ys)).length))), (6, .int .i64 ((i : Nat) : Int)), (7, .int .u32 (((toL (nv xs)).getD i 0 : Nat) : Int)), (8, .int .u64 ((x.2.2 : Nat) : Int)), (21, sl y3 (toL (nv xs)).length), (22, .int .i64 (((toL (nv xs)).length : Nat) : Int)), (23, .int .i64 ((i : Nat) : Int)), (28, sl y4 (toL (nv ys)).length), (29, .int .i64 (((toL (nv ys)).length : Nat) : Int)), (30, .int .i64 ((x.1 : Nat) : Int))]) (fun x => [(b5, .cells (encU x.2.1) 107 (0, 0))]) (fun x => [fU y4 (toL (nv ys)), fU y3 (toL (nv xs)), fU s xs, fU t ys]) (0, out, 0) [1, 5, 6, 7, 8, 21, 22, 23, 28, 29, 30] [0, 1, 2, 3] (⟨Nat.zero_le _, hI2.inner⟩) k_ (by first | rfl | (simp only [encQ_zero]; done) | (simp only [encQ_zero]; rfl)) (by rfl) (fun x8 hJ => ?_)
  obtain ⟨j, out, c⟩ := x8
  replace hJ : j ≤ (toL (nv ys)).length ∧ MulJ (nv xs) (nv ys) out i j c := hJ
  obtain ⟨hJ1, hJ2⟩ := hJ
  have hJ3 := hJ2.1
  have hJ4 := hJ2.2.2.1
  have hgb : (toL (nv ys)).getD j 0 < 4294967296 := (Lb_toL (nv ys)).getD j
  have hgo : out.getD (i + j) 0 < 4294967296 := hJ2.2.1.getD _
  have hxy := mul_bound hga hgb
  refine J.sreg ?_
  refine RN.bq (no 1) [1, 5, 6, 7, 8, 21, 22, 23, 28, 29, 30, 31] [] 1 [(1, sl y4 (toL (nv ys)).length), (5, .slice (some ⟨b5, 0, none⟩) (((toL (nv xs)).length) + ((toL (nv ys)).length)) (((toL (nv xs)).length) + ((toL (nv ys)).length))), (6, .int .i64 ((i : Nat) : Int)), (7, .int .u32 (((toL (nv xs)).getD i 0 : Nat) : Int)), (8, .int .u64 ((c : Nat) : Int)), (21, sl y3 (toL (nv xs)).length), (22, .int .i64 (((toL (nv xs)).length : Nat) : Int)), (23, .int .i64 ((i : Nat) : Int)), (28, sl y4 (toL (nv ys)).length), (29, .int .i64 (((toL (nv ys)).length : Nat) : Int)), (30, .int .i64 ((j : Nat) : Int)), (31, .bool (decide (((j : Nat) : Int) < (((toL (nv ys)).length : Nat) : Int))))] k_ ?_
  refine RN.fin k_ ?_
  refine J.seq ?_
  refine J.cond (decide (((j : Nat) : Int) < (((toL (nv ys)).length : Nat) : Int))) k_ (fun c9 => ?_) (fun c9 => ?_)
  ·replace c9 := of_decide_eq_true c9
   refine J.skip ?_
   refine KN.next ?_
   refine J.seq ?_
   refine J.block ?_
   refine J.sreg ?_
   refine RN.bq (no 1) [1, 5, 6, 7, 8, 21, 22, 23, 28, 29, 30, 32] [] 1 [(1, sl y4 (toL (nv ys)).length), (5, .slice (some ⟨b5, 0, none⟩) (((toL (nv xs)).length) + ((toL (nv ys)).length)) (((toL (nv xs)).length) + ((toL (nv ys)).length))), (6, .int .i64 ((i : Nat) : Int)), (7, .int .u32 (((toL (nv xs)).getD i 0 : Nat) : Int)), (8, .int .u64 ((c : Nat) : Int)), (21, sl y3 (toL (nv xs)).length), (22, .int .i64 (((toL (nv xs)).length : Nat) : Int)), (23, .int .i64 ((i : Nat) : Int)), (28, sl y4 (toL (nv ys)).length), (29, .int .i64 (((toL (nv ys)).length : Nat) : Int)), (30, .int .i64 ((j : Nat) : Int)), (32, .int .i64 ((j : Nat) : Int))] k_ ?_
   refine RN.val _ k_ k_ (q_uidx (t := 36) (x := (.tmp 28)) (ix := (.tmp 30)) (K := .i64) (i0 := ((j : Nat) : Int)) (m := j) (e := 107) 0 rfl k_ k_ k_ k_ k_ (by omega) x_) ?_
   refine RN.val _ k_ k_ (q_uload (T := 107) (x := (.tmp 33)) (m := j) (s := y4) (xs := toL (nv ys)) 0 rfl k_ k_ k_ x_) ?_
   refine RN.bq (no 2) [1, 5, 6, 7, 8, 9, 10, 21, 22, 23, 28, 29, 30] [] 5 [(1, sl y4 (toL (nv ys)).length), (5, .slice (some ⟨b5, 0, none⟩) (((toL (nv xs)).length) + ((toL (nv ys)).length)) (((toL (nv xs)).length) + ((toL (nv ys)).length))), (6, .int .i64 ((i : Nat) : Int)), (7, .int .u32 (((toL (nv xs)).getD i 0 : Nat) : Int)), (8, .int .u64 ((c : Nat) : Int)), (9, .int .i64 ((j : Nat) : Int)), (10, .int .u32 (((toL (nv ys)).getD j 0 : Nat) : Int)), (21, sl y3 (toL (nv xs)).length), (22, .int .i64 (((toL (nv xs)).length : Nat) : Int)), (23, .int .i64 ((i : Nat) : Int)), (28, sl y4 (toL (nv ys)).length), (29, .int .i64 (((toL (nv ys)).length : Nat) : Int)), (30, .int .i64 ((j : Nat) : Int))] k_ ?_
   refine RN.fs k_ ?_
   refine RN.bq (no 3) [1, 5, 6, 7, 9, 10, 21, 22, 23, 28, 29, 30, 35, 37] [] 3 [(1, sl y4 (toL (nv ys)).length), (5, .slice (some ⟨b5, 0, none⟩) (((toL (nv xs)).length) + ((toL (nv ys)).length)) (((toL (nv xs)).length) + ((toL (nv ys)).length))), (6, .int .i64 ((i : Nat) : Int)), (7, .int .u32 (((toL (nv xs)).getD i 0 : Nat) : Int)), (9, .int .i64 ((j : Nat) : Int)), (10, .int .u32 (((toL (nv ys)).getD j 0 : Nat) : Int)), (21, sl y3 (toL (nv xs)).length), (22, .int .i64 (((toL (nv xs)).length : Nat) : Int)), (23, .int .i64 ((i : Nat) : Int)), (28, sl y4 (toL (nv ys)).length), (29, .int .i64 (((toL (nv ys)).length : Nat) : Int)), (30, .int .i64 ((j : Nat) : Int)), (35, .int .u64 ((c : Nat) : Int)), (37, .int .u64 (IntKind.u64.wrap (((toL (nv xs)).getD i 0 : Nat) : Int)))] k_ ?_
   rw [show IntKind.u64.wrap (((toL (nv xs)).getD i 0 : Nat) : Int) = (((toL (nv xs)).getD i 0 : Nat) : Int) from uw64b ((toL (nv xs)).getD i 0) (by rfl) (by omega)]
   refine RN.bq (no 2) [1, 5, 6, 7, 9, 21, 22, 23, 28, 29, 30, 35, 37, 39] [] 5 [(1, sl y4 (toL (nv ys)).length), (5, .slice (some ⟨b5, 0, none⟩) (((toL (nv xs)).length) + ((toL (nv ys)).length)) (((toL (nv xs)).length) + ((toL (nv ys)).length))), (6, .int .i64 ((i : Nat) : Int)), (7, .int .u32 (((toL (nv xs)).getD i 0 : Nat) : Int)), (9, .int .i64 ((j : Nat) : Int)), (21, sl y3 (toL (nv xs)).length), (22, .int .i64 (((toL (nv xs)).length : Nat) : Int)), (23, .int .i64 ((i : Nat) : Int)), (28, sl y4 (toL (nv ys)).length), (29, .int .i64 (((toL (nv ys)).length : Nat) : Int)), (30, .int .i64 ((j : Nat) : Int)), (35, .int .u64 ((c : Nat) : Int)), (37, .int .u64 (((toL (nv xs)).getD i 0 : Nat) : Int)), (39, .int .u64 (IntKind.u64.wrap (((toL (nv ys)).getD j 0 : Nat) : Int)))] k_ ?_
   rw [show IntKind.u64.wrap (((toL (nv ys)).getD j 0 : Nat) : Int) = (((toL (nv ys)).getD j 0 : Nat) : Int) from uw64b ((toL (nv ys)).getD j 0) (by rfl) (by omega)]
   refine RN.bq (no 1) [1, 5, 6, 7, 9, 21, 22, 23, 28, 29, 30, 35, 40] [] 6 [(1, sl y4 (toL (nv ys)).length), (5, .slice (some ⟨b5, 0, none⟩) (((toL (nv xs)).length) + ((toL (nv ys)).length)) (((toL (nv xs)).length) + ((toL (nv ys)).length))), (6, .int .i64 ((i : Nat) : Int)), (7, .int .u32 (((toL (nv xs)).getD i 0 : Nat) : Int)), (9, .int .i64 ((j : Nat) : Int)), (21, sl y3 (toL (nv xs)).length), (22, .int .i64 (((toL (nv xs)).length : Nat) : Int)), (23, .int .i64 ((i : Nat) : Int)), (28, sl y4 (toL (nv ys)).length), (29, .int .i64 (((toL (nv ys)).length : Nat) : Int)), (30, .int .i64 ((j : Nat) : Int)), (35, .int .u64 ((c : Nat) : Int)), (40, .int .u64 (IntKind.u64.wrap ((((toL (nv xs)).getD i 0 : Nat) : Int) * (((toL (nv ys)).getD j 0 : Nat) : Int))))] k_ ?_
   rw [show IntKind.u64.wrap ((((toL (nv xs)).getD i 0 : Nat) : Int) * (((toL (nv ys)).getD j 0 : Nat) : Int)) = ((((toL (nv xs)).getD i 0) * ((toL (nv ys)).getD j 0) : Nat) : Int) from uw64b (((toL (nv xs)).getD i 0) * ((toL (nv ys)).getD j 0)) (by simp) (by omega)]
   refine RN.bq (no 4) [1, 5, 6, 7, 9, 21, 22, 23, 28, 29, 30, 35, 40, 41, 44] [] 10 [(1, sl y4 (toL (nv ys)).length), (5, .slice (some ⟨b5, 0, none⟩) (((toL (nv xs)).length) + ((toL (nv ys)).length)) (((toL (nv xs)).length) + ((toL (nv ys)).length))), (6, .int .i64 ((i : Nat) : Int)), (7, .int .u32 (((toL (nv xs)).getD i 0 : Nat) : Int)), (9, .int .i64 ((j : Nat) : Int)), (21, sl y3 (toL (nv xs)).length), (22, .int .i64 (((toL (nv xs)).length : Nat) : Int)), (23, .int .i64 ((i : Nat) : Int)), (28, sl y4 (toL (nv ys)).length), (29, .int .i64 (((toL (nv ys)).length : Nat) : Int)), (30, .int .i64 ((j : Nat) : Int)), (35, .int .u64 ((c : Nat) : Int)), (40, .int .u64 ((((toL (nv xs)).getD i 0) * ((toL (nv ys)).getD j 0) : Nat) : Int)), (41, .slice (some ⟨b5, 0, none⟩) (((toL (nv xs)).length) + ((toL (nv ys)).length)) (((toL (nv xs)).length) + ((toL (nv ys)).length))), (44, .int .i64 (IntKind.i64.wrap (((i : Nat) : Int) + ((j : Nat) : Int))))] k_ ?_
   rw [show IntKind.i64.wrap (((i : Nat) : Int) + ((j : Nat) : Int)) = ((i + j : Nat) : Int) from by rw [IntKind.wrap_i64]; omega]
   refine RN.val _ k_ k_ (q_oidx (t := 36) (x := (.tmp 41)) (ix := (.tmp 44)) (b := b5) (n := (((toL (nv xs)).length) + ((toL (nv ys)).length))) (c := (((toL (nv xs)).length) + ((toL (nv ys)).length))) (K := .i64) (i0 := ((i + j : Nat) : Int)) (m := i + j) (e := 107) (sz := 1) k_ k_ k_ k_ k_ (by omega) x_) ?_
   refine RN.val _ k_ k_ (q_oload (mi := 0) (T := 107) (x := (.tmp 45)) (m := i + j) (xs := out) rfl k_ k_ k_ x_) ?_
   refine RN.bq (no 1) [1, 5, 6, 7, 9, 21, 22, 23, 28, 29, 30, 35, 40, 47] [] 13 [(1, sl y4 (toL (nv ys)).length), (5, .slice (some ⟨b5, 0, none⟩) (((toL (nv xs)).length) + ((toL (nv ys)).length)) (((toL (nv xs)).length) + ((toL (nv ys)).length))), (6, .int .i64 ((i : Nat) : Int)), (7, .int .u32 (((toL (nv xs)).getD i 0 : Nat) : Int)), (9, .int .i64 ((j : Nat) : Int)), (21, sl y3 (toL (nv xs)).length), (22, .int .i64 (((toL (nv xs)).length : Nat) : Int)), (23, .int .i64 ((i : Nat) : Int)), (28, sl y4 (toL (nv ys)).length), (29, .int .i64 (((toL (nv ys)).length : Nat) : Int)), (30, .int .i64 ((j : Nat) : Int)), (35, .int .u64 ((c : Nat) : Int)), (40, .int .u64 ((((toL (nv xs)).getD i 0) * ((toL (nv ys)).getD j 0) : Nat) : Int)), (47, .int .u64 (IntKind.u64.wrap ((out.getD (i + j) 0 : Nat) : Int)))] k_ ?_
   rw [show IntKind.u64.wrap ((out.getD (i + j) 0 : Nat) : Int) = ((out.getD (i + j) 0 : Nat) : Int) from uw64b (out.getD (i + j) 0) (by rfl) (by omega)]
   refine RN.bq (no 1) [1, 5, 6, 7, 9, 21, 22, 23, 28, 29, 30, 35, 48] [] 14 [(1, sl y4 (toL (nv ys)).length), (5, .slice (some ⟨b5, 0, none⟩) (((toL (nv xs)).length) + ((toL (nv ys)).length)) (((toL (nv xs)).length) + ((toL (nv ys)).length))), (6, .int .i64 ((i : Nat) : Int)), (7, .int .u32 (((toL (nv xs)).getD i 0 : Nat) : Int)), (9, .int .i64 ((j : Nat) : Int)), (21, sl y3 (toL (nv xs)).length), (22, .int .i64 (((toL (nv xs)).length : Nat) : Int)), (23, .int .i64 ((i : Nat) : Int)), (28, sl y4 (toL (nv ys)).length), (29, .int .i64 (((toL (nv ys)).length : Nat) : Int)), (30, .int .i64 ((j : Nat) : Int)), (35, .int .u64 ((c : Nat) : Int)), (48, .int .u64 (IntKind.u64.wrap (((((toL (nv xs)).getD i 0) * ((toL (nv ys)).getD j 0) : Nat) : Int) + ((out.getD (i + j) 0 : Nat) : Int))))] k_ ?_
   rw [show IntKind.u64.wrap (((((toL (nv xs)).getD i 0) * ((toL (nv ys)).getD j 0) : Nat) : Int) + ((out.getD (i + j) 0 : Nat) : Int)) = (((((toL (nv xs)).getD i 0) * ((toL (nv ys)).getD j 0)) + (out.getD (i + j) 0) : Nat) : Int) from uw64b ((((toL (nv xs)).getD i 0) * ((toL (nv ys)).getD j 0)) + (out.getD (i + j) 0)) (by omega) (by omega)]
   refine RN.bq (no 1) [1, 5, 6, 7, 9, 21, 22, 23, 28, 29, 30, 49] [] 15 [(1, sl y4 (toL (nv ys)).length), (5, .slice (some ⟨b5, 0, none⟩) (((toL (nv xs)).length) + ((toL (nv ys)).length)) (((toL (nv xs)).length) + ((toL (nv ys)).length))), (6, .int .i64 ((i : Nat) : Int)), (7, .int .u32 (((toL (nv xs)).getD i 0 : Nat) : Int)), (9, .int .i64 ((j : Nat) : Int)), (21, sl y3 (toL (nv xs)).length), (22, .int .i64 (((toL (nv xs)).length : Nat) : Int)), (23, .int .i64 ((i : Nat) : Int)), (28, sl y4 (toL (nv ys)).length), (29, .int .i64 (((toL (nv ys)).length : Nat) : Int)), (30, .int .i64 ((j : Nat) : Int)), (49, .int .u64 (IntKind.u64.wrap (((c : Nat) : Int) + (((((toL (nv xs)).getD i 0) * ((toL (nv ys)).getD j 0)) + (out.getD (i + j) 0) : Nat) : Int))))] k_ ?_
   rw [show IntKind.u64.wrap (((c : Nat) : Int) + (((((toL (nv xs)).getD i 0) * ((toL (nv ys)).getD j 0)) + (out.getD (i + j) 0) : Nat) : Int)) = ((c + ((((toL (nv xs)).getD i 0) * ((toL (nv ys)).getD j 0)) + (out.getD (i + j) 0)) : Nat) : Int) from uw64b (c + ((((toL (nv xs)).getD i 0) * ((toL (nv ys)).getD j 0)) + (out.getD (i + j) 0))) (by omega) (by omega)]
   refine RN.bq (no 1) [1, 5, 6, 7, 8, 9, 21, 22, 23, 28, 29, 30] [] 16 [(1, sl y4 (toL (nv ys)).length), (5, .slice (some ⟨b5, 0, none⟩) (((toL (nv xs)).length) + ((toL (nv ys)).length)) (((toL (nv xs)).length) + ((toL (nv ys)).length))), (6, .int .i64 ((i : Nat) : Int)), (7, .int .u32 (((toL (nv xs)).getD i 0 : Nat) : Int)), (8, .int .u64 ((c + ((((toL (nv xs)).getD i 0) * ((toL (nv ys)).getD j 0)) + (out.getD (i + j) 0)) : Nat) : Int)), (9, .int .i64 ((j : Nat) : Int)), (21, sl y3 (toL (nv xs)).length), (22, .int .i64 (((toL (nv xs)).length : Nat) : Int)), (23, .int .i64 ((i : Nat) : Int)), (28, sl y4 (toL (nv ys)).length), (29, .int .i64 (((toL (nv ys)).length : Nat) : Int)), (30, .int .i64 ((j : Nat) : Int))] k_ ?_
   refine RN.fs k_ ?_
   refine RN.bq (no 4) [1, 5, 6, 7, 8, 21, 22, 23, 28, 29, 30, 50, 53] [] 4 [(1, sl y4 (toL (nv ys)).length), (5, .slice (some ⟨b5, 0, none⟩) (((toL (nv xs)).length) + ((toL (nv ys)).length)) (((toL (nv xs)).length) + ((toL (nv ys)).length))), (6, .int .i64 ((i : Nat) : Int)), (7, .int .u32 (((toL (nv xs)).getD i 0 : Nat) : Int)), (8, .int .u64 ((c + ((((toL (nv xs)).getD i 0) * ((toL (nv ys)).getD j 0)) + (out.getD (i + j) 0)) : Nat) : Int)), (21, sl y3 (toL (nv xs)).length), (22, .int .i64 (((toL (nv xs)).length : Nat) : Int)), (23, .int .i64 ((i : Nat) : Int)), (28, sl y4 (toL (nv ys)).length), (29, .int .i64 (((toL (nv ys)).length : Nat) : Int)), (30, .int .i64 ((j : Nat) : Int)), (50, .slice (some ⟨b5, 0, none⟩) (((toL (nv xs)).length) + ((toL (nv ys)).length)) (((toL (nv xs)).length) + ((toL (nv ys)).length))), (53, .int .i64 (IntKind.i64.wrap (((i : Nat) : Int) + ((j : Nat) : Int))))] k_ ?_
   rw [show IntKind.i64.wrap (((i : Nat) : Int) + ((j : Nat) : Int)) = ((i + j : Nat) : Int) from by rw [IntKind.wrap_i64]; omega]
   refine RN.bq (no 2) [1, 5, 6, 7, 8, 21, 22, 23, 28, 29, 30, 50, 53, 55] [] 6 [(1, sl y4 (toL (nv ys)).length), (5, .slice (some ⟨b5, 0, none⟩) (((toL (nv xs)).length) + ((toL (nv ys)).length)) (((toL (nv xs)).length) + ((toL (nv ys)).length))), (6, .int .i64 ((i : Nat) : Int)), (7, .int .u32 (((toL (nv xs)).getD i 0 : Nat) : Int)), (8, .int .u64 ((c + ((((toL (nv xs)).getD i 0) * ((toL (nv ys)).getD j 0)) + (out.getD (i + j) 0)) : Nat) : Int)), (21, sl y3 (toL (nv xs)).length), (22, .int .i64 (((toL (nv xs)).length : Nat) : Int)), (23, .int .i64 ((i : Nat) : Int)), (28, sl y4 (toL (nv ys)).length), (29, .int .i64 (((toL (nv ys)).length : Nat) : Int)), (30, .int .i64 ((j : Nat) : Int)), (50, .slice (some ⟨b5, 0, none⟩) (((toL (nv xs)).length) + ((toL (nv ys)).length)) (((toL (nv xs)).length) + ((toL (nv ys)).length))), (53, .int .i64 ((i + j : Nat) : Int)), (55, .int .u32 (IntKind.u32.wrap ((c + ((((toL (nv xs)).getD i 0) * ((toL (nv ys)).getD j 0)) + (out.getD (i + j) 0)) : Nat) : Int)))] k_ ?_
   rw [show IntKind.u32.wrap ((c + ((((toL (nv xs)).getD i 0) * ((toL (nv ys)).getD j 0)) + (out.getD (i + j) 0)) : Nat) : Int) = (((c + ((((toL (nv xs)).getD i 0) * ((toL (nv ys)).getD j 0)) + (out.getD (i + j) 0))) % 4294967296 : Nat) : Int) from uw32e (c + ((((toL (nv xs)).getD i 0) * ((toL (nv ys)).getD j 0)) + (out.getD (i + j) 0))) (by rfl)]
   refine RN.val _ k_ k_ (q_oidx (t := 36) (x := (.tmp 50)) (ix := (.tmp 53)) (b := b5) (n := (((toL (nv xs)).length) + ((toL (nv ys)).length))) (c := (((toL (nv xs)).length) + ((toL (nv ys)).length))) (K := .i64) (i0 := ((i + j : Nat) : Int)) (m := i + j) (e := 107) (sz := 1) k_ k_ k_ k_ k_ (by omega) x_) ?_
   refine RN.ot k_ k_ (ot_ustore (mi := 0) (T := 107) (x := (.tmp 56)) (y := (.tmp 55)) (b := b5) (m := i + j) (xs := out) (v := (((c + ((((toL (nv xs)).getD i 0) * ((toL (nv ys)).getD j 0)) + (out.getD (i + j) 0))) % 4294967296 : Nat) : Int)) (v0 := (c + ((((toL (nv xs)).getD i 0) * ((toL (nv ys)).getD j 0)) + (out.getD (i + j) 0))) % 4294967296) rfl k_ k_ k_ k_ k_ (by omega) x_) (fun _ _ => ?_)
   refine RN.fin k_ ?_
   refine J.regN ?_
   refine RN.bq (no 2) [1, 5, 6, 7, 21, 22, 23, 28, 29, 30, 58] [] 2 [(1, sl y4 (toL (nv ys)).length), (5, .slice (some ⟨b5, 0, none⟩) (((toL (nv xs)).length) + ((toL (nv ys)).length)) (((toL (nv xs)).length) + ((toL (nv ys)).length))), (6, .int .i64 ((i : Nat) : Int)), (7, .int .u32 (((toL (nv xs)).getD i 0 : Nat) : Int)), (21, sl y3 (toL (nv xs)).length), (22, .int .i64 (((toL (nv xs)).length : Nat) : Int)), (23, .int .i64 ((i : Nat) : Int)), (28, sl y4 (toL (nv ys)).length), (29, .int .i64 (((toL (nv ys)).length : Nat) : Int)), (30, .int .i64 ((j : Nat) : Int)), (58, .int .u64 (Int.fdiv ((c + ((((toL (nv xs)).getD i 0) * ((toL (nv ys)).getD j 0)) + (out.getD (i + j) 0)) : Nat) : Int) (2 ^ 32)))] k_ ?_
   rw [show Int.fdiv ((c + ((((toL (nv xs)).getD i 0) * ((toL (nv ys)).getD j 0)) + (out.getD (i + j) 0)) : Nat) : Int) (2 ^ 32) = (((c + ((((toL (nv xs)).getD i 0) * ((toL (nv ys)).getD j 0)) + (out.getD (i + j) 0))) / 2 ^ 32 : Nat) : Int) from fdivn _ _]
   refine RN.bq (no 1) [1, 5, 6, 7, 8, 21, 22, 23, 28, 29, 30] [] 3 [(1, sl y4 (toL (nv ys)).length), (5, .slice (some ⟨b5, 0, none⟩) (((toL (nv xs)).length) + ((toL (nv ys)).length)) (((toL (nv xs)).length) + ((toL (nv ys)).length))), (6, .int .i64 ((i : Nat) : Int)), (7, .int .u32 (((toL (nv xs)).getD i 0 : Nat) : Int)), (8, .int .u64 (((c + ((((toL (nv xs)).getD i 0) * ((toL (nv ys)).getD j 0)) + (out.getD (i + j) 0))) / 2 ^ 32 : Nat) : Int)), (21, sl y3 (toL (nv xs)).length), (22, .int .i64 (((toL (nv xs)).length : Nat) : Int)), (23, .int .i64 ((i : Nat) : Int)), (28, sl y4 (toL (nv ys)).length), (29, .int .i64 (((toL (nv ys)).length : Nat) : Int)), (30, .int .i64 ((j : Nat) : Int))] k_ ?_
   refine RN.done k_ ?_
   refine KN.blk ?_
   refine KN.next ?_
   refine J.regN ?_
   refine RN.bq (no 1) [1, 5, 6, 7, 8, 21, 22, 23, 28, 29, 59] [] 1 [(1, sl y4 (toL (nv ys)).length), (5, .slice (some ⟨b5, 0, none⟩) (((toL (nv xs)).length) + ((toL (nv ys)).length)) (((toL (nv xs)).length) + ((toL (nv ys)).length))), (6, .int .i64 ((i : Nat) : Int)), (7, .int .u32 (((toL (nv xs)).getD i 0 : Nat) : Int)), (8, .int .u64 (((c + ((((toL (nv xs)).getD i 0) * ((toL (nv ys)).getD j 0)) + (out.getD (i + j) 0))) / 2 ^ 32 : Nat) : Int)), (21, sl y3 (toL (nv xs)).length), (22, .int .i64 (((toL (nv xs)).length : Nat) : Int)), (23, .int .i64 ((i : Nat) : Int)), (28, sl y4 (toL (nv ys)).length), (29, .int .i64 (((toL (nv ys)).length : Nat) : Int)), (59, .int .i64 (IntKind.i64.wrap (((j : Nat) : Int) + 1)))] k_ ?_
   rw [show IntKind.i64.wrap (((j : Nat) : Int) + 1) = ((j + 1 : Nat) : Int) from by rw [IntKind.wrap_i64]; omega]
   refine RN.bq (no 1) [1, 5, 6, 7, 8, 21, 22, 23, 28, 29, 30] [] 2 [(1, sl y4 (toL (nv ys)).length), (5, .slice (some ⟨b5, 0, none⟩) (((toL (nv xs)).length) + ((toL (nv ys)).length)) (((toL (nv xs)).length) + ((toL (nv ys)).length))), (6, .int .i64 ((i : Nat) : Int)), (7, .int .u32 (((toL (nv xs)).getD i 0 : Nat) : Int)), (8, .int .u64 (((c + ((((toL (nv xs)).getD i 0) * ((toL (nv ys)).getD j 0)) + (out.getD (i + j) 0))) / 2 ^ 32 : Nat) : Int)), (21, sl y3 (toL (nv xs)).length), (22, .int .i64 (((toL (nv xs)).length : Nat) : Int)), (23, .int .i64 ((i : Nat) : Int)), (28, sl y4 (toL (nv ys)).length), (29, .int .i64 (((toL (nv ys)).length : Nat) : Int)), (30, .int .i64 ((j + 1 : Nat) : Int))] k_ ?_
   refine RN.done k_ ?_
   refine KN.roundE (j + 1, out.set (i + j) ((c + ((((toL (nv xs)).getD i 0) * ((toL (nv ys)).getD j 0)) + (out.getD (i + j) 0))) % 4294967296), (c + ((((toL (nv xs)).getD i 0) * ((toL (nv ys)).getD j 0)) + (out.getD (i + j) 0))) / 2 ^ 32) [1, 5, 6, 7, 8, 21, 22, 23, 28, 29, 30] [0, 1, 2, 3] (l2 := [(1, sl y4 (toL (nv ys)).length), (5, .slice (some ⟨b5, 0, none⟩) (((toL (nv xs)).length) + ((toL (nv ys)).length)) (((toL (nv xs)).length) + ((toL (nv ys)).length))), (6, .int .i64 ((i : Nat) : Int)), (7, .int .u32 (((toL (nv xs)).getD i 0 : Nat) : Int)), (8, .int .u64 (((c + ((((toL (nv xs)).getD i 0) * ((toL (nv ys)).getD j 0)) + (out.getD (i + j) 0))) / 2 ^ 32 : Nat) : Int)), (21, sl y3 (toL (nv xs)).length), (22, .int .i64 (((toL (nv xs)).length : Nat) : Int)), (23, .int .i64 ((i : Nat) : Int)), (28, sl y4 (toL (nv ys)).length), (29, .int .i64 (((toL (nv ys)).length : Nat) : Int)), (30, .int .i64 ((j + 1 : Nat) : Int))]) (by (try dsimp only); omega) (by (try dsimp only); exact ⟨by omega, hJ2.step (by omega) (by omega) rfl⟩) k_ (by rfl) (by rfl) (by rfl)
  ·replace c9 := of_decide_eq_false c9
   refine J.exit (KX.next (KX.next (KX.hit ?_)))
   refine KN.next ?_
   refine J.regN ?_
   refine RN.bq (no 5) [1, 5, 8, 21, 22, 23, 60, 64] [] 5 [(1, sl y4 (toL (nv ys)).length), (5, .slice (some ⟨b5, 0, none⟩) (((toL (nv xs)).length) + ((toL (nv ys)).length)) (((toL (nv xs)).length) + ((toL (nv ys)).length))), (8, .int .u64 ((c : Nat) : Int)), (21, sl y3 (toL (nv xs)).length), (22, .int .i64 (((toL (nv xs)).length : Nat) : Int)), (23, .int .i64 ((i : Nat) : Int)), (60, .slice (some ⟨b5, 0, none⟩) (((toL (nv xs)).length) + ((toL (nv ys)).length)) (((toL (nv xs)).length) + ((toL (nv ys)).length))), (64, .int .i64 (IntKind.i64.wrap (((i : Nat) : Int) + (((toL (nv ys)).length : Nat) : Int))))] k_ ?_
   rw [show IntKind.i64.wrap (((i : Nat) : Int) + (((toL (nv ys)).length : Nat) : Int)) = ((i + ((toL (nv ys)).length) : Nat) : Int) from by rw [IntKind.wrap_i64]; omega]
   refine RN.bq (no 2) [1, 5, 21, 22, 23, 60, 64, 66] [] 7 [(1, sl y4 (toL (nv ys)).length), (5, .slice (some ⟨b5, 0, none⟩) (((toL (nv xs)).length) + ((toL (nv ys)).length)) (((toL (nv xs)).length) + ((toL (nv ys)).length))), (21, sl y3 (toL (nv xs)).length), (22, .int .i64 (((toL (nv xs)).length : Nat) : Int)), (23, .int .i64 ((i : Nat) : Int)), (60, .slice (some ⟨b5, 0, none⟩) (((toL (nv xs)).length) + ((toL (nv ys)).length)) (((toL (nv xs)).length) + ((toL (nv ys)).length))), (64, .int .i64 ((i + ((toL (nv ys)).length) : Nat) : Int)), (66, .int .u32 (IntKind.u32.wrap ((c : Nat) : Int)))] k_ ?_
   rw [show IntKind.u32.wrap ((c : Nat) : Int) = ((c % 4294967296 : Nat) : Int) from uw32e c (by rfl)]
   refine RN.val _ k_ k_ (q_oidx (t := 36) (x := (.tmp 60)) (ix := (.tmp 64)) (b := b5) (n := (((toL (nv xs)).length) + ((toL (nv ys)).length))) (c := (((toL (nv xs)).length) + ((toL (nv ys)).length))) (K := .i64) (i0 := ((i + ((toL (nv ys)).length) : Nat) : Int)) (m := i + ((toL (nv ys)).length)) (e := 107) (sz := 1) k_ k_ k_ k_ k_ (by omega) x_) ?_
   refine RN.ot k_ k_ (ot_ustore (mi := 0) (T := 107) (x := (.tmp 67)) (y := (.tmp 66)) (b := b5) (m := i + ((toL (nv ys)).length)) (xs := out) (v := ((c % 4294967296 : Nat) : Int)) (v0 := c % 4294967296) rfl k_ k_ k_ k_ k_ (by omega) x_) (fun _ _ => ?_)
   refine RN.done k_ ?_
   refine KN.blk ?_
   refine KN.next ?_
   refine J.regN ?_
   refine RN.bq (no 1) [1, 5, 21, 22, 68] [] 1 [(1, sl y4 (toL (nv ys)).length), (5, .slice (some ⟨b5, 0, none⟩) (((toL (nv xs)).length) + ((toL (nv ys)).length)) (((toL (nv xs)).length) + ((toL (nv ys)).length))), (21, sl y3 (toL (nv xs)).length), (22, .int .i64 (((toL (nv xs)).length : Nat) : Int)), (68, .int .i64 (IntKind.i64.wrap (((i : Nat) : Int) + 1)))] k_ ?_
   rw [show IntKind.i64.wrap (((i : Nat) : Int) + 1) = ((i + 1 : Nat) : Int) from by rw [IntKind.wrap_i64]; omega]
   refine RN.bq (no 1) [1, 5, 21, 22, 23] [] 2 [(1, sl y4 (toL (nv ys)).length), (5, .slice (some ⟨b5, 0, none⟩) (((toL (nv xs)).length) + ((toL (nv ys)).length)) (((toL (nv xs)).length) + ((toL (nv ys)).length))), (21, sl y3 (toL (nv xs)).length), (22, .int .i64 (((toL (nv xs)).length : Nat) : Int)), (23, .int .i64 ((i + 1 : Nat) : Int))] k_ ?_
   refine RN.done k_ ?_
   refine KN.roundE (i + 1, out.set (i + ((toL (nv ys)).length)) (c % 4294967296)) [1, 5, 21, 22, 23] [0, 1, 2, 3] (l2 := [(1, sl y4 (toL (nv ys)).length), (5, .slice (some ⟨b5, 0, none⟩) (((toL (nv xs)).length) + ((toL (nv ys)).length)) (((toL (nv xs)).length) + ((toL (nv ys)).length))), (21, sl y3 (toL (nv xs)).length), (22, .int .i64 (((toL (nv xs)).length : Nat) : Int)), (23, .int .i64 ((i + 1 : Nat) : Int))]) (by (try dsimp only); omega) (by (try dsimp only); exact ⟨by omega, by rw [show (toL (nv ys)).length = j from by omega]; exact hJ2.done (by omega) (by omega)⟩) k_ (by rfl) (by rfl) (by rfl)
 ·replace c7 := of_decide_eq_false c7
  refine J.exit (KX.next (KX.next (KX.hit ?_)))
  refine KN.next ?_
  refine J.sreg ?_
  refine RN.bq (no 1) [69] [] 1 [(69, .slice (some ⟨b5, 0, none⟩) (((toL (nv xs)).length) + ((toL (nv ys)).length)) (((toL (nv xs)).length) + ((toL (nv ys)).length)))] k_ ?_
  refine RN.share 0 rfl rfl ?_
  refine RN.also (fU (⟨some ⟨b5, 0, none⟩, ((toL (nv xs)).length) + ((toL (nv ys)).length)⟩ : SA) out) (fun w h => fU_own (h _ (.head _)) x_ x_) ?_
  refine RN.turn 69 (v := .slice (some ⟨b5, 0, none⟩) (((toL (nv xs)).length) + ((toL (nv ys)).length)) (((toL (nv xs)).length) + ((toL (nv ys)).length))) (v' := sl (⟨some ⟨b5, 0, none⟩, ((toL (nv xs)).length) + ((toL (nv ys)).length)⟩ : SA) out.length) k_ (sl_eq x_) ?_
  refine RN.call (natural_trimmed (⟨some ⟨b5, 0, none⟩, ((toL (nv xs)).length) + ((toL (nv ys)).length)⟩ : SA) out y_natural_Mul) [0] k_ k_ k_ rfl (fun y10 _ => ?_)
  refine RN.bq (no 1) [4] [] 3 [(4, sl y10 (toL (lv out)).length)] k_ ?_
  refine RN.fin k_ ?_
  have e_1 : (toL (nv xs * nv ys)) = (toL (lv out)) := by rw [hI2.done (by omega)]
  refine J.ret (KR.ret (v := sl y10 (toL (lv out)).length) (y10) [none] [0] [] k_ v1_ (trivial) v1_)
theorem natural_Mul_c (s : SA) (xs' : Nat) (t : SA) (ys' : Nat) (hxl : (toL xs').length ≤ 1099511627776) (hyl : (toL ys').length ≤ 1099511627776) : Spec Tryz.prog 108 #[sl s (toL xs').length, sl t (toL ys').length] [fU s (toL xs'), fU t (toL ys')] (ι := SA) (fun y => sl y (toL (xs' * ys')).length) (fun y => True) (fun y => [fU y (toL (xs' * ys'))]) := by
  have H := natural_Mul s (toL xs') t (toL ys') (Lb_toL _) (Lb_toL _) (by first | exact hxl | simpa only [nv_toL, nv_toL] using hxl) (by first | exact hyl | simpa only [nv_toL, nv_toL] using hyl)
  first | exact H | (simp only [nv_toL, lv_toL, validU_toL] at H; exact H)
theorem bits_Div32 (hi : Nat) (lo : Nat) (y0 : Nat) (h1 : hi < y0) (h2 : lo < 4294967296) (h3 : y0 < 4294967296) : Spec Tryz.prog 163 #[.int .u32 ((hi : Nat) : Int), .int .u32 ((lo : Nat) : Int), .int .u32 ((y0 : Nat) : Int)] [] (ι := Unit) (fun y => .tuple #[.int .u32 (((hi * 2 ^ 32 + lo) / y0 : Nat) : Int), .int .u32 (((hi * 2 ^ 32 + lo) % y0 : Nat) : Int)]) (fun y => True) (fun y => []) := by
 refine Spec.of_body _ (fn := Tryz.f163) k_ rfl k_ (fun X w0 => ?_)
 have hq := div32_q h1 h2
 have hr : (hi * 2 ^ 32 + lo) % y0 < y0 := Nat.mod_lt _ (by omega)
 refine J.sreg ?_
 refine RN.bq (no 2) [0, 1, 2] [] 2 [(0, .int .u32 ((hi : Nat) : Int)), (1, .int .u32 ((lo : Nat) : Int)), (2, .int .u32 ((y0 : Nat) : Int))] k_ ?_
 refine RN.fin k_ ?_
 refine J.seq ?_
 refine J.sreg ?_
 refine RN.bq (no 3) [0, 1, 2, 11] [] 3 [(0, .int .u32 ((hi : Nat) : Int)), (1, .int .u32 ((lo : Nat) : Int)), (2, .int .u32 ((y0 : Nat) : Int)), (11, .bool ((((y0 : Nat) : Int) : Int) != 0))] k_ ?_
 refine RN.split 11 ((((y0 : Nat) : Int) : Int) != 0) k_ (fun c1 => ?_) (fun c1 => ?_)
 ·replace c1 := bne_iff_ne.1 c1
  refine RN.bq (no 4) [0, 1, 2, 15] [] 7 [(0, .int .u32 ((hi : Nat) : Int)), (1, .int .u32 ((lo : Nat) : Int)), (2, .int .u32 ((y0 : Nat) : Int)), (15, .bool (decide (((y0 : Nat) : Int) ≤ ((hi : Nat) : Int))))] k_ ?_
  refine RN.fin k_ ?_
  refine J.cond (decide (((y0 : Nat) : Int) ≤ ((hi : Nat) : Int))) k_ (fun c2 => ?_) (fun c2 => ?_)
  ·replace c2 := of_decide_eq_true c2
   exact absurd c2 (by omega)
  ·replace c2 := of_decide_eq_false c2
   refine J.skip ?_
   refine KN.next ?_
   refine J.sreg ?_
   refine RN.bq (no 2) [1, 2, 18] [] 2 [(1, .int .u32 ((lo : Nat) : Int)), (2, .int .u32 ((y0 : Nat) : Int)), (18, .int .u64 (IntKind.u64.wrap ((hi : Nat) : Int)))] k_ ?_
   rw [show IntKind.u64.wrap ((hi : Nat) : Int) = ((hi : Nat) : Int) from uw64b hi (by rfl) (by omega)]
   refine RN.bq (no 1) [1, 2, 19] [] 3 [(1, .int .u32 ((lo : Nat) : Int)), (2, .int .u32 ((y0 : Nat) : Int)), (19, .int .u64 (IntKind.u64.wrap (((hi : Nat) : Int) * 2 ^ 32)))] k_ ?_
   rw [show IntKind.u64.wrap (((hi : Nat) : Int) * 2 ^ 32) = ((hi * 2 ^ 32 : Nat) : Int) from uw64b (hi * 2 ^ 32) (by simp) (by omega)]
   refine RN.bq (no 2) [2, 19, 21] [] 5 [(2, .int .u32 ((y0 : Nat) : Int)), (19, .int .u64 ((hi * 2 ^ 32 : Nat) : Int)), (21, .int .u64 (IntKind.u64.wrap ((lo : Nat) : Int)))] k_ ?_
   rw [show IntKind.u64.wrap ((lo : Nat) : Int) = ((lo : Nat) : Int) from uw64b lo (by rfl) (by omega)]
   refine RN.bq (no 1) [2, 22] [] 6 [(2, .int .u32 ((y0 : Nat) : Int)), (22, .int .u64 (IntKind.u64.wrap ((BitVec.ofInt 64 ((hi * 2 ^ 32 : Nat) : Int) ||| BitVec.ofInt 64 ((lo : Nat) : Int)).toNat : Nat)))] k_ ?_
   rw [show (IntKind.u64.wrap ((BitVec.ofInt 64 ((hi * 2 ^ 32 : Nat) : Int) ||| BitVec.ofInt 64 ((lo : Nat) : Int)).toNat : Nat)) = ((hi * 2 ^ 32 + lo : Nat) : Int) from by rw [bv_or (by omega) (by omega), or_shift _ _ 32 (by omega)]; exact uw64b _ rfl (by omega)]
   refine RN.bq (no 1) [2, 8] [] 7 [(2, .int .u32 ((y0 : Nat) : Int)), (8, .int .u64 ((hi * 2 ^ 32 + lo : Nat) : Int))] k_ ?_
   refine RN.fin k_ ?_
   refine J.seq ?_
   refine J.regD k_ [] ?_
   refine RD.bq (nl [0, 1, 2]) [2, 8, 23, 25] [] [(2, .int .u32 ((y0 : Nat) : Int)), (8, .int .u64 ((hi * 2 ^ 32 + lo : Nat) : Int)), (23, .int .u64 ((hi * 2 ^ 32 + lo : Nat) : Int)), (25, .int .u64 (IntKind.u64.wrap ((y0 : Nat) : Int)))] k_ k_ ?_
   rw [show IntKind.u64.wrap ((y0 : Nat) : Int) = ((y0 : Nat) : Int) from uw64b y0 (by rfl) (by omega)]
   refine RD.bq (nl [5, 6, 7]) [23, 25, 28, 30] [] [(23, .int .u64 ((hi * 2 ^ 32 + lo : Nat) : Int)), (25, .int .u64 ((y0 : Nat) : Int)), (28, .int .u64 ((hi * 2 ^ 32 + lo : Nat) : Int)), (30, .int .u64 (IntKind.u64.wrap ((y0 : Nat) : Int)))] k_ k_ ?_
   rw [show IntKind.u64.wrap ((y0 : Nat) : Int) = ((y0 : Nat) : Int) from uw64b y0 (by rfl) (by omega)]
   refine RD.val (i := 3) _ k_ k_ k_ (q_quo (T := 109) (T' := 109) (x := (.tmp 23)) (y := (.tmp 25)) (k := .u64) (a := ((hi * 2 ^ 32 + lo : Nat) : Int)) (b := ((y0 : Nat) : Int)) k_ k_ k_ (by omega)) ?_
   rw [show IntKind.u64.wrap (Int.tdiv ((hi * 2 ^ 32 + lo : Nat) : Int) ((y0 : Nat) : Int)) = (((hi * 2 ^ 32 + lo) / y0 : Nat) : Int) from uw64b ((hi * 2 ^ 32 + lo) / y0) (by rw [show (((y0 : Nat) : Int) : Int) = ((y0 : Nat) : Int) from rfl, tdivn]) (by omega)]
   refine RD.bq (nl [4]) [27, 28, 30] [] [(27, .int .u32 (IntKind.u32.wrap (((hi * 2 ^ 32 + lo) / y0 : Nat) : Int))), (28, .int .u64 ((hi * 2 ^ 32 + lo : Nat) : Int)), (30, .int .u64 ((y0 : Nat) : Int))] k_ k_ ?_
   rw [show IntKind.u32.wrap (((hi * 2 ^ 32 + lo) / y0 : Nat) : Int) = (((hi * 2 ^ 32 + lo) / y0 : Nat) : Int) from uw32b ((hi * 2 ^ 32 + lo) / y0) (by rfl) (by omega)]
   refine RD.bq (nl [10]) [6, 28, 30] [] [(6, .int .u32 (((hi * 2 ^ 32 + lo) / y0 : Nat) : Int)), (28, .int .u64 ((hi * 2 ^ 32 + lo : Nat) : Int)), (30, .int .u64 ((y0 : Nat) : Int))] k_ k_ ?_
   refine RD.val (i := 8) _ k_ k_ k_ (q_rem (T := 109) (T' := 109) (x := (.tmp 28)) (y := (.tmp 30)) (k := .u64) (a := ((hi * 2 ^ 32 + lo : Nat) : Int)) (b := ((y0 : Nat) : Int)) k_ k_ k_ (by omega)) ?_
   rw [show Int.tmod ((hi * 2 ^ 32 + lo : Nat) : Int) ((y0 : Nat) : Int) = (((hi * 2 ^ 32 + lo) % y0 : Nat) : Int) from by rw [show (((y0 : Nat) : Int) : Int) = ((y0 : Nat) : Int) from rfl, tmodn]]
   refine RD.bq (nl [9]) [6, 32] [] [(6, .int .u32 (((hi * 2 ^ 32 + lo) / y0 : Nat) : Int)), (32, .int .u32 (IntKind.u32.wrap (((hi * 2 ^ 32 + lo) % y0 : Nat) : Int)))] k_ k_ ?_
   rw [show IntKind.u32.wrap (((hi * 2 ^ 32 + lo) % y0 : Nat) : Int) = (((hi * 2 ^ 32 + lo) % y0 : Nat) : Int) from uw32b ((hi * 2 ^ 32 + lo) % y0) (by rfl) (by omega)]
   refine RD.bq (nl [11]) [6, 7] [] [(6, .int .u32 (((hi * 2 ^ 32 + lo) / y0 : Nat) : Int)), (7, .int .u32 (((hi * 2 ^ 32 + lo) % y0 : Nat) : Int))] k_ k_ ?_
   refine RD.done k_ ?_
   refine KN.next ?_
   refine J.ret (KR.ret (v := .tuple #[.int .u32 (((hi * 2 ^ 32 + lo) / y0 : Nat) : Int), .int .u32 (((hi * 2 ^ 32 + lo) % y0 : Nat) : Int)]) (()) [none, none] [] [] k_ rfl (trivial) rfl)
 ·replace c1 := bne_eq_false_iff_eq.1 c1
  exact absurd c1 (by omega)
theorem y_natural_short {p : Prop} (h : p := by first | assumption | exact Lb_toL _ | omega | (simp; done) | exact hI2.2.1) : p := h
theorem natural_short (s : SA) (a : Nat) (d : Nat) (hd0 : 0 < d) (hd : d < 4294967296) (hxl : (toL a).length ≤ 1099511627776) : Spec Tryz.prog 159 #[sl s (toL a).length, .int .u32 ((d : Nat) : Int)] [fU s (toL a)] (ι := SA) (fun y => .tuple #[sl y (toL (a / d)).length, .int .u32 ((a % d : Nat) : Int)]) (fun y => True) (fun y => [fU y (toL (a / d))]) := by
 refine Spec.of_body _ (fn := Tryz.f159) k_ rfl k_ (fun X w0 => ?_)
 refine J.fact (φ := (toL a).length ≤ 140737488355328) (fun w h => by have := (h _ (.head _)).1; omega) (fun hl1 => ?_)
 refine J.sreg ?_
 refine RN.bq (no 2) [0, 1, 5] [] 2 [(0, sl s (toL a).length), (1, .int .u32 ((d : Nat) : Int)), (5, .int .u32 0)] k_ ?_
 refine RN.fs k_ ?_
 refine RN.bq (no 2) [0, 1, 5, 8] [] 2 [(0, sl s (toL a).length), (1, .int .u32 ((d : Nat) : Int)), (5, .int .u32 0), (8, .int .i64 (((toL a).length : Nat) : Int))] k_ ?_
 refine RN.make (e := 0) (m := ((toL a).length)) (.cells (encU (List.replicate ((toL a).length) 0)) 107 (0, 0)) k_ k_ (fun w => (q_make1 (t := 36) (m := ((toL a).length)) (by_ := 4) (K := .i64) (K' := .i64) (n1 := (((toL a).length : Nat) : Int)) (n2 := (((toL a).length : Nat) : Int)) (x := (.tmp 8)) (y := (.tmp 8)) (e := 107) k_ k_ k_ (by omega) (by omega) k_ k_ rfl (by omega) (by omega) w).trans (by rw [encU_rep])) (fun b2 => ?_)
 refine RN.bq (no 1) [0, 1, 4, 5] [] 4 [(0, sl s (toL a).length), (1, .int .u32 ((d : Nat) : Int)), (4, .slice (some ⟨b2, 0, none⟩) ((toL a).length) ((toL a).length)), (5, .int .u32 0)] k_ ?_
 refine RN.fin k_ ?_
 refine J.seq ?_
 refine J.sreg ?_
 refine RN.bq (no 3) [0, 1, 4, 5, 12] [] 3 [(0, sl s (toL a).length), (1, .int .u32 ((d : Nat) : Int)), (4, .slice (some ⟨b2, 0, none⟩) ((toL a).length) ((toL a).length)), (5, .int .u32 0), (12, .int .i64 (IntKind.i64.wrap ((((toL a).length : Nat) : Int) - 1)))] k_ ?_
 rw [show IntKind.i64.wrap ((((toL a).length : Nat) : Int) - 1) = ((((toL a).length : Nat) : Int) - 1) from by rw [IntKind.wrap_i64]; omega]
 refine RN.bq (no 1) [0, 1, 4, 5, 6] [] 4 [(0, sl s (toL a).length), (1, .int .u32 ((d : Nat) : Int)), (4, .slice (some ⟨b2, 0, none⟩) ((toL a).length) ((toL a).length)), (5, .int .u32 0), (6, .int .i64 ((((toL a).length : Nat) : Int) - 1))] k_ ?_
 refine RN.fin k_ ?_
 refine J.block ?_
 refine J.loop (ι := (Nat) × (List Nat) × (Nat)) (fun x => x.1 ≤ (toL a).length ∧ ShoI a d x.2.1 x.1 x.2.2) (fun x => x.1) (fun x => [(0, sl s (toL a).length), (1, .int .u32 ((d : Nat) : Int)), (4, .slice (some ⟨b2, 0, none⟩) ((toL a).length) ((toL a).length)), (5, .int .u32 ((x.2.2 : Nat) : Int)), (6, .int .i64 ((x.1 : Int) - 1))]) (fun x => [(b2, .cells (encU x.2.1) 107 (0, 0))]) (fun x => [fU s (toL a)]) ((toL a).length, List.replicate ((toL a).length) 0, 0) [0, 1, 4, 5, 6] [0] (⟨Nat.le_refl _, ShoI.start hd0⟩) k_ (by first | rfl | (simp only [encQ_zero]; done) | (simp only [encQ_zero]; rfl)) (by rfl) (fun x3 hI => ?_)
 obtain ⟨m, out, r⟩ := x3
 replace hI : m ≤ (toL a).length ∧ ShoI a d out m r := hI
 obtain ⟨hI1, hI2⟩ := hI
 have hI3 := hI2.1
 have hI4 := hI2.2.2.1
 have hga : (toL a).getD ((m : Int) - 1).toNat 0 < 4294967296 := (Lb_toL a).getD _
 refine J.seq ?_
 refine J.sreg ?_
 refine RN.bq (no 2) [0, 1, 4, 5, 6, 14] [] 2 [(0, sl s (toL a).length), (1, .int .u32 ((d : Nat) : Int)), (4, .slice (some ⟨b2, 0, none⟩) ((toL a).length) ((toL a).length)), (5, .int .u32 ((r : Nat) : Int)), (6, .int .i64 ((m : Int) - 1)), (14, .bool (decide (((m : Int) - 1) ≥ 0)))] k_ ?_
 refine RN.fin k_ ?_
 refine J.cond (decide (((m : Int) - 1) ≥ 0)) k_ (fun c4 => ?_) (fun c4 => ?_)
 ·replace c4 := of_decide_eq_true c4
  refine J.skip ?_
  refine KN.next ?_
  refine J.seq ?_
  refine J.block ?_
  refine J.regN ?_
  refine RN.bq (no 5) [0, 1, 4, 6, 18, 19, 20, 21, 22] [] 5 [(0, sl s (toL a).length), (1, .int .u32 ((d : Nat) : Int)), (4, .slice (some ⟨b2, 0, none⟩) ((toL a).length) ((toL a).length)), (6, .int .i64 ((m : Int) - 1)), (18, .slice (some ⟨b2, 0, none⟩) ((toL a).length) ((toL a).length)), (19, .int .i64 ((m : Int) - 1)), (20, .int .u32 ((r : Nat) : Int)), (21, sl s (toL a).length), (22, .int .i64 ((m : Int) - 1))] k_ ?_
  refine RN.val _ k_ k_ (q_uidx (t := 36) (x := (.tmp 21)) (ix := (.tmp 22)) (K := .i64) (i0 := (m : Int) - 1) (m := ((m : Int) - 1).toNat) (e := 107) 0 rfl k_ k_ k_ k_ k_ (by omega) x_) ?_
  refine RN.val _ k_ k_ (q_uload (T := 107) (x := (.tmp 23)) (m := ((m : Int) - 1).toNat) (s := s) (xs := toL a) 0 rfl k_ k_ k_ x_) ?_
  refine RN.bq (no 1) [0, 1, 4, 6, 18, 19, 20, 24, 25] [] 8 [(0, sl s (toL a).length), (1, .int .u32 ((d : Nat) : Int)), (4, .slice (some ⟨b2, 0, none⟩) ((toL a).length) ((toL a).length)), (6, .int .i64 ((m : Int) - 1)), (18, .slice (some ⟨b2, 0, none⟩) ((toL a).length) ((toL a).length)), (19, .int .i64 ((m : Int) - 1)), (20, .int .u32 ((r : Nat) : Int)), (24, .int .u32 (((toL a).getD (((m : Int) - 1).toNat) 0 : Nat) : Int)), (25, .int .u32 ((d : Nat) : Int))] k_ ?_
  refine RN.call (bits_Div32 r ((toL a).getD (((m : Int) - 1).toNat) 0) d y_natural_short y_natural_short y_natural_short) [] k_ k_ k_ rfl (fun y5 _ => ?_)
  refine RN.bq (no 3) [0, 1, 4, 6, 18, 19, 27, 28] [] 12 [(0, sl s (toL a).length), (1, .int .u32 ((d : Nat) : Int)), (4, .slice (some ⟨b2, 0, none⟩) ((toL a).length) ((toL a).length)), (6, .int .i64 ((m : Int) - 1)), (18, .slice (some ⟨b2, 0, none⟩) ((toL a).length) ((toL a).length)), (19, .int .i64 ((m : Int) - 1)), (27, .int .u32 (((r * 2 ^ 32 + ((toL a).getD (((m : Int) - 1).toNat) 0)) / d : Nat) : Int)), (28, .int .u32 (((r * 2 ^ 32 + ((toL a).getD (((m : Int) - 1).toNat) 0)) % d : Nat) : Int))] k_ ?_
  refine RN.val _ k_ k_ (q_oidx (t := 36) (x := (.tmp 18)) (ix := (.tmp 19)) (b := b2) (n := ((toL a).length)) (c := ((toL a).length)) (K := .i64) (i0 := (m : Int) - 1) (m := ((m : Int) - 1).toNat) (e := 107) (sz := 1) k_ k_ k_ k_ k_ (by omega) x_) ?_
  refine RN.ot k_ k_ (ot_ustore (mi := 0) (T := 107) (x := (.tmp 29)) (y := (.tmp 27)) (b := b2) (m := ((m : Int) - 1).toNat) (xs := out) (v := (((r * 2 ^ 32 + ((toL a).getD (((m : Int) - 1).toNat) 0)) / d : Nat) : Int)) (v0 := (r * 2 ^ 32 + ((toL a).getD (((m : Int) - 1).toNat) 0)) / d) rfl k_ k_ k_ k_ k_ (by omega) x_) (fun _ _ => ?_)
  refine RN.bq (no 1) [0, 1, 4, 5, 6] [] 15 [(0, sl s (toL a).length), (1, .int .u32 ((d : Nat) : Int)), (4, .slice (some ⟨b2, 0, none⟩) ((toL a).length) ((toL a).length)), (5, .int .u32 (((r * 2 ^ 32 + ((toL a).getD (((m : Int) - 1).toNat) 0)) % d : Nat) : Int)), (6, .int .i64 ((m : Int) - 1))] k_ ?_
  refine RN.done k_ ?_
  refine KN.blk ?_
  refine KN.next ?_
  refine J.regN ?_
  refine RN.bq (no 2) [0, 1, 4, 5, 16] [] 2 [(0, sl s (toL a).length), (1, .int .u32 ((d : Nat) : Int)), (4, .slice (some ⟨b2, 0, none⟩) ((toL a).length) ((toL a).length)), (5, .int .u32 (((r * 2 ^ 32 + ((toL a).getD (((m : Int) - 1).toNat) 0)) % d : Nat) : Int)), (16, .int .i64 (IntKind.i64.wrap (((m : Int) - 1) - 1)))] k_ ?_
  rw [show IntKind.i64.wrap (((m : Int) - 1) - 1) = (((m : Int) - 1) - 1) from by rw [IntKind.wrap_i64]; omega]
  refine RN.bq (no 1) [0, 1, 4, 5, 6] [] 3 [(0, sl s (toL a).length), (1, .int .u32 ((d : Nat) : Int)), (4, .slice (some ⟨b2, 0, none⟩) ((toL a).length) ((toL a).length)), (5, .int .u32 (((r * 2 ^ 32 + ((toL a).getD (((m : Int) - 1).toNat) 0)) % d : Nat) : Int)), (6, .int .i64 (((m : Int) - 1) - 1))] k_ ?_
  refine RN.done k_ ?_
  refine KN.roundE (m - 1, out.set (((m : Int) - 1).toNat) ((r * 2 ^ 32 + ((toL a).getD (((m : Int) - 1).toNat) 0)) / d), (r * 2 ^ 32 + ((toL a).getD (((m : Int) - 1).toNat) 0)) % d) [0, 1, 4, 5, 6] [0] (l2 := [(0, sl s (toL a).length), (1, .int .u32 ((d : Nat) : Int)), (4, .slice (some ⟨b2, 0, none⟩) ((toL a).length) ((toL a).length)), (5, .int .u32 (((r * 2 ^ 32 + ((toL a).getD (((m : Int) - 1).toNat) 0)) % d : Nat) : Int)), (6, .int .i64 (((m : Int) - 1) - 1))]) (by (try dsimp only); omega) (by (try dsimp only); rw [show ((m : Int) - 1).toNat = m - 1 from by omega]; exact ⟨by omega, hI2.step hd (by omega) hI1⟩) k_ (by rw [show ((m - 1 : Nat) : Int) = (m : Int) - 1 from by omega]) (by rfl) (by rfl)
 ·replace c4 := of_decide_eq_false c4
  refine J.exit (KX.next (KX.next (KX.hit ?_)))
  refine KN.next ?_
  refine J.sreg ?_
  refine RN.bq (no 1) [5, 30] [] 1 [(5, .int .u32 ((r : Nat) : Int)), (30, .slice (some ⟨b2, 0, none⟩) ((toL a).length) ((toL a).length))] k_ ?_
  refine RN.share 0 rfl rfl ?_
  refine RN.also (fU (⟨some ⟨b2, 0, none⟩, (toL a).length⟩ : SA) out) (fun w h => fU_own (h _ (.head _)) x_ x_) ?_
  refine RN.turn 30 (v := .slice (some ⟨b2, 0, none⟩) ((toL a).length) ((toL a).length)) (v' := sl (⟨some ⟨b2, 0, none⟩, (toL a).length⟩ : SA) out.length) k_ (sl_eq x_) ?_
  refine RN.call (natural_trimmed (⟨some ⟨b2, 0, none⟩, (toL a).length⟩ : SA) out y_natural_short) [0] k_ k_ k_ rfl (fun y6 _ => ?_)
  refine RN.bq (no 3) [4, 5] [] 5 [(4, sl y6 (toL (lv out)).length), (5, .int .u32 ((r : Nat) : Int))] k_ ?_
  refine RN.fin k_ ?_
  have hm : m = 0 := by omega
  subst hm
  have e_1 : (toL (a / d)) = (toL (lv out)) := by first | rw [hI2.done.1] | rw [hI2.done.2]
  have e_2 : (((a % d : Nat) : Int) : Int) = (((r : Nat) : Int) : Int) := by first | rw [hI2.done.1] | rw [hI2.done.2]
  refine J.ret (KR.ret (v := .tuple #[sl y6 (toL (lv out)).length, .int .u32 ((r : Nat) : Int)]) (y6) [none, none] [0] [] k_ v2_ (trivial) v2_)
noncomputable def lenTab : Operand := idxOperand Tryz.f162 7 3
theorem lenTab_all : (List.range 256).all (fun m => strAt lenTab m == some (bl m)) = true := by kernel_rfl
theorem lenTab_ok {m : Nat} (h : m < 256) : strAt lenTab m = some (bl m) := by
  have := List.all_eq_true.1 lenTab_all m (List.mem_range.2 h)
  simpa using this
theorem bl_le8 {n : Nat} (h : n < 256) : bl n ≤ 8 := by
  by_cases hn : n = 0
  · subst hn; decide
  · obtain ⟨h0, h1, h2⟩ := bl_spec hn
    apply Nat.le_of_not_lt
    intro hlt
    have : 2 ^ 8 ≤ 2 ^ (bl n - 1) := Nat.pow_le_pow_right (by decide) (by omega)
    omega
theorem bits_Len32 (x : Nat) (hx : x < 4294967296) : Spec Tryz.prog 162 #[.int .u32 ((x : Nat) : Int)] [] (ι := Unit) (fun y => .int .i64 ((bl x : Nat) : Int)) (fun y => True) (fun y => []) := by
 refine Spec.of_body _ (fn := Tryz.f162) k_ rfl k_ (fun X w0 => ?_)
 refine J.sreg ?_
 refine RN.bq (no 1) [0, 2] [] 1 [(0, .int .u32 ((x : Nat) : Int)), (2, .int .i64 0)] k_ ?_
 refine RN.fin k_ ?_
 refine J.seq ?_
 refine J.sreg ?_
 refine RN.bq (no 2) [0, 2, 4] [] 2 [(0, .int .u32 ((x : Nat) : Int)), (2, .int .i64 0), (4, .bool (decide (((x : Nat) : Int) ≥ 65536)))] k_ ?_
 refine RN.fin k_ ?_
 refine J.cond (decide (((x : Nat) : Int) ≥ 65536)) k_ (fun c1 => ?_) (fun c1 => ?_)
 ·replace c1 := of_decide_eq_true c1
  refine J.sreg ?_
  refine RN.bq (no 2) [6] [] 2 [(6, .int .u32 (Int.fdiv ((x : Nat) : Int) (2 ^ 16)))] k_ ?_
  rw [show Int.fdiv ((x : Nat) : Int) (2 ^ 16) = ((x / 2 ^ 16 : Nat) : Int) from fdivn _ _]
  refine RN.bq (no 1) [0] [] 3 [(0, .int .u32 ((x / 2 ^ 16 : Nat) : Int))] k_ ?_
  refine RN.fin k_ ?_
  refine J.regN ?_
  refine RN.bq (no 1) [0, 2] [] 1 [(0, .int .u32 ((x / 2 ^ 16 : Nat) : Int)), (2, .int .i64 16)] k_ ?_
  refine RN.fin k_ ?_
  refine J.seq ?_
  refine J.sreg ?_
  refine RN.bq (no 2) [0, 2, 8] [] 2 [(0, .int .u32 ((x / 2 ^ 16 : Nat) : Int)), (2, .int .i64 16), (8, .bool (decide (((x / 2 ^ 16 : Nat) : Int) ≥ 256)))] k_ ?_
  refine RN.fin k_ ?_
  refine J.cond (decide (((x / 2 ^ 16 : Nat) : Int) ≥ 256)) k_ (fun c2 => ?_) (fun c2 => ?_)
  ·replace c2 := of_decide_eq_true c2
   refine J.sreg ?_
   refine RN.bq (no 2) [2, 10] [] 2 [(2, .int .i64 16), (10, .int .u32 (Int.fdiv ((x / 2 ^ 16 : Nat) : Int) (2 ^ 8)))] k_ ?_
   rw [show Int.fdiv ((x / 2 ^ 16 : Nat) : Int) (2 ^ 8) = (((x / 2 ^ 16) / 2 ^ 8 : Nat) : Int) from fdivn _ _]
   refine RN.bq (no 1) [0, 2] [] 3 [(0, .int .u32 (((x / 2 ^ 16) / 2 ^ 8 : Nat) : Int)), (2, .int .i64 16)] k_ ?_
   refine RN.fin k_ ?_
   refine J.regN ?_
   refine RN.bq (no 3) [0, 2] [] 3 [(0, .int .u32 (((x / 2 ^ 16) / 2 ^ 8 : Nat) : Int)), (2, .int .i64 24)] k_ ?_
   refine RN.fs k_ ?_
   refine RN.bq (no 3) [13, 15] [] 3 [(13, .int .i64 24), (15, .int .u8 (IntKind.u8.wrap (((x / 2 ^ 16) / 2 ^ 8 : Nat) : Int)))] k_ ?_
   rw [show IntKind.u8.wrap (((x / 2 ^ 16) / 2 ^ 8 : Nat) : Int) = (((x / 2 ^ 16) / 2 ^ 8 : Nat) : Int) from uw8b ((x / 2 ^ 16) / 2 ^ 8) rfl (by omega)]
   refine RN.val _ k_ k_ (q_sidx (t := 9) (ix := (.tmp 15)) (m := (x / 2 ^ 16) / 2 ^ 8) (K := .u8) (i0 := (((x / 2 ^ 16) / 2 ^ 8 : Nat) : Int)) k_ (lenTab_ok (by omega)) k_ k_ (by omega)) ?_
   have hbl3 := bl_le8 (n := (x / 2 ^ 16) / 2 ^ 8) (by omega)
   refine RN.bq (no 1) [13, 17] [] 5 [(13, .int .i64 24), (17, .int .i64 (IntKind.i64.wrap ((bl ((x / 2 ^ 16) / 2 ^ 8) : Nat) : Int)))] k_ ?_
   rw [show IntKind.i64.wrap ((bl ((x / 2 ^ 16) / 2 ^ 8) : Nat) : Int) = ((bl ((x / 2 ^ 16) / 2 ^ 8) : Nat) : Int) from by rw [IntKind.wrap_i64]; omega]
   refine RN.bq (no 1) [18] [] 6 [(18, .int .i64 (IntKind.i64.wrap (24 + ((bl ((x / 2 ^ 16) / 2 ^ 8) : Nat) : Int))))] k_ ?_
   rw [show IntKind.i64.wrap (24 + ((bl ((x / 2 ^ 16) / 2 ^ 8) : Nat) : Int)) = ((24 + (bl ((x / 2 ^ 16) / 2 ^ 8)) : Nat) : Int) from by rw [IntKind.wrap_i64]; omega]
   refine RN.bq (no 1) [2] [] 7 [(2, .int .i64 ((24 + (bl ((x / 2 ^ 16) / 2 ^ 8)) : Nat) : Int))] k_ ?_
   refine RN.fin k_ ?_
   have e_1 : (((bl x : Nat) : Int) : Int) = (((24 + (bl ((x / 2 ^ 16) / 2 ^ 8)) : Nat) : Int) : Int) := by first | rfl | (simp; done) | (rw [bl_shift (n := x) (k := 16) (by omega), bl_shift (n := x / 2 ^ 16) (k := 8) (by omega)]; omega) | (rw [bl_shift (n := x) (k := 16) (by omega)]; omega) | (rw [bl_shift (n := x) (k := 8) (by omega)]; omega)
   refine J.ret (KR.ret (v := .int .i64 ((24 + (bl ((x / 2 ^ 16) / 2 ^ 8)) : Nat) : Int)) (()) [none] [] [] k_ v1_ (trivial) v1_)
  ·replace c2 := of_decide_eq_false c2
   refine J.skip ?_
   refine KN.next ?_
   refine J.sreg ?_
   refine RN.bq (no 3) [13, 15] [] 3 [(13, .int .i64 16), (15, .int .u8 (IntKind.u8.wrap ((x / 2 ^ 16 : Nat) : Int)))] k_ ?_
   rw [show IntKind.u8.wrap ((x / 2 ^ 16 : Nat) : Int) = ((x / 2 ^ 16 : Nat) : Int) from uw8b (x / 2 ^ 16) rfl (by omega)]
   refine RN.val _ k_ k_ (q_sidx (t := 9) (ix := (.tmp 15)) (m := x / 2 ^ 16) (K := .u8) (i0 := ((x / 2 ^ 16 : Nat) : Int)) k_ (lenTab_ok (by omega)) k_ k_ (by omega)) ?_
   have hbl4 := bl_le8 (n := x / 2 ^ 16) (by omega)
   refine RN.bq (no 1) [13, 17] [] 5 [(13, .int .i64 16), (17, .int .i64 (IntKind.i64.wrap ((bl (x / 2 ^ 16) : Nat) : Int)))] k_ ?_
   rw [show IntKind.i64.wrap ((bl (x / 2 ^ 16) : Nat) : Int) = ((bl (x / 2 ^ 16) : Nat) : Int) from by rw [IntKind.wrap_i64]; omega]
   refine RN.bq (no 1) [18] [] 6 [(18, .int .i64 (IntKind.i64.wrap (16 + ((bl (x / 2 ^ 16) : Nat) : Int))))] k_ ?_
   rw [show IntKind.i64.wrap (16 + ((bl (x / 2 ^ 16) : Nat) : Int)) = ((16 + (bl (x / 2 ^ 16)) : Nat) : Int) from by rw [IntKind.wrap_i64]; omega]
   refine RN.bq (no 1) [2] [] 7 [(2, .int .i64 ((16 + (bl (x / 2 ^ 16)) : Nat) : Int))] k_ ?_
   refine RN.fin k_ ?_
   have e_1 : (((bl x : Nat) : Int) : Int) = (((16 + (bl (x / 2 ^ 16)) : Nat) : Int) : Int) := by first | rfl | (simp; done) | (rw [bl_shift (n := x) (k := 16) (by omega), bl_shift (n := x / 2 ^ 16) (k := 8) (by omega)]; omega) | (rw [bl_shift (n := x) (k := 16) (by omega)]; omega) | (rw [bl_shift (n := x) (k := 8) (by omega)]; omega)
   refine J.ret (KR.ret (v := .int .i64 ((16 + (bl (x / 2 ^ 16)) : Nat) : Int)) (()) [none] [] [] k_ v1_ (trivial) v1_)
 ·replace c1 := of_decide_eq_false c1
  refine J.skip ?_
  refine KN.next ?_
  refine J.seq ?_
  refine J.sreg ?_
  refine RN.bq (no 2) [0, 2, 8] [] 2 [(0, .int .u32 ((x : Nat) : Int)), (2, .int .i64 0), (8, .bool (decide (((x : Nat) : Int) ≥ 256)))] k_ ?_
  refine RN.fin k_ ?_
  refine J.cond (decide (((x : Nat) : Int) ≥ 256)) k_ (fun c5 => ?_) (fun c5 => ?_)
  ·replace c5 := of_decide_eq_true c5
   refine J.sreg ?_
   refine RN.bq (no 2) [2, 10] [] 2 [(2, .int .i64 0), (10, .int .u32 (Int.fdiv ((x : Nat) : Int) (2 ^ 8)))] k_ ?_
   rw [show Int.fdiv ((x : Nat) : Int) (2 ^ 8) = ((x / 2 ^ 8 : Nat) : Int) from fdivn _ _]
   refine RN.bq (no 1) [0, 2] [] 3 [(0, .int .u32 ((x / 2 ^ 8 : Nat) : Int)), (2, .int .i64 0)] k_ ?_
   refine RN.fin k_ ?_
   refine J.regN ?_
   refine RN.bq (no 3) [0, 2] [] 3 [(0, .int .u32 ((x / 2 ^ 8 : Nat) : Int)), (2, .int .i64 8)] k_ ?_
   refine RN.fs k_ ?_
   refine RN.bq (no 3) [13, 15] [] 3 [(13, .int .i64 8), (15, .int .u8 (IntKind.u8.wrap ((x / 2 ^ 8 : Nat) : Int)))] k_ ?_
   rw [show IntKind.u8.wrap ((x / 2 ^ 8 : Nat) : Int) = ((x / 2 ^ 8 : Nat) : Int) from uw8b (x / 2 ^ 8) rfl (by omega)]
   refine RN.val _ k_ k_ (q_sidx (t := 9) (ix := (.tmp 15)) (m := x / 2 ^ 8) (K := .u8) (i0 := ((x / 2 ^ 8 : Nat) : Int)) k_ (lenTab_ok (by omega)) k_ k_ (by omega)) ?_
   have hbl6 := bl_le8 (n := x / 2 ^ 8) (by omega)
   refine RN.bq (no 1) [13, 17] [] 5 [(13, .int .i64 8), (17, .int .i64 (IntKind.i64.wrap ((bl (x / 2 ^ 8) : Nat) : Int)))] k_ ?_
   rw [show IntKind.i64.wrap ((bl (x / 2 ^ 8) : Nat) : Int) = ((bl (x / 2 ^ 8) : Nat) : Int) from by rw [IntKind.wrap_i64]; omega]
   refine RN.bq (no 1) [18] [] 6 [(18, .int .i64 (IntKind.i64.wrap (8 + ((bl (x / 2 ^ 8) : Nat) : Int))))] k_ ?_
   rw [show IntKind.i64.wrap (8 + ((bl (x / 2 ^ 8) : Nat) : Int)) = ((8 + (bl (x / 2 ^ 8)) : Nat) : Int) from by rw [IntKind.wrap_i64]; omega]
   refine RN.bq (no 1) [2] [] 7 [(2, .int .i64 ((8 + (bl (x / 2 ^ 8)) : Nat) : Int))] k_ ?_
   refine RN.fin k_ ?_
   have e_1 : (((bl x : Nat) : Int) : Int) = (((8 + (bl (x / 2 ^ 8)) : Nat) : Int) : Int) := by first | rfl | (simp; done) | (rw [bl_shift (n := x) (k := 16) (by omega), bl_shift (n := x / 2 ^ 16) (k := 8) (by omega)]; omega) | (rw [bl_shift (n := x) (k := 16) (by omega)]; omega) | (rw [bl_shift (n := x) (k := 8) (by omega)]; omega)
   refine J.ret (KR.ret (v := .int .i64 ((8 + (bl (x / 2 ^ 8)) : Nat) : Int)) (()) [none] [] [] k_ v1_ (trivial) v1_)
  ·replace c5 := of_decide_eq_false c5
   refine J.skip ?_
   refine KN.next ?_
   refine J.sreg ?_
   refine RN.bq (no 3) [13, 15] [] 3 [(13, .int .i64 0), (15, .int .u8 (IntKind.u8.wrap ((x : Nat) : Int)))] k_ ?_
   rw [show IntKind.u8.wrap ((x : Nat) : Int) = ((x : Nat) : Int) from uw8b x rfl (by omega)]
   refine RN.val _ k_ k_ (q_sidx (t := 9) (ix := (.tmp 15)) (m := x) (K := .u8) (i0 := ((x : Nat) : Int)) k_ (lenTab_ok (by omega)) k_ k_ (by omega)) ?_
   have hbl7 := bl_le8 (n := x) (by omega)
   refine RN.bq (no 1) [13, 17] [] 5 [(13, .int .i64 0), (17, .int .i64 (IntKind.i64.wrap ((bl x : Nat) : Int)))] k_ ?_
   rw [show IntKind.i64.wrap ((bl x : Nat) : Int) = ((bl x : Nat) : Int) from by rw [IntKind.wrap_i64]; omega]
   refine RN.bq (no 1) [18] [] 6 [(18, .int .i64 (IntKind.i64.wrap (0 + ((bl x : Nat) : Int))))] k_ ?_
   rw [show IntKind.i64.wrap (0 + ((bl x : Nat) : Int)) = ((0 + (bl x) : Nat) : Int) from by rw [IntKind.wrap_i64]; omega]
   refine RN.bq (no 1) [2] [] 7 [(2, .int .i64 ((0 + (bl x) : Nat) : Int))] k_ ?_
   refine RN.fin k_ ?_
   have e_1 : (((bl x : Nat) : Int) : Int) = (((0 + (bl x) : Nat) : Int) : Int) := by first | rfl | (simp; done) | (rw [bl_shift (n := x) (k := 16) (by omega), bl_shift (n := x / 2 ^ 16) (k := 8) (by omega)]; omega) | (rw [bl_shift (n := x) (k := 16) (by omega)]; omega) | (rw [bl_shift (n := x) (k := 8) (by omega)]; omega)
   refine J.ret (KR.ret (v := .int .i64 ((0 + (bl x) : Nat) : Int)) (()) [none] [] [] k_ v1_ (trivial) v1_)
theorem bits_LeadingZeros32 (x : Nat) (hx : x < 4294967296) : Spec Tryz.prog 152 #[.int .u32 ((x : Nat) : Int)] [] (ι := Unit) (fun y => .int .i64 ((32 - bl x : Nat) : Int)) (fun y => True) (fun y => []) := by
 refine Spec.of_body _ (fn := Tryz.f152) k_ rfl k_ (fun X w0 => ?_)
 have hb := bl_le32 hx
 refine J.sreg ?_
 refine RN.bq (no 1) [0] [] 1 [(0, .int .u32 ((x : Nat) : Int))] k_ ?_
 refine RN.fs k_ ?_
 refine RN.bq (no 1) [3] [] 1 [(3, .int .u32 ((x : Nat) : Int))] k_ ?_
 refine RN.call (bits_Len32 x y_) [] k_ k_ k_ rfl (fun y1 _ => ?_)
 refine RN.bq (no 1) [5] [] 3 [(5, .int .i64 (IntKind.i64.wrap (32 - ((bl x : Nat) : Int))))] k_ ?_
 rw [show IntKind.i64.wrap (32 - ((bl x : Nat) : Int)) = (32 - ((bl x : Nat) : Int)) from by rw [IntKind.wrap_i64]; omega]
 refine RN.bq (no 1) [2] [] 4 [(2, .int .i64 (32 - ((bl x : Nat) : Int)))] k_ ?_
 refine RN.fin k_ ?_
 have e_1 : (((32 - bl x : Nat) : Int) : Int) = (32 - ((bl x : Nat) : Int) : Int) := by omega
 refine J.ret (KR.ret (v := .int .i64 (32 - ((bl x : Nat) : Int))) (()) [none] [] [] k_ v1_ (trivial) v1_)
theorem natural_shifted (s : SA) (a : Nat) (k : Nat) (hk : k < 32) (hxl : (toL a).length ≤ 1099511627776) : SpecM Tryz.prog 164 #[sl s (toL a).length, .int .i64 ((k : Nat) : Int)] [] [fU s (toL a)] (ι := Nat × List Nat) (fun y => .slice (some ⟨y.1, 0, none⟩) ((toL a).length + 1) ((toL a).length + 1)) (fun y => y.2.length = (toL a).length + 1 ∧ Lb y.2 ∧ lv y.2 = a * 2 ^ k) (fun y => [(y.1, .cells (encU y.2) 107 (0, 0))]) (fun y => []) := by
 refine SpecM.of_body _ (fn := Tryz.f164) k_ rfl k_ (fun X w0 => ?_)
 refine J.fact (φ := (toL a).length ≤ 140737488355328) (fun w h => by have := (h _ (.head _)).1; omega) (fun hl1 => ?_)
 refine J.sreg ?_
 refine RN.bq (no 1) [0, 1] [] 1 [(0, sl s (toL a).length), (1, .int .i64 ((k : Nat) : Int))] k_ ?_
 refine RN.fs k_ ?_
 refine RN.bq (no 3) [0, 1, 11] [] 3 [(0, sl s (toL a).length), (1, .int .i64 ((k : Nat) : Int)), (11, .int .i64 (IntKind.i64.wrap ((((toL a).length : Nat) : Int) + 1)))] k_ ?_
 rw [show IntKind.i64.wrap ((((toL a).length : Nat) : Int) + 1) = ((((toL a).length) + 1 : Nat) : Int) from by rw [IntKind.wrap_i64]; omega]
 refine RN.make (e := 0) (m := (((toL a).length) + 1)) (.cells (encU (List.replicate (((toL a).length) + 1) 0)) 107 (0, 0)) k_ k_ (fun w => (q_make1 (t := 36) (m := (((toL a).length) + 1)) (by_ := 4) (K := .i64) (K' := .i64) (n1 := ((((toL a).length) + 1 : Nat) : Int)) (n2 := ((((toL a).length) + 1 : Nat) : Int)) (x := (.tmp 11)) (y := (.tmp 11)) (e := 107) k_ k_ k_ (by omega) (by omega) k_ k_ rfl (by omega) (by omega) w).trans (by rw [encU_rep])) (fun b2 => ?_)
 refine RN.bq (no 1) [0, 1, 5] [] 5 [(0, sl s (toL a).length), (1, .int .i64 ((k : Nat) : Int)), (5, .slice (some ⟨b2, 0, none⟩) (((toL a).length) + 1) (((toL a).length) + 1))] k_ ?_
 refine RN.fin k_ ?_
 refine J.seq ?_
 refine J.sreg ?_
 refine RN.bq (no 3) [1, 5, 13, 14, 15] [] 3 [(1, .int .i64 ((k : Nat) : Int)), (5, .slice (some ⟨b2, 0, none⟩) (((toL a).length) + 1) (((toL a).length) + 1)), (13, sl s (toL a).length), (14, .int .i64 (((toL a).length : Nat) : Int)), (15, .int .i64 0)] k_ ?_
 refine RN.fin k_ ?_
 refine J.block ?_
 refine J.loop (ι := (Nat) × (List Nat)) (fun x => x.1 ≤ (toL a).length ∧ ShfI a k x.2 x.1) (fun x => (toL a).length - x.1) (fun x => [(1, .int .i64 ((k : Nat) : Int)), (5, .slice (some ⟨b2, 0, none⟩) (((toL a).length) + 1) (((toL a).length) + 1)), (13, sl s (toL a).length), (14, .int .i64 (((toL a).length : Nat) : Int)), (15, .int .i64 ((x.1 : Nat) : Int))]) (fun x => [(b2, .cells (encU x.2) 107 (0, 0))]) (fun x => [fU s (toL a)]) (0, List.replicate (((toL a).length) + 1) 0) [1, 5, 13, 14, 15] [0] (⟨Nat.zero_le _, ShfI.start _ _⟩) k_ (by first | rfl | (simp only [encQ_zero]; done) | (simp only [encQ_zero]; rfl)) (by rfl) (fun x3 hI => ?_)
 obtain ⟨i, out⟩ := x3
 replace hI : i ≤ (toL a).length ∧ ShfI a k out i := hI
 obtain ⟨hI1, hI2⟩ := hI
 have hI3 := hI2.1
 have hga : (toL a).getD i 0 < 4294967296 := (Lb_toL a).getD i
 have hgo : out.getD i 0 < 4294967296 := hI2.2.1.getD _
 have hw := shl_wide (b := k) (by omega) hga
 refine J.sreg ?_
 refine RN.bq (no 1) [1, 5, 13, 14, 15, 16] [] 1 [(1, .int .i64 ((k : Nat) : Int)), (5, .slice (some ⟨b2, 0, none⟩) (((toL a).length) + 1) (((toL a).length) + 1)), (13, sl s (toL a).length), (14, .int .i64 (((toL a).length : Nat) : Int)), (15, .int .i64 ((i : Nat) : Int)), (16, .bool (decide (((i : Nat) : Int) < (((toL a).length : Nat) : Int))))] k_ ?_
 refine RN.fin k_ ?_
 refine J.seq ?_
 refine J.cond (decide (((i : Nat) : Int) < (((toL a).length : Nat) : Int))) k_ (fun c4 => ?_) (fun c4 => ?_)
 ·replace c4 := of_decide_eq_true c4
  refine J.skip ?_
  refine KN.next ?_
  refine J.seq ?_
  refine J.block ?_
  refine J.sreg ?_
  refine RN.bq (no 1) [1, 5, 13, 14, 15, 17] [] 1 [(1, .int .i64 ((k : Nat) : Int)), (5, .slice (some ⟨b2, 0, none⟩) (((toL a).length) + 1) (((toL a).length) + 1)), (13, sl s (toL a).length), (14, .int .i64 (((toL a).length : Nat) : Int)), (15, .int .i64 ((i : Nat) : Int)), (17, .int .i64 ((i : Nat) : Int))] k_ ?_
  refine RN.val _ k_ k_ (q_uidx (t := 36) (x := (.tmp 13)) (ix := (.tmp 15)) (K := .i64) (i0 := ((i : Nat) : Int)) (m := i) (e := 107) 0 rfl k_ k_ k_ k_ k_ (by omega) x_) ?_
  refine RN.val _ k_ k_ (q_uload (T := 107) (x := (.tmp 18)) (m := i) (s := s) (xs := toL a) 0 rfl k_ k_ k_ x_) ?_
  refine RN.bq (no 2) [1, 5, 6, 7, 13, 14, 15] [] 5 [(1, .int .i64 ((k : Nat) : Int)), (5, .slice (some ⟨b2, 0, none⟩) (((toL a).length) + 1) (((toL a).length) + 1)), (6, .int .i64 ((i : Nat) : Int)), (7, .int .u32 (((toL a).getD i 0 : Nat) : Int)), (13, sl s (toL a).length), (14, .int .i64 (((toL a).length : Nat) : Int)), (15, .int .i64 ((i : Nat) : Int))] k_ ?_
  refine RN.fs k_ ?_
  refine RN.bq (no 2) [1, 5, 6, 13, 14, 15, 21] [] 2 [(1, .int .i64 ((k : Nat) : Int)), (5, .slice (some ⟨b2, 0, none⟩) (((toL a).length) + 1) (((toL a).length) + 1)), (6, .int .i64 ((i : Nat) : Int)), (13, sl s (toL a).length), (14, .int .i64 (((toL a).length : Nat) : Int)), (15, .int .i64 ((i : Nat) : Int)), (21, .int .u64 (IntKind.u64.wrap (((toL a).getD i 0 : Nat) : Int)))] k_ ?_
  rw [show IntKind.u64.wrap (((toL a).getD i 0 : Nat) : Int) = (((toL a).getD i 0 : Nat) : Int) from uw64b ((toL a).getD i 0) (by rfl) (by omega)]
  refine RN.bq (no 1) [1, 5, 6, 13, 14, 15, 21, 22] [] 3 [(1, .int .i64 ((k : Nat) : Int)), (5, .slice (some ⟨b2, 0, none⟩) (((toL a).length) + 1) (((toL a).length) + 1)), (6, .int .i64 ((i : Nat) : Int)), (13, sl s (toL a).length), (14, .int .i64 (((toL a).length : Nat) : Int)), (15, .int .i64 ((i : Nat) : Int)), (21, .int .u64 (((toL a).getD i 0 : Nat) : Int)), (22, .int .i64 ((k : Nat) : Int))] k_ ?_
  refine RN.val _ k_ k_ (q_shl (T := 109) (T' := 3) (x := (.tmp 21)) (y := (.tmp 22)) (k := .u64) (k' := .i64) (a := (((toL a).getD i 0 : Nat) : Int)) (b := ((k : Nat) : Int)) (m := k) k_ k_ k_ (by omega) (by simp only [IntKind.bits]; omega)) ?_
  rw [show IntKind.u64.wrap ((((toL a).getD i 0 : Nat) : Int) * 2 ^ k) = ((((toL a).getD i 0) * 2 ^ k : Nat) : Int) from uw64b (((toL a).getD i 0) * 2 ^ k) (by simp) (by omega)]
  refine RN.bq (no 1) [1, 5, 6, 8, 13, 14, 15] [] 5 [(1, .int .i64 ((k : Nat) : Int)), (5, .slice (some ⟨b2, 0, none⟩) (((toL a).length) + 1) (((toL a).length) + 1)), (6, .int .i64 ((i : Nat) : Int)), (8, .int .u64 ((((toL a).getD i 0) * 2 ^ k : Nat) : Int)), (13, sl s (toL a).length), (14, .int .i64 (((toL a).length : Nat) : Int)), (15, .int .i64 ((i : Nat) : Int))] k_ ?_
  refine RN.fs k_ ?_
  refine RN.bq (no 2) [1, 5, 6, 8, 13, 14, 15, 24, 25] [] 2 [(1, .int .i64 ((k : Nat) : Int)), (5, .slice (some ⟨b2, 0, none⟩) (((toL a).length) + 1) (((toL a).length) + 1)), (6, .int .i64 ((i : Nat) : Int)), (8, .int .u64 ((((toL a).getD i 0) * 2 ^ k : Nat) : Int)), (13, sl s (toL a).length), (14, .int .i64 (((toL a).length : Nat) : Int)), (15, .int .i64 ((i : Nat) : Int)), (24, .slice (some ⟨b2, 0, none⟩) (((toL a).length) + 1) (((toL a).length) + 1)), (25, .int .i64 ((i : Nat) : Int))] k_ ?_
  refine RN.val _ k_ k_ (q_oidx (t := 36) (x := (.tmp 24)) (ix := (.tmp 25)) (b := b2) (n := (((toL a).length) + 1)) (c := (((toL a).length) + 1)) (K := .i64) (i0 := ((i : Nat) : Int)) (m := i) (e := 107) (sz := 1) k_ k_ k_ k_ k_ (by omega) x_) ?_
  refine RN.val _ k_ k_ (q_oload (mi := 0) (T := 107) (x := (.tmp 26)) (m := i) (xs := out) rfl k_ k_ k_ x_) ?_
  refine RN.bq (no 2) [1, 5, 6, 8, 13, 14, 15, 24, 25, 27, 29] [] 6 [(1, .int .i64 ((k : Nat) : Int)), (5, .slice (some ⟨b2, 0, none⟩) (((toL a).length) + 1) (((toL a).length) + 1)), (6, .int .i64 ((i : Nat) : Int)), (8, .int .u64 ((((toL a).getD i 0) * 2 ^ k : Nat) : Int)), (13, sl s (toL a).length), (14, .int .i64 (((toL a).length : Nat) : Int)), (15, .int .i64 ((i : Nat) : Int)), (24, .slice (some ⟨b2, 0, none⟩) (((toL a).length) + 1) (((toL a).length) + 1)), (25, .int .i64 ((i : Nat) : Int)), (27, .int .u32 ((out.getD i 0 : Nat) : Int)), (29, .int .u32 (IntKind.u32.wrap ((((toL a).getD i 0) * 2 ^ k : Nat) : Int)))] k_ ?_
  rw [show IntKind.u32.wrap ((((toL a).getD i 0) * 2 ^ k : Nat) : Int) = (((((toL a).getD i 0) * 2 ^ k) % 4294967296 : Nat) : Int) from uw32e (((toL a).getD i 0) * 2 ^ k) (by rfl)]
  refine RN.bq (no 1) [1, 5, 6, 8, 13, 14, 15, 24, 25, 30] [] 7 [(1, .int .i64 ((k : Nat) : Int)), (5, .slice (some ⟨b2, 0, none⟩) (((toL a).length) + 1) (((toL a).length) + 1)), (6, .int .i64 ((i : Nat) : Int)), (8, .int .u64 ((((toL a).getD i 0) * 2 ^ k : Nat) : Int)), (13, sl s (toL a).length), (14, .int .i64 (((toL a).length : Nat) : Int)), (15, .int .i64 ((i : Nat) : Int)), (24, .slice (some ⟨b2, 0, none⟩) (((toL a).length) + 1) (((toL a).length) + 1)), (25, .int .i64 ((i : Nat) : Int)), (30, .int .u32 (IntKind.u32.wrap ((BitVec.ofInt 32 ((out.getD i 0 : Nat) : Int) ||| BitVec.ofInt 32 (((((toL a).getD i 0) * 2 ^ k) % 4294967296 : Nat) : Int)).toNat : Nat)))] k_ ?_
  rw [show (IntKind.u32.wrap ((BitVec.ofInt 32 ((out.getD i 0 : Nat) : Int) ||| BitVec.ofInt 32 (((((toL a).getD i 0) * 2 ^ k) % 4294967296 : Nat) : Int)).toNat : Nat)) = ((out.getD i 0 + (toL a).getD i 0 * 2 ^ k % 4294967296 : Nat) : Int) from by rw [bv_or (by omega) (by omega), shl_or (by omega) hI2.2.2.2.1]; exact uw32b _ rfl (shl_add_lt (by omega) hI2.2.2.2.1)]
  refine RN.val _ k_ k_ (q_oidx (t := 36) (x := (.tmp 24)) (ix := (.tmp 25)) (b := b2) (n := (((toL a).length) + 1)) (c := (((toL a).length) + 1)) (K := .i64) (i0 := ((i : Nat) : Int)) (m := i) (e := 107) (sz := 1) k_ k_ k_ k_ k_ (by omega) x_) ?_
  refine RN.ot k_ k_ (ot_ustore (mi := 0) (T := 107) (x := (.tmp 31)) (y := (.tmp 30)) (b := b2) (m := i) (xs := out) (v := ((out.getD i 0 + (toL a).getD i 0 * 2 ^ k % 4294967296 : Nat) : Int)) (v0 := out.getD i 0 + (toL a).getD i 0 * 2 ^ k % 4294967296) rfl k_ k_ k_ k_ k_ (by omega) x_) (fun _ _ => ?_)
  refine RN.fin k_ ?_
  refine J.regN ?_
  refine RN.bq (no 3) [1, 5, 8, 13, 14, 15, 32, 34] [] 3 [(1, .int .i64 ((k : Nat) : Int)), (5, .slice (some ⟨b2, 0, none⟩) (((toL a).length) + 1) (((toL a).length) + 1)), (8, .int .u64 ((((toL a).getD i 0) * 2 ^ k : Nat) : Int)), (13, sl s (toL a).length), (14, .int .i64 (((toL a).length : Nat) : Int)), (15, .int .i64 ((i : Nat) : Int)), (32, .slice (some ⟨b2, 0, none⟩) (((toL a).length) + 1) (((toL a).length) + 1)), (34, .int .i64 (IntKind.i64.wrap (((i : Nat) : Int) + 1)))] k_ ?_
  rw [show IntKind.i64.wrap (((i : Nat) : Int) + 1) = ((i + 1 : Nat) : Int) from by rw [IntKind.wrap_i64]; omega]
  refine RN.bq (no 2) [1, 5, 13, 14, 15, 32, 34, 36] [] 5 [(1, .int .i64 ((k : Nat) : Int)), (5, .slice (some ⟨b2, 0, none⟩) (((toL a).length) + 1) (((toL a).length) + 1)), (13, sl s (toL a).length), (14, .int .i64 (((toL a).length : Nat) : Int)), (15, .int .i64 ((i : Nat) : Int)), (32, .slice (some ⟨b2, 0, none⟩) (((toL a).length) + 1) (((toL a).length) + 1)), (34, .int .i64 ((i + 1 : Nat) : Int)), (36, .int .u64 (Int.fdiv ((((toL a).getD i 0) * 2 ^ k : Nat) : Int) (2 ^ 32)))] k_ ?_
  rw [show Int.fdiv ((((toL a).getD i 0) * 2 ^ k : Nat) : Int) (2 ^ 32) = (((((toL a).getD i 0) * 2 ^ k) / 2 ^ 32 : Nat) : Int) from fdivn _ _]
  refine RN.bq (no 1) [1, 5, 13, 14, 15, 32, 34, 37] [] 6 [(1, .int .i64 ((k : Nat) : Int)), (5, .slice (some ⟨b2, 0, none⟩) (((toL a).length) + 1) (((toL a).length) + 1)), (13, sl s (toL a).length), (14, .int .i64 (((toL a).length : Nat) : Int)), (15, .int .i64 ((i : Nat) : Int)), (32, .slice (some ⟨b2, 0, none⟩) (((toL a).length) + 1) (((toL a).length) + 1)), (34, .int .i64 ((i + 1 : Nat) : Int)), (37, .int .u32 (IntKind.u32.wrap (((((toL a).getD i 0) * 2 ^ k) / 2 ^ 32 : Nat) : Int)))] k_ ?_
  rw [show IntKind.u32.wrap (((((toL a).getD i 0) * 2 ^ k) / 2 ^ 32 : Nat) : Int) = (((((toL a).getD i 0) * 2 ^ k) / 2 ^ 32 : Nat) : Int) from uw32b ((((toL a).getD i 0) * 2 ^ k) / 2 ^ 32) (by rfl) (by omega)]
  refine RN.val _ k_ k_ (q_oidx (t := 36) (x := (.tmp 32)) (ix := (.tmp 34)) (b := b2) (n := (((toL a).length) + 1)) (c := (((toL a).length) + 1)) (K := .i64) (i0 := ((i + 1 : Nat) : Int)) (m := i + 1) (e := 107) (sz := 1) k_ k_ k_ k_ k_ (by omega) x_) ?_
  refine RN.ot k_ k_ (ot_ustore (mi := 0) (T := 107) (x := (.tmp 38)) (y := (.tmp 37)) (b := b2) (m := i + 1) (xs := out.set i (out.getD i 0 + (toL a).getD i 0 * 2 ^ k % 4294967296)) (v := (((((toL a).getD i 0) * 2 ^ k) / 2 ^ 32 : Nat) : Int)) (v0 := (((toL a).getD i 0) * 2 ^ k) / 2 ^ 32) rfl k_ k_ k_ k_ k_ (by omega) x_) (fun _ _ => ?_)
  refine RN.done k_ ?_
  refine KN.blk ?_
  refine KN.next ?_
  refine J.regN ?_
  refine RN.bq (no 1) [1, 5, 13, 14, 39] [] 1 [(1, .int .i64 ((k : Nat) : Int)), (5, .slice (some ⟨b2, 0, none⟩) (((toL a).length) + 1) (((toL a).length) + 1)), (13, sl s (toL a).length), (14, .int .i64 (((toL a).length : Nat) : Int)), (39, .int .i64 (IntKind.i64.wrap (((i : Nat) : Int) + 1)))] k_ ?_
  rw [show IntKind.i64.wrap (((i : Nat) : Int) + 1) = ((i + 1 : Nat) : Int) from by rw [IntKind.wrap_i64]; omega]
  refine RN.bq (no 1) [1, 5, 13, 14, 15] [] 2 [(1, .int .i64 ((k : Nat) : Int)), (5, .slice (some ⟨b2, 0, none⟩) (((toL a).length) + 1) (((toL a).length) + 1)), (13, sl s (toL a).length), (14, .int .i64 (((toL a).length : Nat) : Int)), (15, .int .i64 ((i + 1 : Nat) : Int))] k_ ?_
  refine RN.done k_ ?_
  refine KN.roundE (i + 1, (out.set i (out.getD i 0 + (toL a).getD i 0 * 2 ^ k % 4294967296)).set (i + 1) ((((toL a).getD i 0) * 2 ^ k) / 2 ^ 32)) [1, 5, 13, 14, 15] [0] (l2 := [(1, .int .i64 ((k : Nat) : Int)), (5, .slice (some ⟨b2, 0, none⟩) (((toL a).length) + 1) (((toL a).length) + 1)), (13, sl s (toL a).length), (14, .int .i64 (((toL a).length : Nat) : Int)), (15, .int .i64 ((i + 1 : Nat) : Int))]) (by (try dsimp only); omega) (by (try dsimp only); exact ⟨by omega, hI2.step (by omega) hk⟩) k_ (by rfl) (by rfl) (by rfl)
 ·replace c4 := of_decide_eq_false c4
  refine J.exit (KX.next (KX.next (KX.hit ?_)))
  refine KN.next ?_
  refine J.sreg ?_
  refine RN.bq (no 2) [4] [] 2 [(4, .slice (some ⟨b2, 0, none⟩) (((toL a).length) + 1) (((toL a).length) + 1))] k_ ?_
  refine RN.fin k_ ?_
  have e_1 : ((toL a).length + 1) = (((toL a).length) + 1) := by first | rfl | simp [*]
  have e_2 : ((toL a).length + 1) = (((toL a).length) + 1) := by first | rfl | simp [*]
  refine J.ret (KR.retM (v := .slice (some ⟨b2, 0, none⟩) (((toL a).length) + 1) (((toL a).length) + 1)) (⟨b2, out⟩) [none] [] [] k_ v2_ (⟨by omega, hI2.2.1, hI2.done (by omega)⟩) v2_ v2_)
theorem natural_guess (u2 : Nat) (u1 : Nat) (u0 : Nat) (v1 : Nat) (v0 : Nat) (h1 : u2 ≤ v1) (h2 : u1 < 4294967296) (h3 : u0 < 4294967296) (h4 : v0 < 4294967296) (h5 : 2147483648 ≤ v1) (h6 : v1 < 4294967296) : Spec Tryz.prog 165 #[.int .u32 ((u2 : Nat) : Int), .int .u32 ((u1 : Nat) : Int), .int .u32 ((u0 : Nat) : Int), .int .u32 ((v1 : Nat) : Int), .int .u32 ((v0 : Nat) : Int)] [] (ι := Unit) (fun y => .int .u64 ((min (((u2 * 4294967296 + u1) * 4294967296 + u0) / (v1 * 4294967296 + v0)) 4294967295 : Nat) : Int)) (fun y => True) (fun y => []) := by
 refine Spec.of_body _ (fn := Tryz.f165) k_ rfl k_ (fun X w0 => ?_)
 have hq0 : (u2 * 4294967296 + u1) / v1 ≤ u2 * 4294967296 + u1 := Nat.div_le_self _ _
 refine J.sreg ?_
 refine RN.bq (no 1) [0, 1, 2, 3, 4] [] 1 [(0, .int .u32 ((u2 : Nat) : Int)), (1, .int .u32 ((u1 : Nat) : Int)), (2, .int .u32 ((u0 : Nat) : Int)), (3, .int .u32 ((v1 : Nat) : Int)), (4, .int .u32 ((v0 : Nat) : Int))] k_ ?_
 refine RN.fs k_ ?_
 refine RN.bq (no 2) [1, 2, 3, 4, 15] [] 2 [(1, .int .u32 ((u1 : Nat) : Int)), (2, .int .u32 ((u0 : Nat) : Int)), (3, .int .u32 ((v1 : Nat) : Int)), (4, .int .u32 ((v0 : Nat) : Int)), (15, .int .u64 (IntKind.u64.wrap ((u2 : Nat) : Int)))] k_ ?_
 rw [show IntKind.u64.wrap ((u2 : Nat) : Int) = ((u2 : Nat) : Int) from uw64b u2 (by rfl) (by first | omega | exact Nat.lt_of_le_of_lt (mul_bound (by omega) (by omega)) (by decide))]
 refine RN.bq (no 1) [1, 2, 3, 4, 16] [] 3 [(1, .int .u32 ((u1 : Nat) : Int)), (2, .int .u32 ((u0 : Nat) : Int)), (3, .int .u32 ((v1 : Nat) : Int)), (4, .int .u32 ((v0 : Nat) : Int)), (16, .int .u64 (IntKind.u64.wrap (((u2 : Nat) : Int) * 2 ^ 32)))] k_ ?_
 rw [show IntKind.u64.wrap (((u2 : Nat) : Int) * 2 ^ 32) = ((u2 * 2 ^ 32 : Nat) : Int) from uw64b (u2 * 2 ^ 32) (by simp) (by first | omega | exact Nat.lt_of_le_of_lt (mul_bound (by omega) (by omega)) (by decide))]
 refine RN.bq (no 2) [2, 3, 4, 16, 18] [] 5 [(2, .int .u32 ((u0 : Nat) : Int)), (3, .int .u32 ((v1 : Nat) : Int)), (4, .int .u32 ((v0 : Nat) : Int)), (16, .int .u64 ((u2 * 2 ^ 32 : Nat) : Int)), (18, .int .u64 (IntKind.u64.wrap ((u1 : Nat) : Int)))] k_ ?_
 rw [show IntKind.u64.wrap ((u1 : Nat) : Int) = ((u1 : Nat) : Int) from uw64b u1 (by rfl) (by first | omega | exact Nat.lt_of_le_of_lt (mul_bound (by omega) (by omega)) (by decide))]
 refine RN.bq (no 1) [2, 3, 4, 19] [] 6 [(2, .int .u32 ((u0 : Nat) : Int)), (3, .int .u32 ((v1 : Nat) : Int)), (4, .int .u32 ((v0 : Nat) : Int)), (19, .int .u64 (IntKind.u64.wrap ((BitVec.ofInt 64 ((u2 * 2 ^ 32 : Nat) : Int) ||| BitVec.ofInt 64 ((u1 : Nat) : Int)).toNat : Nat)))] k_ ?_
 rw [show (IntKind.u64.wrap ((BitVec.ofInt 64 ((u2 * 2 ^ 32 : Nat) : Int) ||| BitVec.ofInt 64 ((u1 : Nat) : Int)).toNat : Nat)) = ((u2 * 4294967296 + u1 : Nat) : Int) from by rw [bv_or (by omega) (by omega), or_shift _ _ 32 (by omega)]; exact uw64b _ rfl (by omega)]
 refine RN.bq (no 1) [2, 3, 4, 11] [] 7 [(2, .int .u32 ((u0 : Nat) : Int)), (3, .int .u32 ((v1 : Nat) : Int)), (4, .int .u32 ((v0 : Nat) : Int)), (11, .int .u64 ((u2 * 4294967296 + u1 : Nat) : Int))] k_ ?_
 refine RN.fin k_ ?_
 refine J.seq ?_
 refine J.regD k_ [] ?_
 refine RD.bq (nl [0, 1, 2]) [2, 3, 4, 11, 20, 22] [] [(2, .int .u32 ((u0 : Nat) : Int)), (3, .int .u32 ((v1 : Nat) : Int)), (4, .int .u32 ((v0 : Nat) : Int)), (11, .int .u64 ((u2 * 4294967296 + u1 : Nat) : Int)), (20, .int .u64 ((u2 * 4294967296 + u1 : Nat) : Int)), (22, .int .u64 (IntKind.u64.wrap ((v1 : Nat) : Int)))] k_ k_ ?_
 rw [show IntKind.u64.wrap ((v1 : Nat) : Int) = ((v1 : Nat) : Int) from uw64b v1 (by rfl) (by first | omega | exact Nat.lt_of_le_of_lt (mul_bound (by omega) (by omega)) (by decide))]
 refine RD.bq (nl [4, 5, 6]) [2, 3, 4, 20, 22, 24, 26] [] [(2, .int .u32 ((u0 : Nat) : Int)), (3, .int .u32 ((v1 : Nat) : Int)), (4, .int .u32 ((v0 : Nat) : Int)), (20, .int .u64 ((u2 * 4294967296 + u1 : Nat) : Int)), (22, .int .u64 ((v1 : Nat) : Int)), (24, .int .u64 ((u2 * 4294967296 + u1 : Nat) : Int)), (26, .int .u64 (IntKind.u64.wrap ((v1 : Nat) : Int)))] k_ k_ ?_
 rw [show IntKind.u64.wrap ((v1 : Nat) : Int) = ((v1 : Nat) : Int) from uw64b v1 (by rfl) (by first | omega | exact Nat.lt_of_le_of_lt (mul_bound (by omega) (by omega)) (by decide))]
 refine RD.val (i := 3) _ k_ k_ k_ (q_quo (T := 109) (T' := 109) (x := (.tmp 20)) (y := (.tmp 22)) (k := .u64) (a := ((u2 * 4294967296 + u1 : Nat) : Int)) (b := ((v1 : Nat) : Int)) k_ k_ k_ (by omega)) ?_
 rw [show IntKind.u64.wrap (Int.tdiv ((u2 * 4294967296 + u1 : Nat) : Int) ((v1 : Nat) : Int)) = (((u2 * 4294967296 + u1) / v1 : Nat) : Int) from uw64b ((u2 * 4294967296 + u1) / v1) (by rw [show (((v1 : Nat) : Int) : Int) = ((v1 : Nat) : Int) from rfl, tdivn]) (by first | omega | exact Nat.lt_of_le_of_lt (mul_bound (by omega) (by omega)) (by decide))]
 refine RD.bq (nl [8]) [2, 3, 4, 12, 24, 26] [] [(2, .int .u32 ((u0 : Nat) : Int)), (3, .int .u32 ((v1 : Nat) : Int)), (4, .int .u32 ((v0 : Nat) : Int)), (12, .int .u64 (((u2 * 4294967296 + u1) / v1 : Nat) : Int)), (24, .int .u64 ((u2 * 4294967296 + u1 : Nat) : Int)), (26, .int .u64 ((v1 : Nat) : Int))] k_ k_ ?_
 refine RD.val (i := 7) _ k_ k_ k_ (q_rem (T := 109) (T' := 109) (x := (.tmp 24)) (y := (.tmp 26)) (k := .u64) (a := ((u2 * 4294967296 + u1 : Nat) : Int)) (b := ((v1 : Nat) : Int)) k_ k_ k_ (by omega)) ?_
 rw [show Int.tmod ((u2 * 4294967296 + u1 : Nat) : Int) ((v1 : Nat) : Int) = (((u2 * 4294967296 + u1) % v1 : Nat) : Int) from by rw [show (((v1 : Nat) : Int) : Int) = ((v1 : Nat) : Int) from rfl, tmodn]]
 refine RD.bq (nl [9]) [2, 3, 4, 12, 13] [] [(2, .int .u32 ((u0 : Nat) : Int)), (3, .int .u32 ((v1 : Nat) : Int)), (4, .int .u32 ((v0 : Nat) : Int)), (12, .int .u64 (((u2 * 4294967296 + u1) / v1 : Nat) : Int)), (13, .int .u64 (((u2 * 4294967296 + u1) % v1 : Nat) : Int))] k_ k_ ?_
 refine RD.done k_ ?_
 refine KN.next ?_
 refine J.seq ?_
 refine J.block ?_
 refine J.loop (ι := (Nat) × (Nat)) (fun x => GueI u2 u1 u0 v1 v0 x.1 x.2 ∧ x.2 < 8589934592) (fun x => x.1) (fun x => [(2, .int .u32 ((u0 : Nat) : Int)), (3, .int .u32 ((v1 : Nat) : Int)), (4, .int .u32 ((v0 : Nat) : Int)), (12, .int .u64 ((x.1 : Nat) : Int)), (13, .int .u64 ((x.2 : Nat) : Int))]) (fun x => []) (fun x => []) ((u2 * 4294967296 + u1) / v1, (u2 * 4294967296 + u1) % v1) [2, 3, 4, 12, 13] [] (⟨GueI.start h3 h5, by have := Nat.mod_lt (u2 * 4294967296 + u1) (by omega : 0 < v1); omega⟩) k_ (by first | rfl | (simp only [encQ_zero]; done) | (simp only [encQ_zero]; rfl)) (by rfl) (fun x1 hI => ?_)
 obtain ⟨q, r⟩ := x1
 replace hI : GueI u2 u1 u0 v1 v0 q r ∧ r < 8589934592 := hI
 obtain ⟨hI1, hI2⟩ := hI
 have hql := hI1.q_le h1 h2 h5
 have hqp : q = 0 → q * v0 = 0 := fun h => by rw [h, Nat.zero_mul]
 refine J.seq ?_
 refine J.sreg ?_
 refine RN.bq (no 3) [2, 3, 4, 12, 13, 30] [] 3 [(2, .int .u32 ((u0 : Nat) : Int)), (3, .int .u32 ((v1 : Nat) : Int)), (4, .int .u32 ((v0 : Nat) : Int)), (12, .int .u64 ((q : Nat) : Int)), (13, .int .u64 ((r : Nat) : Int)), (30, .bool (decide (((r : Nat) : Int) < 4294967296)))] k_ ?_
 refine RN.split 30 (decide (((r : Nat) : Int) < 4294967296)) k_ (fun c2 => ?_) (fun c2 => ?_)
 ·replace c2 := of_decide_eq_true c2
  refine RN.bq (no 3) [2, 3, 4, 12, 13, 30, 33] [] 6 [(2, .int .u32 ((u0 : Nat) : Int)), (3, .int .u32 ((v1 : Nat) : Int)), (4, .int .u32 ((v0 : Nat) : Int)), (12, .int .u64 ((q : Nat) : Int)), (13, .int .u64 ((r : Nat) : Int)), (30, .bool true), (33, .bool (decide (((q : Nat) : Int) ≥ 4294967296)))] k_ ?_
  refine RN.split 33 (decide (((q : Nat) : Int) ≥ 4294967296)) k_ (fun c3 => ?_) (fun c3 => ?_)
  ·replace c3 := of_decide_eq_true c3
   refine RN.bq (no 12) [2, 3, 4, 12, 13, 45] [] 18 [(2, .int .u32 ((u0 : Nat) : Int)), (3, .int .u32 ((v1 : Nat) : Int)), (4, .int .u32 ((v0 : Nat) : Int)), (12, .int .u64 ((q : Nat) : Int)), (13, .int .u64 ((r : Nat) : Int)), (45, .bool true)] k_ ?_
   refine RN.fin k_ ?_
   refine J.condT k_ ?_
   refine J.skip ?_
   refine KN.next ?_
   refine J.block ?_
   refine J.sreg ?_
   refine RN.bq (no 2) [2, 3, 4, 13, 47] [] 2 [(2, .int .u32 ((u0 : Nat) : Int)), (3, .int .u32 ((v1 : Nat) : Int)), (4, .int .u32 ((v0 : Nat) : Int)), (13, .int .u64 ((r : Nat) : Int)), (47, .int .u64 (IntKind.u64.wrap (((q : Nat) : Int) - 1)))] k_ ?_
   rw [show IntKind.u64.wrap (((q : Nat) : Int) - 1) = ((q - 1 : Nat) : Int) from uw64b (q - 1) (by omega) (by omega)]
   refine RN.bq (no 1) [2, 3, 4, 12, 13] [] 3 [(2, .int .u32 ((u0 : Nat) : Int)), (3, .int .u32 ((v1 : Nat) : Int)), (4, .int .u32 ((v0 : Nat) : Int)), (12, .int .u64 ((q - 1 : Nat) : Int)), (13, .int .u64 ((r : Nat) : Int))] k_ ?_
   refine RN.fin k_ ?_
   refine J.regN ?_
   refine RN.bq (no 3) [2, 3, 4, 12, 48, 50] [] 3 [(2, .int .u32 ((u0 : Nat) : Int)), (3, .int .u32 ((v1 : Nat) : Int)), (4, .int .u32 ((v0 : Nat) : Int)), (12, .int .u64 ((q - 1 : Nat) : Int)), (48, .int .u64 ((r : Nat) : Int)), (50, .int .u64 (IntKind.u64.wrap ((v1 : Nat) : Int)))] k_ ?_
   rw [show IntKind.u64.wrap ((v1 : Nat) : Int) = ((v1 : Nat) : Int) from uw64b v1 (by rfl) (by first | omega | exact Nat.lt_of_le_of_lt (mul_bound (by omega) (by omega)) (by decide))]
   refine RN.bq (no 1) [2, 3, 4, 12, 51] [] 4 [(2, .int .u32 ((u0 : Nat) : Int)), (3, .int .u32 ((v1 : Nat) : Int)), (4, .int .u32 ((v0 : Nat) : Int)), (12, .int .u64 ((q - 1 : Nat) : Int)), (51, .int .u64 (IntKind.u64.wrap (((r : Nat) : Int) + ((v1 : Nat) : Int))))] k_ ?_
   rw [show IntKind.u64.wrap (((r : Nat) : Int) + ((v1 : Nat) : Int)) = ((r + v1 : Nat) : Int) from uw64b (r + v1) (by omega) (by first | omega | exact Nat.lt_of_le_of_lt (mul_bound (by omega) (by omega)) (by decide))]
   refine RN.bq (no 1) [2, 3, 4, 12, 13] [] 5 [(2, .int .u32 ((u0 : Nat) : Int)), (3, .int .u32 ((v1 : Nat) : Int)), (4, .int .u32 ((v0 : Nat) : Int)), (12, .int .u64 ((q - 1 : Nat) : Int)), (13, .int .u64 ((r + v1 : Nat) : Int))] k_ ?_
   refine RN.done k_ ?_
   refine KN.blk ?_
   have hs := hI1.step h1 h2 h5 (.inl (by omega))
   refine KN.roundE (q - 1, r + v1) [2, 3, 4, 12, 13] [] (l2 := [(2, .int .u32 ((u0 : Nat) : Int)), (3, .int .u32 ((v1 : Nat) : Int)), (4, .int .u32 ((v0 : Nat) : Int)), (12, .int .u64 ((q - 1 : Nat) : Int)), (13, .int .u64 ((r + v1 : Nat) : Int))]) (by (try dsimp only); exact Nat.sub_lt hs.1 (by decide)) (by (try dsimp only); exact ⟨hs.2, by omega⟩) k_ (by rfl) (by rfl) (by rfl)
  ·replace c3 := of_decide_eq_false c3
   refine RN.bq (no 3) [2, 3, 4, 12, 13, 30, 33, 34, 36] [] 9 [(2, .int .u32 ((u0 : Nat) : Int)), (3, .int .u32 ((v1 : Nat) : Int)), (4, .int .u32 ((v0 : Nat) : Int)), (12, .int .u64 ((q : Nat) : Int)), (13, .int .u64 ((r : Nat) : Int)), (30, .bool true), (33, .bool false), (34, .int .u64 ((q : Nat) : Int)), (36, .int .u64 (IntKind.u64.wrap ((v0 : Nat) : Int)))] k_ ?_
   rw [show IntKind.u64.wrap ((v0 : Nat) : Int) = ((v0 : Nat) : Int) from uw64b v0 (by rfl) (by first | omega | exact Nat.lt_of_le_of_lt (mul_bound (by omega) (by omega)) (by decide))]
   refine RN.bq (no 1) [2, 3, 4, 12, 13, 30, 33, 37] [] 10 [(2, .int .u32 ((u0 : Nat) : Int)), (3, .int .u32 ((v1 : Nat) : Int)), (4, .int .u32 ((v0 : Nat) : Int)), (12, .int .u64 ((q : Nat) : Int)), (13, .int .u64 ((r : Nat) : Int)), (30, .bool true), (33, .bool false), (37, .int .u64 (IntKind.u64.wrap (((q : Nat) : Int) * ((v0 : Nat) : Int))))] k_ ?_
   rw [show IntKind.u64.wrap (((q : Nat) : Int) * ((v0 : Nat) : Int)) = ((q * v0 : Nat) : Int) from uw64b (q * v0) (by simp) (by first | omega | exact Nat.lt_of_le_of_lt (mul_bound (by omega) (by omega)) (by decide))]
   refine RN.bq (no 2) [2, 3, 4, 12, 13, 30, 33, 37, 39] [] 12 [(2, .int .u32 ((u0 : Nat) : Int)), (3, .int .u32 ((v1 : Nat) : Int)), (4, .int .u32 ((v0 : Nat) : Int)), (12, .int .u64 ((q : Nat) : Int)), (13, .int .u64 ((r : Nat) : Int)), (30, .bool true), (33, .bool false), (37, .int .u64 ((q * v0 : Nat) : Int)), (39, .int .u64 (IntKind.u64.wrap (((r : Nat) : Int) * 2 ^ 32)))] k_ ?_
   rw [show IntKind.u64.wrap (((r : Nat) : Int) * 2 ^ 32) = ((r * 2 ^ 32 : Nat) : Int) from uw64b (r * 2 ^ 32) (by simp) (by first | omega | exact Nat.lt_of_le_of_lt (mul_bound (by omega) (by omega)) (by decide))]
   refine RN.bq (no 2) [2, 3, 4, 12, 13, 30, 33, 37, 39, 41] [] 14 [(2, .int .u32 ((u0 : Nat) : Int)), (3, .int .u32 ((v1 : Nat) : Int)), (4, .int .u32 ((v0 : Nat) : Int)), (12, .int .u64 ((q : Nat) : Int)), (13, .int .u64 ((r : Nat) : Int)), (30, .bool true), (33, .bool false), (37, .int .u64 ((q * v0 : Nat) : Int)), (39, .int .u64 ((r * 2 ^ 32 : Nat) : Int)), (41, .int .u64 (IntKind.u64.wrap ((u0 : Nat) : Int)))] k_ ?_
   rw [show IntKind.u64.wrap ((u0 : Nat) : Int) = ((u0 : Nat) : Int) from uw64b u0 (by rfl) (by first | omega | exact Nat.lt_of_le_of_lt (mul_bound (by omega) (by omega)) (by decide))]
   refine RN.bq (no 1) [2, 3, 4, 12, 13, 30, 33, 37, 42] [] 15 [(2, .int .u32 ((u0 : Nat) : Int)), (3, .int .u32 ((v1 : Nat) : Int)), (4, .int .u32 ((v0 : Nat) : Int)), (12, .int .u64 ((q : Nat) : Int)), (13, .int .u64 ((r : Nat) : Int)), (30, .bool true), (33, .bool false), (37, .int .u64 ((q * v0 : Nat) : Int)), (42, .int .u64 (IntKind.u64.wrap ((BitVec.ofInt 64 ((r * 2 ^ 32 : Nat) : Int) ||| BitVec.ofInt 64 ((u0 : Nat) : Int)).toNat : Nat)))] k_ ?_
   rw [show (IntKind.u64.wrap ((BitVec.ofInt 64 ((r * 2 ^ 32 : Nat) : Int) ||| BitVec.ofInt 64 ((u0 : Nat) : Int)).toNat : Nat)) = ((r * 4294967296 + u0 : Nat) : Int) from by rw [bv_or (by omega) (by omega), or_shift _ _ 32 (by omega)]; exact uw64b _ rfl (by omega)]
   refine RN.bq (no 3) [2, 3, 4, 12, 13, 45] [] 18 [(2, .int .u32 ((u0 : Nat) : Int)), (3, .int .u32 ((v1 : Nat) : Int)), (4, .int .u32 ((v0 : Nat) : Int)), (12, .int .u64 ((q : Nat) : Int)), (13, .int .u64 ((r : Nat) : Int)), (45, .bool (decide (((q * v0 : Nat) : Int) > ((r * 4294967296 + u0 : Nat) : Int))))] k_ ?_
   refine RN.fin k_ ?_
   refine J.cond (decide (((q * v0 : Nat) : Int) > ((r * 4294967296 + u0 : Nat) : Int))) k_ (fun c4 => ?_) (fun c4 => ?_)
   ·replace c4 := of_decide_eq_true c4
    refine J.skip ?_
    refine KN.next ?_
    refine J.block ?_
    refine J.sreg ?_
    refine RN.bq (no 2) [2, 3, 4, 13, 47] [] 2 [(2, .int .u32 ((u0 : Nat) : Int)), (3, .int .u32 ((v1 : Nat) : Int)), (4, .int .u32 ((v0 : Nat) : Int)), (13, .int .u64 ((r : Nat) : Int)), (47, .int .u64 (IntKind.u64.wrap (((q : Nat) : Int) - 1)))] k_ ?_
    rw [show IntKind.u64.wrap (((q : Nat) : Int) - 1) = ((q - 1 : Nat) : Int) from uw64b (q - 1) (by omega) (by omega)]
    refine RN.bq (no 1) [2, 3, 4, 12, 13] [] 3 [(2, .int .u32 ((u0 : Nat) : Int)), (3, .int .u32 ((v1 : Nat) : Int)), (4, .int .u32 ((v0 : Nat) : Int)), (12, .int .u64 ((q - 1 : Nat) : Int)), (13, .int .u64 ((r : Nat) : Int))] k_ ?_
    refine RN.fin k_ ?_
    refine J.regN ?_
    refine RN.bq (no 3) [2, 3, 4, 12, 48, 50] [] 3 [(2, .int .u32 ((u0 : Nat) : Int)), (3, .int .u32 ((v1 : Nat) : Int)), (4, .int .u32 ((v0 : Nat) : Int)), (12, .int .u64 ((q - 1 : Nat) : Int)), (48, .int .u64 ((r : Nat) : Int)), (50, .int .u64 (IntKind.u64.wrap ((v1 : Nat) : Int)))] k_ ?_
    rw [show IntKind.u64.wrap ((v1 : Nat) : Int) = ((v1 : Nat) : Int) from uw64b v1 (by rfl) (by first | omega | exact Nat.lt_of_le_of_lt (mul_bound (by omega) (by omega)) (by decide))]
    refine RN.bq (no 1) [2, 3, 4, 12, 51] [] 4 [(2, .int .u32 ((u0 : Nat) : Int)), (3, .int .u32 ((v1 : Nat) : Int)), (4, .int .u32 ((v0 : Nat) : Int)), (12, .int .u64 ((q - 1 : Nat) : Int)), (51, .int .u64 (IntKind.u64.wrap (((r : Nat) : Int) + ((v1 : Nat) : Int))))] k_ ?_
    rw [show IntKind.u64.wrap (((r : Nat) : Int) + ((v1 : Nat) : Int)) = ((r + v1 : Nat) : Int) from uw64b (r + v1) (by omega) (by first | omega | exact Nat.lt_of_le_of_lt (mul_bound (by omega) (by omega)) (by decide))]
    refine RN.bq (no 1) [2, 3, 4, 12, 13] [] 5 [(2, .int .u32 ((u0 : Nat) : Int)), (3, .int .u32 ((v1 : Nat) : Int)), (4, .int .u32 ((v0 : Nat) : Int)), (12, .int .u64 ((q - 1 : Nat) : Int)), (13, .int .u64 ((r + v1 : Nat) : Int))] k_ ?_
    refine RN.done k_ ?_
    refine KN.blk ?_
    have hs := hI1.step h1 h2 h5 (.inr (by omega))
    refine KN.roundE (q - 1, r + v1) [2, 3, 4, 12, 13] [] (l2 := [(2, .int .u32 ((u0 : Nat) : Int)), (3, .int .u32 ((v1 : Nat) : Int)), (4, .int .u32 ((v0 : Nat) : Int)), (12, .int .u64 ((q - 1 : Nat) : Int)), (13, .int .u64 ((r + v1 : Nat) : Int))]) (by (try dsimp only); exact Nat.sub_lt hs.1 (by decide)) (by (try dsimp only); exact ⟨hs.2, by omega⟩) k_ (by rfl) (by rfl) (by rfl)
   ·replace c4 := of_decide_eq_false c4
    refine J.exit (KX.next (KX.next (KX.hit ?_)))
    refine KN.next ?_
    refine J.sreg ?_
    refine RN.bq (no 2) [10] [] 2 [(10, .int .u64 ((q : Nat) : Int))] k_ ?_
    refine RN.fin k_ ?_
    have e_1 : (((min (((u2 * 4294967296 + u1) * 4294967296 + u0) / (v1 * 4294967296 + v0)) 4294967295 : Nat) : Int) : Int) = (((q : Nat) : Int) : Int) := by first | (rw [← hI1.done h1 h2 h4 h5 (.inl (by omega))]) | (rw [← hI1.done h1 h2 h4 h5 (.inr (by omega))])
    refine J.ret (KR.ret (v := .int .u64 ((q : Nat) : Int)) (()) [none] [] [] k_ v1_ (trivial) v1_)
 ·replace c2 := of_decide_eq_false c2
  refine RN.bq (no 15) [2, 3, 4, 12, 13, 45] [] 18 [(2, .int .u32 ((u0 : Nat) : Int)), (3, .int .u32 ((v1 : Nat) : Int)), (4, .int .u32 ((v0 : Nat) : Int)), (12, .int .u64 ((q : Nat) : Int)), (13, .int .u64 ((r : Nat) : Int)), (45, .bool false)] k_ ?_
  refine RN.fin k_ ?_
  refine J.condF k_ ?_
  refine J.exit (KX.next (KX.next (KX.hit ?_)))
  refine KN.next ?_
  refine J.sreg ?_
  refine RN.bq (no 2) [10] [] 2 [(10, .int .u64 ((q : Nat) : Int))] k_ ?_
  refine RN.fin k_ ?_
  have e_1 : (((min (((u2 * 4294967296 + u1) * 4294967296 + u0) / (v1 * 4294967296 + v0)) 4294967295 : Nat) : Int) : Int) = (((q : Nat) : Int) : Int) := by first | (rw [← hI1.done h1 h2 h4 h5 (.inl (by omega))]) | (rw [← hI1.done h1 h2 h4 h5 (.inr (by omega))])
  refine J.ret (KR.ret (v := .int .u64 ((q : Nat) : Int)) (()) [none] [] [] k_ v1_ (trivial) v1_)
end Go.Proofs.YtbiifkfbkaejlaaGreat.E
namespace Go.Proofs.YtbiifkfbkaejlaaGreat.E
open Go Go.RowKit
set_option linter.unusedVariables false
set_option linter.unusedSimpArgs false
theorem y_natural_reduce {p : Prop} (h : p := by first | assumption | exact Lb_toL _ | omega | (simp; done) | exact Nat.mod_lt _ (by decide)) : p := h
theorem natural_reduce (b : Nat) (o : Nat) (n : Nat) (cap : Nat) (xs : List Nat) (s : SA) (v : Nat) (q : Nat) (hL : Lb xs) (hn : o + n ≤ xs.length) (hlen : xs.length ≤ 2199023255552) (hvn : (toL v).length < n) (hq : q < 4294967296) : SpecM Tryz.prog 166 #[.slice (some ⟨b, o, none⟩) n cap, sl s (toL v).length, .int .u64 ((q : Nat) : Int)] [(b, .cells (encU xs) 107 (0, 0))] [fU s (toL v)] (ι := List Nat × Bool) (fun y => .bool y.2) (fun y => y.1.length = xs.length ∧ Lb y.1 ∧ (∀ i, (i < o ∨ o + n ≤ i) → y.1.getD i 0 = xs.getD i 0) ∧ svl y.1 o n + q * v = svl xs o n + W ^ n * (if y.2 then 1 else 0)) (fun y => [(b, .cells (encU y.1) 107 (0, 0))]) (fun y => []) := by
 refine SpecM.of_body _ (fn := Tryz.f166) k_ rfl k_ (fun X w0 => ?_)
 refine J.fact (φ := (toL v).length ≤ 140737488355328) (fun w h => by have := (h _ (.head _)).1; omega) (fun hl1 => ?_)
 refine J.sreg ?_
 refine RN.bq (no 1) [0, 1, 2] [] 1 [(0, .slice (some ⟨b, o, none⟩) n cap), (1, sl s (toL v).length), (2, .int .u64 ((q : Nat) : Int))] k_ ?_
 refine RN.fs k_ ?_
 refine RN.bq (no 2) [0, 1, 2, 7, 8] [] 2 [(0, .slice (some ⟨b, o, none⟩) n cap), (1, sl s (toL v).length), (2, .int .u64 ((q : Nat) : Int)), (7, .int .u64 0), (8, .int .u32 0)] k_ ?_
 refine RN.fin k_ ?_
 refine J.seq ?_
 refine J.sreg ?_
 refine RN.bq (no 3) [0, 1, 2, 7, 8, 12, 13] [] 3 [(0, .slice (some ⟨b, o, none⟩) n cap), (1, sl s (toL v).length), (2, .int .u64 ((q : Nat) : Int)), (7, .int .u64 0), (8, .int .u32 0), (12, .int .i64 ((n : Nat) : Int)), (13, .int .i64 0)] k_ ?_
 refine RN.fin k_ ?_
 refine J.block ?_
 refine J.loop (ι := (Nat) × (List Nat) × (Nat) × (Nat)) (fun x => x.1 ≤ n ∧ RedI xs (toL v) q o x.2.1 x.1 x.2.2.1 x.2.2.2) (fun x => n - x.1) (fun x => [(0, .slice (some ⟨b, o, none⟩) n cap), (1, sl s (toL v).length), (2, .int .u64 ((q : Nat) : Int)), (7, .int .u64 ((x.2.2.1 : Nat) : Int)), (8, .int .u32 ((x.2.2.2 : Nat) : Int)), (12, .int .i64 ((n : Nat) : Int)), (13, .int .i64 ((x.1 : Nat) : Int))]) (fun x => [(b, .cells (encU x.2.1) 107 (0, 0))]) (fun x => [fU s (toL v)]) (0, xs, 0, 0) [0, 1, 2, 7, 8, 12, 13] [0] (⟨Nat.zero_le _, RedI.start hL⟩) k_ (by first | rfl | (simp only [encQ_zero]; done) | (simp only [encQ_zero]; rfl)) (by rfl) (fun x2 hI => ?_)
 obtain ⟨k, out, c, bo⟩ := x2
 replace hI : k ≤ n ∧ RedI xs (toL v) q o out k c bo := hI
 obtain ⟨hI1, hI2⟩ := hI
 have hI3 := hI2.1
 have hI4 := hI2.2.2.2.1
 have hI5 := hI2.2.2.2.2.1
 have hga : out.getD (o + k) 0 < 4294967296 := hI2.2.1.getD _
 have hgv : (toL v).getD k 0 < 4294967296 := (Lb_toL v).getD k
 have hqy : q * (toL v).getD k 0 ≤ 4294967295 * 4294967295 := Nat.mul_le_mul (by omega) (by omega)
 have hq0 : q * 0 = 0 := Nat.mul_zero q
 refine J.sreg ?_
 refine RN.bq (no 1) [0, 1, 2, 7, 8, 12, 13, 14] [] 1 [(0, .slice (some ⟨b, o, none⟩) n cap), (1, sl s (toL v).length), (2, .int .u64 ((q : Nat) : Int)), (7, .int .u64 ((c : Nat) : Int)), (8, .int .u32 ((bo : Nat) : Int)), (12, .int .i64 ((n : Nat) : Int)), (13, .int .i64 ((k : Nat) : Int)), (14, .bool (decide (((k : Nat) : Int) < ((n : Nat) : Int))))] k_ ?_
 refine RN.fin k_ ?_
 refine J.seq ?_
 refine J.cond (decide (((k : Nat) : Int) < ((n : Nat) : Int))) k_ (fun c3 => ?_) (fun c3 => ?_)
 ·replace c3 := of_decide_eq_true c3
  refine J.skip ?_
  refine KN.next ?_
  refine J.seq ?_
  refine J.block ?_
  refine J.sreg ?_
  refine RN.bq (no 2) [0, 1, 2, 7, 8, 9, 12, 13] [] 2 [(0, .slice (some ⟨b, o, none⟩) n cap), (1, sl s (toL v).length), (2, .int .u64 ((q : Nat) : Int)), (7, .int .u64 ((c : Nat) : Int)), (8, .int .u32 ((bo : Nat) : Int)), (9, .int .i64 ((k : Nat) : Int)), (12, .int .i64 ((n : Nat) : Int)), (13, .int .i64 ((k : Nat) : Int))] k_ ?_
  refine RN.fs k_ ?_
  refine RN.bq (no 1) [0, 1, 2, 7, 8, 9, 10, 12, 13] [] 1 [(0, .slice (some ⟨b, o, none⟩) n cap), (1, sl s (toL v).length), (2, .int .u64 ((q : Nat) : Int)), (7, .int .u64 ((c : Nat) : Int)), (8, .int .u32 ((bo : Nat) : Int)), (9, .int .i64 ((k : Nat) : Int)), (10, .int .u64 0), (12, .int .i64 ((n : Nat) : Int)), (13, .int .i64 ((k : Nat) : Int))] k_ ?_
  refine RN.fin k_ ?_
  refine J.seq ?_
  refine J.sreg ?_
  refine RN.bq (no 4) [0, 1, 2, 7, 8, 9, 10, 12, 13, 19] [] 4 [(0, .slice (some ⟨b, o, none⟩) n cap), (1, sl s (toL v).length), (2, .int .u64 ((q : Nat) : Int)), (7, .int .u64 ((c : Nat) : Int)), (8, .int .u32 ((bo : Nat) : Int)), (9, .int .i64 ((k : Nat) : Int)), (10, .int .u64 0), (12, .int .i64 ((n : Nat) : Int)), (13, .int .i64 ((k : Nat) : Int)), (19, .bool (decide (((k : Nat) : Int) < (((toL v).length : Nat) : Int))))] k_ ?_
  refine RN.fin k_ ?_
  refine J.cond (decide (((k : Nat) : Int) < (((toL v).length : Nat) : Int))) k_ (fun c4 => ?_) (fun c4 => ?_)
  ·replace c4 := of_decide_eq_true c4
   refine J.regN ?_
   refine RN.bq (no 2) [0, 1, 2, 7, 8, 9, 12, 13, 20, 21] [] 2 [(0, .slice (some ⟨b, o, none⟩) n cap), (1, sl s (toL v).length), (2, .int .u64 ((q : Nat) : Int)), (7, .int .u64 ((c : Nat) : Int)), (8, .int .u32 ((bo : Nat) : Int)), (9, .int .i64 ((k : Nat) : Int)), (12, .int .i64 ((n : Nat) : Int)), (13, .int .i64 ((k : Nat) : Int)), (20, sl s (toL v).length), (21, .int .i64 ((k : Nat) : Int))] k_ ?_
   refine RN.val _ k_ k_ (q_uidx (t := 36) (x := (.tmp 20)) (ix := (.tmp 21)) (K := .i64) (i0 := ((k : Nat) : Int)) (m := k) (e := 107) 0 rfl k_ k_ k_ k_ k_ (by omega) x_) ?_
   refine RN.val _ k_ k_ (q_uload (T := 107) (x := (.tmp 22)) (m := k) (s := s) (xs := toL v) 0 rfl k_ k_ k_ x_) ?_
   refine RN.bq (no 1) [0, 1, 2, 7, 8, 9, 12, 13, 24] [] 5 [(0, .slice (some ⟨b, o, none⟩) n cap), (1, sl s (toL v).length), (2, .int .u64 ((q : Nat) : Int)), (7, .int .u64 ((c : Nat) : Int)), (8, .int .u32 ((bo : Nat) : Int)), (9, .int .i64 ((k : Nat) : Int)), (12, .int .i64 ((n : Nat) : Int)), (13, .int .i64 ((k : Nat) : Int)), (24, .int .u64 (IntKind.u64.wrap (((toL v).getD k 0 : Nat) : Int)))] k_ ?_
   rw [show IntKind.u64.wrap (((toL v).getD k 0 : Nat) : Int) = (((toL v).getD k 0 : Nat) : Int) from uw64b ((toL v).getD k 0) (by rfl) (by omega)]
   refine RN.bq (no 1) [0, 1, 2, 7, 8, 9, 10, 12, 13] [] 6 [(0, .slice (some ⟨b, o, none⟩) n cap), (1, sl s (toL v).length), (2, .int .u64 ((q : Nat) : Int)), (7, .int .u64 ((c : Nat) : Int)), (8, .int .u32 ((bo : Nat) : Int)), (9, .int .i64 ((k : Nat) : Int)), (10, .int .u64 (((toL v).getD k 0 : Nat) : Int)), (12, .int .i64 ((n : Nat) : Int)), (13, .int .i64 ((k : Nat) : Int))] k_ ?_
   refine RN.fs k_ ?_
   refine RN.bq (no 4) [0, 1, 2, 8, 9, 12, 13, 25, 28] [] 4 [(0, .slice (some ⟨b, o, none⟩) n cap), (1, sl s (toL v).length), (2, .int .u64 ((q : Nat) : Int)), (8, .int .u32 ((bo : Nat) : Int)), (9, .int .i64 ((k : Nat) : Int)), (12, .int .i64 ((n : Nat) : Int)), (13, .int .i64 ((k : Nat) : Int)), (25, .int .u64 ((c : Nat) : Int)), (28, .int .u64 (IntKind.u64.wrap (((q : Nat) : Int) * (((toL v).getD k 0 : Nat) : Int))))] k_ ?_
   rw [show IntKind.u64.wrap (((q : Nat) : Int) * (((toL v).getD k 0 : Nat) : Int)) = ((q * ((toL v).getD k 0) : Nat) : Int) from uw64b (q * ((toL v).getD k 0)) (by simp) (by omega)]
   refine RN.bq (no 1) [0, 1, 2, 8, 9, 12, 13, 29] [] 5 [(0, .slice (some ⟨b, o, none⟩) n cap), (1, sl s (toL v).length), (2, .int .u64 ((q : Nat) : Int)), (8, .int .u32 ((bo : Nat) : Int)), (9, .int .i64 ((k : Nat) : Int)), (12, .int .i64 ((n : Nat) : Int)), (13, .int .i64 ((k : Nat) : Int)), (29, .int .u64 (IntKind.u64.wrap (((c : Nat) : Int) + ((q * ((toL v).getD k 0) : Nat) : Int))))] k_ ?_
   rw [show IntKind.u64.wrap (((c : Nat) : Int) + ((q * ((toL v).getD k 0) : Nat) : Int)) = ((c + (q * ((toL v).getD k 0)) : Nat) : Int) from uw64b (c + (q * ((toL v).getD k 0))) (by omega) (by omega)]
   refine RN.bq (no 1) [0, 1, 2, 7, 8, 9, 12, 13] [] 6 [(0, .slice (some ⟨b, o, none⟩) n cap), (1, sl s (toL v).length), (2, .int .u64 ((q : Nat) : Int)), (7, .int .u64 ((c + (q * ((toL v).getD k 0)) : Nat) : Int)), (8, .int .u32 ((bo : Nat) : Int)), (9, .int .i64 ((k : Nat) : Int)), (12, .int .i64 ((n : Nat) : Int)), (13, .int .i64 ((k : Nat) : Int))] k_ ?_
   refine RN.fs k_ ?_
   refine RN.bq (no 4) [0, 1, 2, 7, 8, 12, 13, 31, 32, 33, 34] [] 4 [(0, .slice (some ⟨b, o, none⟩) n cap), (1, sl s (toL v).length), (2, .int .u64 ((q : Nat) : Int)), (7, .int .u64 ((c + (q * ((toL v).getD k 0)) : Nat) : Int)), (8, .int .u32 ((bo : Nat) : Int)), (12, .int .i64 ((n : Nat) : Int)), (13, .int .i64 ((k : Nat) : Int)), (31, .slice (some ⟨b, o, none⟩) n cap), (32, .int .i64 ((k : Nat) : Int)), (33, .slice (some ⟨b, o, none⟩) n cap), (34, .int .i64 ((k : Nat) : Int))] k_ ?_
   refine RN.val _ k_ k_ (q_oidxo (t := 36) (x := (.tmp 33)) (ix := (.tmp 34)) (b := b) (o := o) (n := n) (c := cap) (K := .i64) (i0 := ((k : Nat) : Int)) (m := k) (e := 107) k_ k_ k_ k_ k_ (by omega) x_) ?_
   refine RN.val _ k_ k_ (q_oload (mi := 0) (T := 107) (x := (.tmp 35)) (m := (o + k)) (xs := out) rfl k_ k_ k_ x_) ?_
   refine RN.bq (no 2) [0, 1, 2, 7, 8, 12, 13, 31, 32, 36, 38] [] 8 [(0, .slice (some ⟨b, o, none⟩) n cap), (1, sl s (toL v).length), (2, .int .u64 ((q : Nat) : Int)), (7, .int .u64 ((c + (q * ((toL v).getD k 0)) : Nat) : Int)), (8, .int .u32 ((bo : Nat) : Int)), (12, .int .i64 ((n : Nat) : Int)), (13, .int .i64 ((k : Nat) : Int)), (31, .slice (some ⟨b, o, none⟩) n cap), (32, .int .i64 ((k : Nat) : Int)), (36, .int .u32 ((out.getD (o + k) 0 : Nat) : Int)), (38, .int .u32 (IntKind.u32.wrap ((c + (q * ((toL v).getD k 0)) : Nat) : Int)))] k_ ?_
   rw [show IntKind.u32.wrap ((c + (q * ((toL v).getD k 0)) : Nat) : Int) = (((c + (q * ((toL v).getD k 0))) % 4294967296 : Nat) : Int) from uw32e (c + (q * ((toL v).getD k 0))) (by rfl)]
   refine RN.bq (no 1) [0, 1, 2, 7, 12, 13, 31, 32, 36, 38, 39] [] 9 [(0, .slice (some ⟨b, o, none⟩) n cap), (1, sl s (toL v).length), (2, .int .u64 ((q : Nat) : Int)), (7, .int .u64 ((c + (q * ((toL v).getD k 0)) : Nat) : Int)), (12, .int .i64 ((n : Nat) : Int)), (13, .int .i64 ((k : Nat) : Int)), (31, .slice (some ⟨b, o, none⟩) n cap), (32, .int .i64 ((k : Nat) : Int)), (36, .int .u32 ((out.getD (o + k) 0 : Nat) : Int)), (38, .int .u32 (((c + (q * ((toL v).getD k 0))) % 4294967296 : Nat) : Int)), (39, .int .u32 ((bo : Nat) : Int))] k_ ?_
   refine RN.call (bits_Sub32 (out.getD (o + k) 0) ((c + (q * ((toL v).getD k 0))) % 4294967296) bo y_natural_reduce y_natural_reduce y_natural_reduce) [] k_ k_ k_ rfl (fun y5 _ => ?_)
   refine RN.bq (no 3) [0, 1, 2, 7, 12, 13, 31, 32, 41, 42] [] 13 [(0, .slice (some ⟨b, o, none⟩) n cap), (1, sl s (toL v).length), (2, .int .u64 ((q : Nat) : Int)), (7, .int .u64 ((c + (q * ((toL v).getD k 0)) : Nat) : Int)), (12, .int .i64 ((n : Nat) : Int)), (13, .int .i64 ((k : Nat) : Int)), (31, .slice (some ⟨b, o, none⟩) n cap), (32, .int .i64 ((k : Nat) : Int)), (41, .int .u32 ((((out.getD (o + k) 0) + 4294967296 - ((c + (q * ((toL v).getD k 0))) % 4294967296) - bo) % 4294967296 : Nat) : Int)), (42, .int .u32 ((if (out.getD (o + k) 0) < ((c + (q * ((toL v).getD k 0))) % 4294967296) + bo then 1 else 0 : Nat) : Int))] k_ ?_
   refine RN.val _ k_ k_ (q_oidxo (t := 36) (x := (.tmp 31)) (ix := (.tmp 32)) (b := b) (o := o) (n := n) (c := cap) (K := .i64) (i0 := ((k : Nat) : Int)) (m := k) (e := 107) k_ k_ k_ k_ k_ (by omega) x_) ?_
   refine RN.ot k_ k_ (ot_ustore (mi := 0) (T := 107) (x := (.tmp 43)) (y := (.tmp 41)) (b := b) (m := (o + k)) (xs := out) (v := ((((out.getD (o + k) 0) + 4294967296 - ((c + (q * ((toL v).getD k 0))) % 4294967296) - bo) % 4294967296 : Nat) : Int)) (v0 := ((out.getD (o + k) 0) + 4294967296 - ((c + (q * ((toL v).getD k 0))) % 4294967296) - bo) % 4294967296) rfl k_ k_ k_ k_ k_ (by omega) x_) (fun _ _ => ?_)
   refine RN.bq (no 1) [0, 1, 2, 7, 8, 12, 13] [] 16 [(0, .slice (some ⟨b, o, none⟩) n cap), (1, sl s (toL v).length), (2, .int .u64 ((q : Nat) : Int)), (7, .int .u64 ((c + (q * ((toL v).getD k 0)) : Nat) : Int)), (8, .int .u32 ((if (out.getD (o + k) 0) < ((c + (q * ((toL v).getD k 0))) % 4294967296) + bo then 1 else 0 : Nat) : Int)), (12, .int .i64 ((n : Nat) : Int)), (13, .int .i64 ((k : Nat) : Int))] k_ ?_
   refine RN.fin k_ ?_
   refine J.regN ?_
   refine RN.bq (no 2) [0, 1, 2, 8, 12, 13, 45] [] 2 [(0, .slice (some ⟨b, o, none⟩) n cap), (1, sl s (toL v).length), (2, .int .u64 ((q : Nat) : Int)), (8, .int .u32 ((if (out.getD (o + k) 0) < ((c + (q * ((toL v).getD k 0))) % 4294967296) + bo then 1 else 0 : Nat) : Int)), (12, .int .i64 ((n : Nat) : Int)), (13, .int .i64 ((k : Nat) : Int)), (45, .int .u64 (Int.fdiv ((c + (q * ((toL v).getD k 0)) : Nat) : Int) (2 ^ 32)))] k_ ?_
   rw [show Int.fdiv ((c + (q * ((toL v).getD k 0)) : Nat) : Int) (2 ^ 32) = (((c + (q * ((toL v).getD k 0))) / 2 ^ 32 : Nat) : Int) from fdivn _ _]
   refine RN.bq (no 1) [0, 1, 2, 7, 8, 12, 13] [] 3 [(0, .slice (some ⟨b, o, none⟩) n cap), (1, sl s (toL v).length), (2, .int .u64 ((q : Nat) : Int)), (7, .int .u64 (((c + (q * ((toL v).getD k 0))) / 2 ^ 32 : Nat) : Int)), (8, .int .u32 ((if (out.getD (o + k) 0) < ((c + (q * ((toL v).getD k 0))) % 4294967296) + bo then 1 else 0 : Nat) : Int)), (12, .int .i64 ((n : Nat) : Int)), (13, .int .i64 ((k : Nat) : Int))] k_ ?_
   refine RN.done k_ ?_
   refine KN.blk ?_
   refine KN.next ?_
   refine J.regN ?_
   refine RN.bq (no 1) [0, 1, 2, 7, 8, 12, 46] [] 1 [(0, .slice (some ⟨b, o, none⟩) n cap), (1, sl s (toL v).length), (2, .int .u64 ((q : Nat) : Int)), (7, .int .u64 (((c + (q * ((toL v).getD k 0))) / 2 ^ 32 : Nat) : Int)), (8, .int .u32 ((if (out.getD (o + k) 0) < ((c + (q * ((toL v).getD k 0))) % 4294967296) + bo then 1 else 0 : Nat) : Int)), (12, .int .i64 ((n : Nat) : Int)), (46, .int .i64 (IntKind.i64.wrap (((k : Nat) : Int) + 1)))] k_ ?_
   rw [show IntKind.i64.wrap (((k : Nat) : Int) + 1) = ((k + 1 : Nat) : Int) from by rw [IntKind.wrap_i64]; omega]
   refine RN.bq (no 1) [0, 1, 2, 7, 8, 12, 13] [] 2 [(0, .slice (some ⟨b, o, none⟩) n cap), (1, sl s (toL v).length), (2, .int .u64 ((q : Nat) : Int)), (7, .int .u64 (((c + (q * ((toL v).getD k 0))) / 2 ^ 32 : Nat) : Int)), (8, .int .u32 ((if (out.getD (o + k) 0) < ((c + (q * ((toL v).getD k 0))) % 4294967296) + bo then 1 else 0 : Nat) : Int)), (12, .int .i64 ((n : Nat) : Int)), (13, .int .i64 ((k + 1 : Nat) : Int))] k_ ?_
   refine RN.done k_ ?_
   refine KN.roundE (k + 1, out.set (o + k) (((out.getD (o + k) 0) + 4294967296 - ((c + (q * ((toL v).getD k 0))) % 4294967296) - bo) % 4294967296), (c + (q * ((toL v).getD k 0))) / 2 ^ 32, if (out.getD (o + k) 0) < ((c + (q * ((toL v).getD k 0))) % 4294967296) + bo then 1 else 0) [0, 1, 2, 7, 8, 12, 13] [0] (l2 := [(0, .slice (some ⟨b, o, none⟩) n cap), (1, sl s (toL v).length), (2, .int .u64 ((q : Nat) : Int)), (7, .int .u64 (((c + (q * ((toL v).getD k 0))) / 2 ^ 32 : Nat) : Int)), (8, .int .u32 ((if (out.getD (o + k) 0) < ((c + (q * ((toL v).getD k 0))) % 4294967296) + bo then 1 else 0 : Nat) : Int)), (12, .int .i64 ((n : Nat) : Int)), (13, .int .i64 ((k + 1 : Nat) : Int))]) (by (try dsimp only); omega) (by (try dsimp only); exact ⟨by omega, hI2.step (Lb_toL v) (by omega) (by first | rfl | (rw [getD_ge (by omega)])) rfl⟩) k_ (by rfl) (by rfl) (by rfl)
  ·replace c4 := of_decide_eq_false c4
   refine J.skip ?_
   refine KN.next ?_
   refine J.sreg ?_
   refine RN.bq (no 4) [0, 1, 2, 8, 9, 12, 13, 25, 28] [] 4 [(0, .slice (some ⟨b, o, none⟩) n cap), (1, sl s (toL v).length), (2, .int .u64 ((q : Nat) : Int)), (8, .int .u32 ((bo : Nat) : Int)), (9, .int .i64 ((k : Nat) : Int)), (12, .int .i64 ((n : Nat) : Int)), (13, .int .i64 ((k : Nat) : Int)), (25, .int .u64 ((c : Nat) : Int)), (28, .int .u64 (IntKind.u64.wrap (((q : Nat) : Int) * 0)))] k_ ?_
   rw [show IntKind.u64.wrap (((q : Nat) : Int) * 0) = ((q * 0 : Nat) : Int) from uw64b (q * 0) (by simp) (by omega)]
   refine RN.bq (no 1) [0, 1, 2, 8, 9, 12, 13, 29] [] 5 [(0, .slice (some ⟨b, o, none⟩) n cap), (1, sl s (toL v).length), (2, .int .u64 ((q : Nat) : Int)), (8, .int .u32 ((bo : Nat) : Int)), (9, .int .i64 ((k : Nat) : Int)), (12, .int .i64 ((n : Nat) : Int)), (13, .int .i64 ((k : Nat) : Int)), (29, .int .u64 (IntKind.u64.wrap (((c : Nat) : Int) + ((q * 0 : Nat) : Int))))] k_ ?_
   rw [show IntKind.u64.wrap (((c : Nat) : Int) + ((q * 0 : Nat) : Int)) = ((c + (q * 0) : Nat) : Int) from uw64b (c + (q * 0)) (by omega) (by omega)]
   refine RN.bq (no 1) [0, 1, 2, 7, 8, 9, 12, 13] [] 6 [(0, .slice (some ⟨b, o, none⟩) n cap), (1, sl s (toL v).length), (2, .int .u64 ((q : Nat) : Int)), (7, .int .u64 ((c + (q * 0) : Nat) : Int)), (8, .int .u32 ((bo : Nat) : Int)), (9, .int .i64 ((k : Nat) : Int)), (12, .int .i64 ((n : Nat) : Int)), (13, .int .i64 ((k : Nat) : Int))] k_ ?_
   refine RN.fs k_ ?_
   refine RN.bq (no 4) [0, 1, 2, 7, 8, 12, 13, 31, 32, 33, 34] [] 4 [(0, .slice (some ⟨b, o, none⟩) n cap), (1, sl s (toL v).length), (2, .int .u64 ((q : Nat) : Int)), (7, .int .u64 ((c + (q * 0) : Nat) : Int)), (8, .int .u32 ((bo : Nat) : Int)), (12, .int .i64 ((n : Nat) : Int)), (13, .int .i64 ((k : Nat) : Int)), (31, .slice (some ⟨b, o, none⟩) n cap), (32, .int .i64 ((k : Nat) : Int)), (33, .slice (some ⟨b, o, none⟩) n cap), (34, .int .i64 ((k : Nat) : Int))] k_ ?_
   refine RN.val _ k_ k_ (q_oidxo (t := 36) (x := (.tmp 33)) (ix := (.tmp 34)) (b := b) (o := o) (n := n) (c := cap) (K := .i64) (i0 := ((k : Nat) : Int)) (m := k) (e := 107) k_ k_ k_ k_ k_ (by omega) x_) ?_
   refine RN.val _ k_ k_ (q_oload (mi := 0) (T := 107) (x := (.tmp 35)) (m := (o + k)) (xs := out) rfl k_ k_ k_ x_) ?_
   refine RN.bq (no 2) [0, 1, 2, 7, 8, 12, 13, 31, 32, 36, 38] [] 8 [(0, .slice (some ⟨b, o, none⟩) n cap), (1, sl s (toL v).length), (2, .int .u64 ((q : Nat) : Int)), (7, .int .u64 ((c + (q * 0) : Nat) : Int)), (8, .int .u32 ((bo : Nat) : Int)), (12, .int .i64 ((n : Nat) : Int)), (13, .int .i64 ((k : Nat) : Int)), (31, .slice (some ⟨b, o, none⟩) n cap), (32, .int .i64 ((k : Nat) : Int)), (36, .int .u32 ((out.getD (o + k) 0 : Nat) : Int)), (38, .int .u32 (IntKind.u32.wrap ((c + (q * 0) : Nat) : Int)))] k_ ?_
   rw [show IntKind.u32.wrap ((c + (q * 0) : Nat) : Int) = (((c + (q * 0)) % 4294967296 : Nat) : Int) from uw32e (c + (q * 0)) (by rfl)]
   refine RN.bq (no 1) [0, 1, 2, 7, 12, 13, 31, 32, 36, 38, 39] [] 9 [(0, .slice (some ⟨b, o, none⟩) n cap), (1, sl s (toL v).length), (2, .int .u64 ((q : Nat) : Int)), (7, .int .u64 ((c + (q * 0) : Nat) : Int)), (12, .int .i64 ((n : Nat) : Int)), (13, .int .i64 ((k : Nat) : Int)), (31, .slice (some ⟨b, o, none⟩) n cap), (32, .int .i64 ((k : Nat) : Int)), (36, .int .u32 ((out.getD (o + k) 0 : Nat) : Int)), (38, .int .u32 (((c + (q * 0)) % 4294967296 : Nat) : Int)), (39, .int .u32 ((bo : Nat) : Int))] k_ ?_
   refine RN.call (bits_Sub32 (out.getD (o + k) 0) ((c + (q * 0)) % 4294967296) bo y_natural_reduce y_natural_reduce y_natural_reduce) [] k_ k_ k_ rfl (fun y6 _ => ?_)
   refine RN.bq (no 3) [0, 1, 2, 7, 12, 13, 31, 32, 41, 42] [] 13 [(0, .slice (some ⟨b, o, none⟩) n cap), (1, sl s (toL v).length), (2, .int .u64 ((q : Nat) : Int)), (7, .int .u64 ((c + (q * 0) : Nat) : Int)), (12, .int .i64 ((n : Nat) : Int)), (13, .int .i64 ((k : Nat) : Int)), (31, .slice (some ⟨b, o, none⟩) n cap), (32, .int .i64 ((k : Nat) : Int)), (41, .int .u32 ((((out.getD (o + k) 0) + 4294967296 - ((c + (q * 0)) % 4294967296) - bo) % 4294967296 : Nat) : Int)), (42, .int .u32 ((if (out.getD (o + k) 0) < ((c + (q * 0)) % 4294967296) + bo then 1 else 0 : Nat) : Int))] k_ ?_
   refine RN.val _ k_ k_ (q_oidxo (t := 36) (x := (.tmp 31)) (ix := (.tmp 32)) (b := b) (o := o) (n := n) (c := cap) (K := .i64) (i0 := ((k : Nat) : Int)) (m := k) (e := 107) k_ k_ k_ k_ k_ (by omega) x_) ?_
   refine RN.ot k_ k_ (ot_ustore (mi := 0) (T := 107) (x := (.tmp 43)) (y := (.tmp 41)) (b := b) (m := (o + k)) (xs := out) (v := ((((out.getD (o + k) 0) + 4294967296 - ((c + (q * 0)) % 4294967296) - bo) % 4294967296 : Nat) : Int)) (v0 := ((out.getD (o + k) 0) + 4294967296 - ((c + (q * 0)) % 4294967296) - bo) % 4294967296) rfl k_ k_ k_ k_ k_ (by omega) x_) (fun _ _ => ?_)
   refine RN.bq (no 1) [0, 1, 2, 7, 8, 12, 13] [] 16 [(0, .slice (some ⟨b, o, none⟩) n cap), (1, sl s (toL v).length), (2, .int .u64 ((q : Nat) : Int)), (7, .int .u64 ((c + (q * 0) : Nat) : Int)), (8, .int .u32 ((if (out.getD (o + k) 0) < ((c + (q * 0)) % 4294967296) + bo then 1 else 0 : Nat) : Int)), (12, .int .i64 ((n : Nat) : Int)), (13, .int .i64 ((k : Nat) : Int))] k_ ?_
   refine RN.fin k_ ?_
   refine J.regN ?_
   refine RN.bq (no 2) [0, 1, 2, 8, 12, 13, 45] [] 2 [(0, .slice (some ⟨b, o, none⟩) n cap), (1, sl s (toL v).length), (2, .int .u64 ((q : Nat) : Int)), (8, .int .u32 ((if (out.getD (o + k) 0) < ((c + (q * 0)) % 4294967296) + bo then 1 else 0 : Nat) : Int)), (12, .int .i64 ((n : Nat) : Int)), (13, .int .i64 ((k : Nat) : Int)), (45, .int .u64 (Int.fdiv ((c + (q * 0) : Nat) : Int) (2 ^ 32)))] k_ ?_
   rw [show Int.fdiv ((c + (q * 0) : Nat) : Int) (2 ^ 32) = (((c + (q * 0)) / 2 ^ 32 : Nat) : Int) from fdivn _ _]
   refine RN.bq (no 1) [0, 1, 2, 7, 8, 12, 13] [] 3 [(0, .slice (some ⟨b, o, none⟩) n cap), (1, sl s (toL v).length), (2, .int .u64 ((q : Nat) : Int)), (7, .int .u64 (((c + (q * 0)) / 2 ^ 32 : Nat) : Int)), (8, .int .u32 ((if (out.getD (o + k) 0) < ((c + (q * 0)) % 4294967296) + bo then 1 else 0 : Nat) : Int)), (12, .int .i64 ((n : Nat) : Int)), (13, .int .i64 ((k : Nat) : Int))] k_ ?_
   refine RN.done k_ ?_
   refine KN.blk ?_
   refine KN.next ?_
   refine J.regN ?_
   refine RN.bq (no 1) [0, 1, 2, 7, 8, 12, 46] [] 1 [(0, .slice (some ⟨b, o, none⟩) n cap), (1, sl s (toL v).length), (2, .int .u64 ((q : Nat) : Int)), (7, .int .u64 (((c + (q * 0)) / 2 ^ 32 : Nat) : Int)), (8, .int .u32 ((if (out.getD (o + k) 0) < ((c + (q * 0)) % 4294967296) + bo then 1 else 0 : Nat) : Int)), (12, .int .i64 ((n : Nat) : Int)), (46, .int .i64 (IntKind.i64.wrap (((k : Nat) : Int) + 1)))] k_ ?_
   rw [show IntKind.i64.wrap (((k : Nat) : Int) + 1) = ((k + 1 : Nat) : Int) from by rw [IntKind.wrap_i64]; omega]
   refine RN.bq (no 1) [0, 1, 2, 7, 8, 12, 13] [] 2 [(0, .slice (some ⟨b, o, none⟩) n cap), (1, sl s (toL v).length), (2, .int .u64 ((q : Nat) : Int)), (7, .int .u64 (((c + (q * 0)) / 2 ^ 32 : Nat) : Int)), (8, .int .u32 ((if (out.getD (o + k) 0) < ((c + (q * 0)) % 4294967296) + bo then 1 else 0 : Nat) : Int)), (12, .int .i64 ((n : Nat) : Int)), (13, .int .i64 ((k + 1 : Nat) : Int))] k_ ?_
   refine RN.done k_ ?_
   refine KN.roundE (k + 1, out.set (o + k) (((out.getD (o + k) 0) + 4294967296 - ((c + (q * 0)) % 4294967296) - bo) % 4294967296), (c + (q * 0)) / 2 ^ 32, if (out.getD (o + k) 0) < ((c + (q * 0)) % 4294967296) + bo then 1 else 0) [0, 1, 2, 7, 8, 12, 13] [0] (l2 := [(0, .slice (some ⟨b, o, none⟩) n cap), (1, sl s (toL v).length), (2, .int .u64 ((q : Nat) : Int)), (7, .int .u64 (((c + (q * 0)) / 2 ^ 32 : Nat) : Int)), (8, .int .u32 ((if (out.getD (o + k) 0) < ((c + (q * 0)) % 4294967296) + bo then 1 else 0 : Nat) : Int)), (12, .int .i64 ((n : Nat) : Int)), (13, .int .i64 ((k + 1 : Nat) : Int))]) (by (try dsimp only); omega) (by (try dsimp only); exact ⟨by omega, hI2.step (Lb_toL v) (by omega) (by first | rfl | (rw [getD_ge (by omega)])) rfl⟩) k_ (by rfl) (by rfl) (by rfl)
 ·replace c3 := of_decide_eq_false c3
  refine J.exit (KX.next (KX.next (KX.hit ?_)))
  refine KN.next ?_
  refine J.sreg ?_
  refine RN.bq (no 3) [6] [] 3 [(6, .bool ((((bo : Nat) : Int) : Int) != 0))] k_ ?_
  refine RN.fin k_ ?_
  have e_1 : (((out, bo != 0) : List Nat × Bool).2) = ((((bo : Nat) : Int) : Int) != 0) := by rcases (show bo = 0 ∨ bo = 1 from (by omega)) with rfl | rfl <;> rfl
  refine J.ret (KR.retM (v := .bool ((((bo : Nat) : Int) : Int) != 0)) (((out, bo != 0) : List Nat × Bool)) [none] [] [] k_ v1_ (⟨hI3, hI2.2.1, fun i hi => hI2.2.2.1 i (by omega), by have := hI2.done (by omega) (Lb_toL v) hq; rw [lv_toL, show k = n from by omega] at this; rw [this]; rcases (show bo = 0 ∨ bo = 1 from (by omega)) with rfl | rfl <;> rfl⟩) v1_ v1_)
theorem natural_restore (b : Nat) (o : Nat) (n : Nat) (cap : Nat) (xs : List Nat) (s : SA) (v : Nat) (hL : Lb xs) (hn : o + n ≤ xs.length) (hlen : xs.length ≤ 2199023255552) (hvn : (toL v).length ≤ n) : SpecM Tryz.prog 167 #[.slice (some ⟨b, o, none⟩) n cap, sl s (toL v).length] [(b, .cells (encU xs) 107 (0, 0))] [fU s (toL v)] (ι := List Nat × Nat) (fun y => .tuple #[]) (fun y => y.1.length = xs.length ∧ Lb y.1 ∧ (∀ i, (i < o ∨ o + n ≤ i) → y.1.getD i 0 = xs.getD i 0) ∧ y.2 ≤ 1 ∧ svl y.1 o n + W ^ n * y.2 = svl xs o n + v) (fun y => [(b, .cells (encU y.1) 107 (0, 0))]) (fun y => []) := by
 refine SpecM.of_body _ (fn := Tryz.f167) k_ rfl k_ (fun X w0 => ?_)
 refine J.fact (φ := (toL v).length ≤ 140737488355328) (fun w h => by have := (h _ (.head _)).1; omega) (fun hl1 => ?_)
 refine J.sreg ?_
 refine RN.bq (no 1) [0, 1, 4] [] 1 [(0, .slice (some ⟨b, o, none⟩) n cap), (1, sl s (toL v).length), (4, .int .u32 0)] k_ ?_
 refine RN.fs k_ ?_
 refine RN.bq (no 3) [0, 1, 4, 8, 9] [] 3 [(0, .slice (some ⟨b, o, none⟩) n cap), (1, sl s (toL v).length), (4, .int .u32 0), (8, .int .i64 ((n : Nat) : Int)), (9, .int .i64 0)] k_ ?_
 refine RN.fin k_ ?_
 refine J.block ?_
 refine J.loop (ι := (Nat) × (List Nat) × (Nat)) (fun x => x.1 ≤ n ∧ ResI xs (toL v) o x.2.1 x.1 x.2.2) (fun x => n - x.1) (fun x => [(0, .slice (some ⟨b, o, none⟩) n cap), (1, sl s (toL v).length), (4, .int .u32 ((x.2.2 : Nat) : Int)), (8, .int .i64 ((n : Nat) : Int)), (9, .int .i64 ((x.1 : Nat) : Int))]) (fun x => [(b, .cells (encU x.2.1) 107 (0, 0))]) (fun x => [fU s (toL v)]) (0, xs, 0) [0, 1, 4, 8, 9] [0] (⟨Nat.zero_le _, ResI.start hL⟩) k_ (by first | rfl | (simp only [encQ_zero]; done) | (simp only [encQ_zero]; rfl)) (by rfl) (fun x2 hI => ?_)
 obtain ⟨k, out, c⟩ := x2
 replace hI : k ≤ n ∧ ResI xs (toL v) o out k c := hI
 obtain ⟨hI1, hI2⟩ := hI
 have hI3 := hI2.1
 have hI4 := hI2.2.2.2.1
 have hga : out.getD (o + k) 0 < 4294967296 := hI2.2.1.getD _
 have hgv : (toL v).getD k 0 < 4294967296 := (Lb_toL v).getD k
 refine J.sreg ?_
 refine RN.bq (no 1) [0, 1, 4, 8, 9, 10] [] 1 [(0, .slice (some ⟨b, o, none⟩) n cap), (1, sl s (toL v).length), (4, .int .u32 ((c : Nat) : Int)), (8, .int .i64 ((n : Nat) : Int)), (9, .int .i64 ((k : Nat) : Int)), (10, .bool (decide (((k : Nat) : Int) < ((n : Nat) : Int))))] k_ ?_
 refine RN.fin k_ ?_
 refine J.seq ?_
 refine J.cond (decide (((k : Nat) : Int) < ((n : Nat) : Int))) k_ (fun c3 => ?_) (fun c3 => ?_)
 ·replace c3 := of_decide_eq_true c3
  refine J.skip ?_
  refine KN.next ?_
  refine J.seq ?_
  refine J.block ?_
  refine J.sreg ?_
  refine RN.bq (no 2) [0, 1, 4, 5, 8, 9] [] 2 [(0, .slice (some ⟨b, o, none⟩) n cap), (1, sl s (toL v).length), (4, .int .u32 ((c : Nat) : Int)), (5, .int .i64 ((k : Nat) : Int)), (8, .int .i64 ((n : Nat) : Int)), (9, .int .i64 ((k : Nat) : Int))] k_ ?_
  refine RN.fs k_ ?_
  refine RN.bq (no 1) [0, 1, 4, 5, 6, 8, 9] [] 1 [(0, .slice (some ⟨b, o, none⟩) n cap), (1, sl s (toL v).length), (4, .int .u32 ((c : Nat) : Int)), (5, .int .i64 ((k : Nat) : Int)), (6, .int .u32 0), (8, .int .i64 ((n : Nat) : Int)), (9, .int .i64 ((k : Nat) : Int))] k_ ?_
  refine RN.fin k_ ?_
  refine J.seq ?_
  refine J.sreg ?_
  refine RN.bq (no 4) [0, 1, 4, 5, 6, 8, 9, 15] [] 4 [(0, .slice (some ⟨b, o, none⟩) n cap), (1, sl s (toL v).length), (4, .int .u32 ((c : Nat) : Int)), (5, .int .i64 ((k : Nat) : Int)), (6, .int .u32 0), (8, .int .i64 ((n : Nat) : Int)), (9, .int .i64 ((k : Nat) : Int)), (15, .bool (decide (((k : Nat) : Int) < (((toL v).length : Nat) : Int))))] k_ ?_
  refine RN.fin k_ ?_
  refine J.cond (decide (((k : Nat) : Int) < (((toL v).length : Nat) : Int))) k_ (fun c4 => ?_) (fun c4 => ?_)
  ·replace c4 := of_decide_eq_true c4
   refine J.regN ?_
   refine RN.bq (no 2) [0, 1, 4, 5, 8, 9, 16, 17] [] 2 [(0, .slice (some ⟨b, o, none⟩) n cap), (1, sl s (toL v).length), (4, .int .u32 ((c : Nat) : Int)), (5, .int .i64 ((k : Nat) : Int)), (8, .int .i64 ((n : Nat) : Int)), (9, .int .i64 ((k : Nat) : Int)), (16, sl s (toL v).length), (17, .int .i64 ((k : Nat) : Int))] k_ ?_
   refine RN.val _ k_ k_ (q_uidx (t := 36) (x := (.tmp 16)) (ix := (.tmp 17)) (K := .i64) (i0 := ((k : Nat) : Int)) (m := k) (e := 107) 0 rfl k_ k_ k_ k_ k_ (by omega) x_) ?_
   refine RN.val _ k_ k_ (q_uload (T := 107) (x := (.tmp 18)) (m := k) (s := s) (xs := toL v) 0 rfl k_ k_ k_ x_) ?_
   refine RN.bq (no 1) [0, 1, 4, 5, 6, 8, 9] [] 5 [(0, .slice (some ⟨b, o, none⟩) n cap), (1, sl s (toL v).length), (4, .int .u32 ((c : Nat) : Int)), (5, .int .i64 ((k : Nat) : Int)), (6, .int .u32 (((toL v).getD k 0 : Nat) : Int)), (8, .int .i64 ((n : Nat) : Int)), (9, .int .i64 ((k : Nat) : Int))] k_ ?_
   refine RN.fin k_ ?_
   refine J.regN ?_
   refine RN.bq (no 4) [0, 1, 4, 6, 8, 9, 21, 22, 23, 24] [] 4 [(0, .slice (some ⟨b, o, none⟩) n cap), (1, sl s (toL v).length), (4, .int .u32 ((c : Nat) : Int)), (6, .int .u32 (((toL v).getD k 0 : Nat) : Int)), (8, .int .i64 ((n : Nat) : Int)), (9, .int .i64 ((k : Nat) : Int)), (21, .slice (some ⟨b, o, none⟩) n cap), (22, .int .i64 ((k : Nat) : Int)), (23, .slice (some ⟨b, o, none⟩) n cap), (24, .int .i64 ((k : Nat) : Int))] k_ ?_
   refine RN.val _ k_ k_ (q_oidxo (t := 36) (x := (.tmp 23)) (ix := (.tmp 24)) (b := b) (o := o) (n := n) (c := cap) (K := .i64) (i0 := ((k : Nat) : Int)) (m := k) (e := 107) k_ k_ k_ k_ k_ (by omega) x_) ?_
   refine RN.val _ k_ k_ (q_oload (mi := 0) (T := 107) (x := (.tmp 25)) (m := (o + k)) (xs := out) rfl k_ k_ k_ x_) ?_
   refine RN.bq (no 2) [0, 1, 8, 9, 21, 22, 26, 27, 28] [] 8 [(0, .slice (some ⟨b, o, none⟩) n cap), (1, sl s (toL v).length), (8, .int .i64 ((n : Nat) : Int)), (9, .int .i64 ((k : Nat) : Int)), (21, .slice (some ⟨b, o, none⟩) n cap), (22, .int .i64 ((k : Nat) : Int)), (26, .int .u32 ((out.getD (o + k) 0 : Nat) : Int)), (27, .int .u32 (((toL v).getD k 0 : Nat) : Int)), (28, .int .u32 ((c : Nat) : Int))] k_ ?_
   refine RN.call (bits_Add32 (out.getD (o + k) 0) ((toL v).getD k 0) c y_ y_ y_) [] k_ k_ k_ rfl (fun y5 _ => ?_)
   refine RN.bq (no 3) [0, 1, 8, 9, 21, 22, 30, 31] [] 12 [(0, .slice (some ⟨b, o, none⟩) n cap), (1, sl s (toL v).length), (8, .int .i64 ((n : Nat) : Int)), (9, .int .i64 ((k : Nat) : Int)), (21, .slice (some ⟨b, o, none⟩) n cap), (22, .int .i64 ((k : Nat) : Int)), (30, .int .u32 ((((out.getD (o + k) 0) + ((toL v).getD k 0) + c) % 4294967296 : Nat) : Int)), (31, .int .u32 ((((out.getD (o + k) 0) + ((toL v).getD k 0) + c) / 4294967296 : Nat) : Int))] k_ ?_
   refine RN.val _ k_ k_ (q_oidxo (t := 36) (x := (.tmp 21)) (ix := (.tmp 22)) (b := b) (o := o) (n := n) (c := cap) (K := .i64) (i0 := ((k : Nat) : Int)) (m := k) (e := 107) k_ k_ k_ k_ k_ (by omega) x_) ?_
   refine RN.ot k_ k_ (ot_ustore (mi := 0) (T := 107) (x := (.tmp 32)) (y := (.tmp 30)) (b := b) (m := (o + k)) (xs := out) (v := ((((out.getD (o + k) 0) + ((toL v).getD k 0) + c) % 4294967296 : Nat) : Int)) (v0 := ((out.getD (o + k) 0) + ((toL v).getD k 0) + c) % 4294967296) rfl k_ k_ k_ k_ k_ (by omega) x_) (fun _ _ => ?_)
   refine RN.bq (no 1) [0, 1, 4, 8, 9] [] 15 [(0, .slice (some ⟨b, o, none⟩) n cap), (1, sl s (toL v).length), (4, .int .u32 ((((out.getD (o + k) 0) + ((toL v).getD k 0) + c) / 4294967296 : Nat) : Int)), (8, .int .i64 ((n : Nat) : Int)), (9, .int .i64 ((k : Nat) : Int))] k_ ?_
   refine RN.done k_ ?_
   refine KN.blk ?_
   refine KN.next ?_
   refine J.regN ?_
   refine RN.bq (no 1) [0, 1, 4, 8, 33] [] 1 [(0, .slice (some ⟨b, o, none⟩) n cap), (1, sl s (toL v).length), (4, .int .u32 ((((out.getD (o + k) 0) + ((toL v).getD k 0) + c) / 4294967296 : Nat) : Int)), (8, .int .i64 ((n : Nat) : Int)), (33, .int .i64 (IntKind.i64.wrap (((k : Nat) : Int) + 1)))] k_ ?_
   rw [show IntKind.i64.wrap (((k : Nat) : Int) + 1) = ((k + 1 : Nat) : Int) from by rw [IntKind.wrap_i64]; omega]
   refine RN.bq (no 1) [0, 1, 4, 8, 9] [] 2 [(0, .slice (some ⟨b, o, none⟩) n cap), (1, sl s (toL v).length), (4, .int .u32 ((((out.getD (o + k) 0) + ((toL v).getD k 0) + c) / 4294967296 : Nat) : Int)), (8, .int .i64 ((n : Nat) : Int)), (9, .int .i64 ((k + 1 : Nat) : Int))] k_ ?_
   refine RN.done k_ ?_
   refine KN.roundE (k + 1, out.set (o + k) (((out.getD (o + k) 0) + ((toL v).getD k 0) + c) % 4294967296), ((out.getD (o + k) 0) + ((toL v).getD k 0) + c) / 4294967296) [0, 1, 4, 8, 9] [0] (l2 := [(0, .slice (some ⟨b, o, none⟩) n cap), (1, sl s (toL v).length), (4, .int .u32 ((((out.getD (o + k) 0) + ((toL v).getD k 0) + c) / 4294967296 : Nat) : Int)), (8, .int .i64 ((n : Nat) : Int)), (9, .int .i64 ((k + 1 : Nat) : Int))]) (by (try dsimp only); omega) (by (try dsimp only); exact ⟨by omega, hI2.step (Lb_toL v) (by omega) (by first | rfl | (rw [getD_ge (by omega)])) rfl⟩) k_ (by rfl) (by rfl) (by rfl)
  ·replace c4 := of_decide_eq_false c4
   refine J.skip ?_
   refine KN.next ?_
   refine J.regN ?_
   refine RN.bq (no 4) [0, 1, 4, 6, 8, 9, 21, 22, 23, 24] [] 4 [(0, .slice (some ⟨b, o, none⟩) n cap), (1, sl s (toL v).length), (4, .int .u32 ((c : Nat) : Int)), (6, .int .u32 0), (8, .int .i64 ((n : Nat) : Int)), (9, .int .i64 ((k : Nat) : Int)), (21, .slice (some ⟨b, o, none⟩) n cap), (22, .int .i64 ((k : Nat) : Int)), (23, .slice (some ⟨b, o, none⟩) n cap), (24, .int .i64 ((k : Nat) : Int))] k_ ?_
   refine RN.val _ k_ k_ (q_oidxo (t := 36) (x := (.tmp 23)) (ix := (.tmp 24)) (b := b) (o := o) (n := n) (c := cap) (K := .i64) (i0 := ((k : Nat) : Int)) (m := k) (e := 107) k_ k_ k_ k_ k_ (by omega) x_) ?_
   refine RN.val _ k_ k_ (q_oload (mi := 0) (T := 107) (x := (.tmp 25)) (m := (o + k)) (xs := out) rfl k_ k_ k_ x_) ?_
   refine RN.bq (no 2) [0, 1, 8, 9, 21, 22, 26, 27, 28] [] 8 [(0, .slice (some ⟨b, o, none⟩) n cap), (1, sl s (toL v).length), (8, .int .i64 ((n : Nat) : Int)), (9, .int .i64 ((k : Nat) : Int)), (21, .slice (some ⟨b, o, none⟩) n cap), (22, .int .i64 ((k : Nat) : Int)), (26, .int .u32 ((out.getD (o + k) 0 : Nat) : Int)), (27, .int .u32 0), (28, .int .u32 ((c : Nat) : Int))] k_ ?_
   refine RN.call (bits_Add32 (out.getD (o + k) 0) 0 c y_ y_ y_) [] k_ k_ k_ rfl (fun y6 _ => ?_)
   refine RN.bq (no 3) [0, 1, 8, 9, 21, 22, 30, 31] [] 12 [(0, .slice (some ⟨b, o, none⟩) n cap), (1, sl s (toL v).length), (8, .int .i64 ((n : Nat) : Int)), (9, .int .i64 ((k : Nat) : Int)), (21, .slice (some ⟨b, o, none⟩) n cap), (22, .int .i64 ((k : Nat) : Int)), (30, .int .u32 ((((out.getD (o + k) 0) + 0 + c) % 4294967296 : Nat) : Int)), (31, .int .u32 ((((out.getD (o + k) 0) + 0 + c) / 4294967296 : Nat) : Int))] k_ ?_
   refine RN.val _ k_ k_ (q_oidxo (t := 36) (x := (.tmp 21)) (ix := (.tmp 22)) (b := b) (o := o) (n := n) (c := cap) (K := .i64) (i0 := ((k : Nat) : Int)) (m := k) (e := 107) k_ k_ k_ k_ k_ (by omega) x_) ?_
   refine RN.ot k_ k_ (ot_ustore (mi := 0) (T := 107) (x := (.tmp 32)) (y := (.tmp 30)) (b := b) (m := (o + k)) (xs := out) (v := ((((out.getD (o + k) 0) + 0 + c) % 4294967296 : Nat) : Int)) (v0 := ((out.getD (o + k) 0) + 0 + c) % 4294967296) rfl k_ k_ k_ k_ k_ (by omega) x_) (fun _ _ => ?_)
   refine RN.bq (no 1) [0, 1, 4, 8, 9] [] 15 [(0, .slice (some ⟨b, o, none⟩) n cap), (1, sl s (toL v).length), (4, .int .u32 ((((out.getD (o + k) 0) + 0 + c) / 4294967296 : Nat) : Int)), (8, .int .i64 ((n : Nat) : Int)), (9, .int .i64 ((k : Nat) : Int))] k_ ?_
   refine RN.done k_ ?_
   refine KN.blk ?_
   refine KN.next ?_
   refine J.regN ?_
   refine RN.bq (no 1) [0, 1, 4, 8, 33] [] 1 [(0, .slice (some ⟨b, o, none⟩) n cap), (1, sl s (toL v).length), (4, .int .u32 ((((out.getD (o + k) 0) + 0 + c) / 4294967296 : Nat) : Int)), (8, .int .i64 ((n : Nat) : Int)), (33, .int .i64 (IntKind.i64.wrap (((k : Nat) : Int) + 1)))] k_ ?_
   rw [show IntKind.i64.wrap (((k : Nat) : Int) + 1) = ((k + 1 : Nat) : Int) from by rw [IntKind.wrap_i64]; omega]
   refine RN.bq (no 1) [0, 1, 4, 8, 9] [] 2 [(0, .slice (some ⟨b, o, none⟩) n cap), (1, sl s (toL v).length), (4, .int .u32 ((((out.getD (o + k) 0) + 0 + c) / 4294967296 : Nat) : Int)), (8, .int .i64 ((n : Nat) : Int)), (9, .int .i64 ((k + 1 : Nat) : Int))] k_ ?_
   refine RN.done k_ ?_
   refine KN.roundE (k + 1, out.set (o + k) (((out.getD (o + k) 0) + 0 + c) % 4294967296), ((out.getD (o + k) 0) + 0 + c) / 4294967296) [0, 1, 4, 8, 9] [0] (l2 := [(0, .slice (some ⟨b, o, none⟩) n cap), (1, sl s (toL v).length), (4, .int .u32 ((((out.getD (o + k) 0) + 0 + c) / 4294967296 : Nat) : Int)), (8, .int .i64 ((n : Nat) : Int)), (9, .int .i64 ((k + 1 : Nat) : Int))]) (by (try dsimp only); omega) (by (try dsimp only); exact ⟨by omega, hI2.step (Lb_toL v) (by omega) (by first | rfl | (rw [getD_ge (by omega)])) rfl⟩) k_ (by rfl) (by rfl) (by rfl)
 ·replace c3 := of_decide_eq_false c3
  refine J.exit (KX.next (KX.next (KX.hit ?_)))
  refine KN.retM (v := .tuple #[]) (((out, c) : List Nat × Nat)) [] [] [] k_ rfl (⟨hI3, hI2.2.1, fun i hi => hI2.2.2.1 i (by omega), hI4, by have := hI2.done (by omega); rw [lv_toL, show k = n from by omega] at this; exact this⟩) rfl rfl
theorem y_natural_divide {p : Prop} (h : p := by first | assumption | exact Lb_toL _ | omega | (simp; done) | first | exact hv2 | exact hD.2.1 | exact hD.2.2.1 | exact hRd.1 | exact r2 | ((try simp); omega)) : p := h
theorem natural_divide (s : SA) (a : Nat) (t : SA) (b : Nat) (hb2 : 2 ≤ (toL b).length) (hab : (toL b).length ≤ (toL a).length) (hxl : (toL a).length ≤ 1099511627776) : Spec Tryz.prog 160 #[sl s (toL a).length, sl t (toL b).length] [fU s (toL a), fU t (toL b)] (ι := SA × SA) (fun y => .tuple #[sl y.1 (toL (a / b)).length, sl y.2 (toL (a % b)).length]) (fun y => True) (fun y => [fU y.1 (toL (a / b)), fU y.2 (toL (a % b))]) := by
 refine Spec.of_body _ (fn := Tryz.f160) k_ rfl k_ (fun X w0 => ?_)
 refine J.fact (φ := (toL a).length ≤ 140737488355328) (fun w h => by have := (h _ (.head _)).1; omega) (fun hl1 => ?_)
 refine J.fact (φ := (toL b).length ≤ 140737488355328) (fun w h => by have := (h _ (.tail _ ((.head _)))).1; omega) (fun hl2 => ?_)
 have hlb : (toL b).getD ((toL b).length - 1) 0 < 4294967296 := (Lb_toL b).getD _
 refine J.sreg ?_
 refine RN.bq (no 2) [0, 1] [] 2 [(0, sl s (toL a).length), (1, sl t (toL b).length)] k_ ?_
 refine RN.fs k_ ?_
 refine RN.bq (no 4) [0, 1, 13, 16] [] 4 [(0, sl s (toL a).length), (1, sl t (toL b).length), (13, sl t (toL b).length), (16, .int .i64 (IntKind.i64.wrap ((((toL b).length : Nat) : Int) - 1)))] k_ ?_
 rw [show IntKind.i64.wrap ((((toL b).length : Nat) : Int) - 1) = ((((toL b).length) - 1 : Nat) : Int) from by rw [IntKind.wrap_i64]; omega]
 refine RN.val _ k_ k_ (q_uidx (t := 36) (x := (.tmp 13)) (ix := (.tmp 16)) (K := .i64) (i0 := ((((toL b).length) - 1 : Nat) : Int)) (m := ((toL b).length) - 1) (e := 107) 1 rfl k_ k_ k_ k_ k_ (by omega) x_) ?_
 refine RN.val _ k_ k_ (q_uload (T := 107) (x := (.tmp 17)) (m := ((toL b).length) - 1) (s := t) (xs := toL b) 1 rfl k_ k_ k_ x_) ?_
 refine RN.call (bits_LeadingZeros32 ((toL b).getD (((toL b).length) - 1) 0) y_natural_divide) [] k_ k_ k_ rfl (fun y3 _ => ?_)
 obtain ⟨kk, hkk⟩ : ∃ z, z = 32 - bl ((toL b).getD ((toL b).length - 1) 0) := ⟨_, rfl⟩
 rw [show 32 - bl ((toL b).getD (((toL b).length) - 1) 0) = kk from hkk.symm]
 have hnl := norm_len (b := b) (n := (toL b).length - 1) (by omega) hkk
 obtain ⟨V, hV⟩ : ∃ V, V = b * 2 ^ kk := ⟨_, rfl⟩
 obtain ⟨A, hA⟩ : ∃ A, A = a * 2 ^ kk := ⟨_, rfl⟩
 rw [← hV] at hnl
 clear hkk hlb
 obtain ⟨hvl', hvt, hby⟩ := hnl
 have hvl : (toL V).length = (toL b).length := by omega
 have hvW : V < W ^ (toL b).length := lt_of_length (by omega)
 have hV0 : 0 < V := Nat.lt_of_lt_of_le (Nat.mul_pos (by decide) (Wpos _)) hvt
 refine RN.bq (no 4) [0, 1, 6, 7] [] 11 [(0, sl s (toL a).length), (1, sl t (toL b).length), (6, .int .i64 ((kk : Nat) : Int)), (7, .int .i64 (((toL b).length : Nat) : Int))] k_ ?_
 refine RN.fs k_ ?_
 refine RN.bq (no 2) [0, 1, 6, 7, 22, 23] [] 2 [(0, sl s (toL a).length), (1, sl t (toL b).length), (6, .int .i64 ((kk : Nat) : Int)), (7, .int .i64 (((toL b).length : Nat) : Int)), (22, sl s (toL a).length), (23, .int .i64 ((kk : Nat) : Int))] k_ ?_
 refine RN.callM (natural_shifted s a kk y_natural_divide y_natural_divide) [] ([]) [0] k_ k_ k_ rfl rfl (fun y1 h4 => ?_)
 obtain ⟨hu1, hu2, hu3⟩ := h4
 refine RN.bq (no 2) [0, 6, 7, 24, 25, 26] [] 5 [(0, sl s (toL a).length), (6, .int .i64 ((kk : Nat) : Int)), (7, .int .i64 (((toL b).length : Nat) : Int)), (24, .slice (some ⟨y1.1, 0, none⟩) ((toL a).length + 1) ((toL a).length + 1)), (25, sl t (toL b).length), (26, .int .i64 ((kk : Nat) : Int))] k_ ?_
 refine RN.callM (natural_shifted t b kk y_natural_divide y_natural_divide) [] ([(y1.1, .cells (encU y1.2) 107 (0, 0))]) [1] k_ k_ k_ rfl rfl (fun y2 h5 => ?_)
 obtain ⟨hv1, hv2, hv3⟩ := h5
 refine RN.share 0 rfl rfl ?_
 refine RN.also (fU (⟨some ⟨y2.1, 0, none⟩, (toL b).length + 1⟩ : SA) y2.2) (fun w h => fU_own (h _ (.head _)) x_ x_) ?_
 refine RN.turn 27 (v := .slice (some ⟨y2.1, 0, none⟩) ((toL b).length + 1) ((toL b).length + 1)) (v' := sl (⟨some ⟨y2.1, 0, none⟩, (toL b).length + 1⟩ : SA) y2.2.length) k_ (sl_eq x_) ?_
 refine RN.call (natural_trimmed (⟨some ⟨y2.1, 0, none⟩, (toL b).length + 1⟩ : SA) y2.2 y_natural_divide) [0] k_ k_ k_ rfl (fun y6 _ => ?_)
 rw [show toL (lv y2.2) = (toL V) from by rw [hv3, ← hV]]
 refine RN.bq (no 2) [0, 6, 7, 8, 9] [] 9 [(0, sl s (toL a).length), (6, .int .i64 ((kk : Nat) : Int)), (7, .int .i64 (((toL b).length : Nat) : Int)), (8, .slice (some ⟨y1.1, 0, none⟩) ((toL a).length + 1) ((toL a).length + 1)), (9, sl y6 (toL V).length)] k_ ?_
 refine RN.fs k_ ?_
 refine RN.bq (no 4) [6, 7, 8, 9, 32] [] 4 [(6, .int .i64 ((kk : Nat) : Int)), (7, .int .i64 (((toL b).length : Nat) : Int)), (8, .slice (some ⟨y1.1, 0, none⟩) ((toL a).length + 1) ((toL a).length + 1)), (9, sl y6 (toL V).length), (32, .int .i64 (IntKind.i64.wrap ((((toL a).length : Nat) : Int) - (((toL b).length : Nat) : Int))))] k_ ?_
 rw [show IntKind.i64.wrap ((((toL a).length : Nat) : Int) - (((toL b).length : Nat) : Int)) = ((((toL a).length) - ((toL b).length) : Nat) : Int) from by rw [IntKind.wrap_i64]; omega]
 refine RN.bq (no 1) [6, 7, 8, 9, 33] [] 5 [(6, .int .i64 ((kk : Nat) : Int)), (7, .int .i64 (((toL b).length : Nat) : Int)), (8, .slice (some ⟨y1.1, 0, none⟩) ((toL a).length + 1) ((toL a).length + 1)), (9, sl y6 (toL V).length), (33, .int .i64 (IntKind.i64.wrap (((((toL a).length) - ((toL b).length) : Nat) : Int) + 1)))] k_ ?_
 rw [show IntKind.i64.wrap (((((toL a).length) - ((toL b).length) : Nat) : Int) + 1) = (((((toL a).length) - ((toL b).length)) + 1 : Nat) : Int) from by rw [IntKind.wrap_i64]; omega]
 refine RN.make (e := 0) (m := ((((toL a).length) - ((toL b).length)) + 1)) (.cells (encU (List.replicate ((((toL a).length) - ((toL b).length)) + 1) 0)) 107 (0, 0)) k_ k_ (fun w => (q_make1 (t := 36) (m := ((((toL a).length) - ((toL b).length)) + 1)) (by_ := 4) (K := .i64) (K' := .i64) (n1 := (((((toL a).length) - ((toL b).length)) + 1 : Nat) : Int)) (n2 := (((((toL a).length) - ((toL b).length)) + 1 : Nat) : Int)) (x := (.tmp 33)) (y := (.tmp 33)) (e := 107) k_ k_ k_ (by omega) (by omega) k_ k_ rfl (by omega) (by omega) w).trans (by rw [encU_rep])) (fun b7 => ?_)
 refine RN.bq (no 1) [4, 6, 7, 8, 9] [] 7 [(4, .slice (some ⟨b7, 0, none⟩) ((((toL a).length) - ((toL b).length)) + 1) ((((toL a).length) - ((toL b).length)) + 1)), (6, .int .i64 ((kk : Nat) : Int)), (7, .int .i64 (((toL b).length : Nat) : Int)), (8, .slice (some ⟨y1.1, 0, none⟩) ((toL a).length + 1) ((toL a).length + 1)), (9, sl y6 (toL V).length)] k_ ?_
 refine RN.fin k_ ?_
 refine J.seq ?_
 refine J.sreg ?_
 refine RN.bq (no 3) [4, 6, 7, 8, 9, 37] [] 3 [(4, .slice (some ⟨b7, 0, none⟩) ((((toL a).length) - ((toL b).length)) + 1) ((((toL a).length) - ((toL b).length)) + 1)), (6, .int .i64 ((kk : Nat) : Int)), (7, .int .i64 (((toL b).length : Nat) : Int)), (8, .slice (some ⟨y1.1, 0, none⟩) ((toL a).length + 1) ((toL a).length + 1)), (9, sl y6 (toL V).length), (37, .int .i64 (IntKind.i64.wrap ((((((toL a).length) - ((toL b).length)) + 1 : Nat) : Int) - 1)))] k_ ?_
 rw [show IntKind.i64.wrap ((((((toL a).length) - ((toL b).length)) + 1 : Nat) : Int) - 1) = ((((((toL a).length) - ((toL b).length)) + 1 : Nat) : Int) - 1) from by rw [IntKind.wrap_i64]; omega]
 refine RN.bq (no 1) [4, 6, 7, 8, 9, 10] [] 4 [(4, .slice (some ⟨b7, 0, none⟩) ((((toL a).length) - ((toL b).length)) + 1) ((((toL a).length) - ((toL b).length)) + 1)), (6, .int .i64 ((kk : Nat) : Int)), (7, .int .i64 (((toL b).length : Nat) : Int)), (8, .slice (some ⟨y1.1, 0, none⟩) ((toL a).length + 1) ((toL a).length + 1)), (9, sl y6 (toL V).length), (10, .int .i64 ((((((toL a).length) - ((toL b).length)) + 1 : Nat) : Int) - 1))] k_ ?_
 refine RN.fin k_ ?_
 refine J.block ?_
 refine J.loop (ι := (Nat) × (List Nat) × (List Nat)) (fun x => DivI A V (toL b).length (toL a).length x.2.1 x.2.2 x.1) (fun x => x.1) (fun x => [(4, .slice (some ⟨b7, 0, none⟩) ((((toL a).length) - ((toL b).length)) + 1) ((((toL a).length) - ((toL b).length)) + 1)), (6, .int .i64 ((kk : Nat) : Int)), (7, .int .i64 (((toL b).length : Nat) : Int)), (8, .slice (some ⟨y1.1, 0, none⟩) ((toL a).length + 1) ((toL a).length + 1)), (9, sl y6 (toL V).length), (10, .int .i64 ((x.1 : Int) - 1))]) (fun x => [(b7, .cells (encU x.2.2) 107 (0, 0)), (y1.1, .cells (encU x.2.1) 107 (0, 0))]) (fun x => [fU y6 (toL V), fU (⟨some ⟨y2.1, 0, none⟩, (toL b).length + 1⟩ : SA) y2.2, fBlk y2.1 (.cells (encU y2.2) 107 (0, 0)), fU s (toL a), fU t (toL b)]) ((toL a).length - (toL b).length + 1, y1.2, List.replicate ((((toL a).length) - ((toL b).length)) + 1) 0) [4, 6, 7, 8, 9, 10] [0, 1, 2, 3, 4] (by rw [hA, hV]; exact DivI.start rfl (by omega) hab hu1 hu2 hu3) k_ (by first | rfl | (simp only [encQ_zero]; done) | (simp only [encQ_zero]; rfl)) (by rfl) (fun x8 hD => ?_)
 obtain ⟨m, u, q⟩ := x8
 replace hD : DivI A V (toL b).length (toL a).length u q m := hD
 have hu := hD.1
 have hqL := hD.2.2.2.1
 have hmle := hD.2.2.2.2.1
 refine J.seq ?_
 refine J.sreg ?_
 refine RN.bq (no 2) [4, 6, 7, 8, 9, 10, 39] [] 2 [(4, .slice (some ⟨b7, 0, none⟩) ((((toL a).length) - ((toL b).length)) + 1) ((((toL a).length) - ((toL b).length)) + 1)), (6, .int .i64 ((kk : Nat) : Int)), (7, .int .i64 (((toL b).length : Nat) : Int)), (8, .slice (some ⟨y1.1, 0, none⟩) ((toL a).length + 1) ((toL a).length + 1)), (9, sl y6 (toL V).length), (10, .int .i64 ((m : Int) - 1)), (39, .bool (decide (((m : Int) - 1) ≥ 0)))] k_ ?_
 refine RN.fin k_ ?_
 refine J.cond (decide (((m : Int) - 1) ≥ 0)) k_ (fun c9 => ?_) (fun c9 => ?_)
 ·replace c9 := of_decide_eq_true c9
  have hm0 : 0 < m := by omega
  obtain ⟨hp1, hp2, hp3, hp4⟩ := hD.parts hvl hb2 hvt hm0
  have hg1 : u.getD (m - 1 + (toL b).length - 1) 0 < 4294967296 := hD.2.1.getD _
  have hg2 : u.getD (m - 1 + (toL b).length - 2) 0 < 4294967296 := hD.2.1.getD _
  have hg3 : (toL V).getD ((toL b).length - 1) 0 < 4294967296 := (Lb_toL _).getD _
  have hg4 : (toL V).getD ((toL b).length - 2) 0 < 4294967296 := (Lb_toL _).getD _
  rw [show (m : Int) - 1 = ((m - 1 : Nat) : Int) from by omega]
  refine J.skip ?_
  refine KN.next ?_
  refine J.seq ?_
  refine J.block ?_
  refine J.seq ?_
  refine J.regD k_ [] ?_
  refine RD.bq (nl [0, 1, 2, 3]) [4, 6, 7, 8, 9, 10, 42, 45] [] [(4, .slice (some ⟨b7, 0, none⟩) ((((toL a).length) - ((toL b).length)) + 1) ((((toL a).length) - ((toL b).length)) + 1)), (6, .int .i64 ((kk : Nat) : Int)), (7, .int .i64 (((toL b).length : Nat) : Int)), (8, .slice (some ⟨y1.1, 0, none⟩) ((toL a).length + 1) ((toL a).length + 1)), (9, sl y6 (toL V).length), (10, .int .i64 ((m - 1 : Nat) : Int)), (42, .slice (some ⟨y1.1, 0, none⟩) ((toL a).length + 1) ((toL a).length + 1)), (45, .int .i64 (IntKind.i64.wrap (((m - 1 : Nat) : Int) + (((toL b).length : Nat) : Int))))] k_ k_ ?_
  rw [show IntKind.i64.wrap (((m - 1 : Nat) : Int) + (((toL b).length : Nat) : Int)) = (((m - 1) + ((toL b).length) : Nat) : Int) from by rw [IntKind.wrap_i64]; omega]
  refine RD.bq (nl [6, 7, 8, 9]) [4, 6, 7, 8, 9, 10, 42, 45, 48, 51] [] [(4, .slice (some ⟨b7, 0, none⟩) ((((toL a).length) - ((toL b).length)) + 1) ((((toL a).length) - ((toL b).length)) + 1)), (6, .int .i64 ((kk : Nat) : Int)), (7, .int .i64 (((toL b).length : Nat) : Int)), (8, .slice (some ⟨y1.1, 0, none⟩) ((toL a).length + 1) ((toL a).length + 1)), (9, sl y6 (toL V).length), (10, .int .i64 ((m - 1 : Nat) : Int)), (42, .slice (some ⟨y1.1, 0, none⟩) ((toL a).length + 1) ((toL a).length + 1)), (45, .int .i64 (((m - 1) + ((toL b).length) : Nat) : Int)), (48, .slice (some ⟨y1.1, 0, none⟩) ((toL a).length + 1) ((toL a).length + 1)), (51, .int .i64 (IntKind.i64.wrap (((m - 1 : Nat) : Int) + (((toL b).length : Nat) : Int))))] k_ k_ ?_
  rw [show IntKind.i64.wrap (((m - 1 : Nat) : Int) + (((toL b).length : Nat) : Int)) = (((m - 1) + ((toL b).length) : Nat) : Int) from by rw [IntKind.wrap_i64]; omega]
  refine RD.bq (nl [10]) [4, 6, 7, 8, 9, 10, 42, 45, 48, 52] [] [(4, .slice (some ⟨b7, 0, none⟩) ((((toL a).length) - ((toL b).length)) + 1) ((((toL a).length) - ((toL b).length)) + 1)), (6, .int .i64 ((kk : Nat) : Int)), (7, .int .i64 (((toL b).length : Nat) : Int)), (8, .slice (some ⟨y1.1, 0, none⟩) ((toL a).length + 1) ((toL a).length + 1)), (9, sl y6 (toL V).length), (10, .int .i64 ((m - 1 : Nat) : Int)), (42, .slice (some ⟨y1.1, 0, none⟩) ((toL a).length + 1) ((toL a).length + 1)), (45, .int .i64 (((m - 1) + ((toL b).length) : Nat) : Int)), (48, .slice (some ⟨y1.1, 0, none⟩) ((toL a).length + 1) ((toL a).length + 1)), (52, .int .i64 (IntKind.i64.wrap ((((m - 1) + ((toL b).length) : Nat) : Int) - 1)))] k_ k_ ?_
  rw [show IntKind.i64.wrap ((((m - 1) + ((toL b).length) : Nat) : Int) - 1) = ((((m - 1) + ((toL b).length)) - 1 : Nat) : Int) from by rw [IntKind.wrap_i64]; omega]
  refine RD.bq (nl [13, 14, 15, 16]) [4, 6, 7, 8, 9, 10, 42, 45, 48, 52, 55, 58] [] [(4, .slice (some ⟨b7, 0, none⟩) ((((toL a).length) - ((toL b).length)) + 1) ((((toL a).length) - ((toL b).length)) + 1)), (6, .int .i64 ((kk : Nat) : Int)), (7, .int .i64 (((toL b).length : Nat) : Int)), (8, .slice (some ⟨y1.1, 0, none⟩) ((toL a).length + 1) ((toL a).length + 1)), (9, sl y6 (toL V).length), (10, .int .i64 ((m - 1 : Nat) : Int)), (42, .slice (some ⟨y1.1, 0, none⟩) ((toL a).length + 1) ((toL a).length + 1)), (45, .int .i64 (((m - 1) + ((toL b).length) : Nat) : Int)), (48, .slice (some ⟨y1.1, 0, none⟩) ((toL a).length + 1) ((toL a).length + 1)), (52, .int .i64 ((((m - 1) + ((toL b).length)) - 1 : Nat) : Int)), (55, .slice (some ⟨y1.1, 0, none⟩) ((toL a).length + 1) ((toL a).length + 1)), (58, .int .i64 (IntKind.i64.wrap (((m - 1 : Nat) : Int) + (((toL b).length : Nat) : Int))))] k_ k_ ?_
  rw [show IntKind.i64.wrap (((m - 1 : Nat) : Int) + (((toL b).length : Nat) : Int)) = (((m - 1) + ((toL b).length) : Nat) : Int) from by rw [IntKind.wrap_i64]; omega]
  refine RD.bq (nl [17]) [4, 6, 7, 8, 9, 10, 42, 45, 48, 52, 55, 59] [] [(4, .slice (some ⟨b7, 0, none⟩) ((((toL a).length) - ((toL b).length)) + 1) ((((toL a).length) - ((toL b).length)) + 1)), (6, .int .i64 ((kk : Nat) : Int)), (7, .int .i64 (((toL b).length : Nat) : Int)), (8, .slice (some ⟨y1.1, 0, none⟩) ((toL a).length + 1) ((toL a).length + 1)), (9, sl y6 (toL V).length), (10, .int .i64 ((m - 1 : Nat) : Int)), (42, .slice (some ⟨y1.1, 0, none⟩) ((toL a).length + 1) ((toL a).length + 1)), (45, .int .i64 (((m - 1) + ((toL b).length) : Nat) : Int)), (48, .slice (some ⟨y1.1, 0, none⟩) ((toL a).length + 1) ((toL a).length + 1)), (52, .int .i64 ((((m - 1) + ((toL b).length)) - 1 : Nat) : Int)), (55, .slice (some ⟨y1.1, 0, none⟩) ((toL a).length + 1) ((toL a).length + 1)), (59, .int .i64 (IntKind.i64.wrap ((((m - 1) + ((toL b).length) : Nat) : Int) - 2)))] k_ k_ ?_
  rw [show IntKind.i64.wrap ((((m - 1) + ((toL b).length) : Nat) : Int) - 2) = ((((m - 1) + ((toL b).length)) - 2 : Nat) : Int) from by rw [IntKind.wrap_i64]; omega]
  refine RD.bq (nl [20, 21, 22]) [4, 6, 7, 8, 9, 10, 42, 45, 48, 52, 55, 59, 62, 64] [] [(4, .slice (some ⟨b7, 0, none⟩) ((((toL a).length) - ((toL b).length)) + 1) ((((toL a).length) - ((toL b).length)) + 1)), (6, .int .i64 ((kk : Nat) : Int)), (7, .int .i64 (((toL b).length : Nat) : Int)), (8, .slice (some ⟨y1.1, 0, none⟩) ((toL a).length + 1) ((toL a).length + 1)), (9, sl y6 (toL V).length), (10, .int .i64 ((m - 1 : Nat) : Int)), (42, .slice (some ⟨y1.1, 0, none⟩) ((toL a).length + 1) ((toL a).length + 1)), (45, .int .i64 (((m - 1) + ((toL b).length) : Nat) : Int)), (48, .slice (some ⟨y1.1, 0, none⟩) ((toL a).length + 1) ((toL a).length + 1)), (52, .int .i64 ((((m - 1) + ((toL b).length)) - 1 : Nat) : Int)), (55, .slice (some ⟨y1.1, 0, none⟩) ((toL a).length + 1) ((toL a).length + 1)), (59, .int .i64 ((((m - 1) + ((toL b).length)) - 2 : Nat) : Int)), (62, sl y6 (toL V).length), (64, .int .i64 (IntKind.i64.wrap ((((toL b).length : Nat) : Int) - 1)))] k_ k_ ?_
  rw [show IntKind.i64.wrap ((((toL b).length : Nat) : Int) - 1) = ((((toL b).length) - 1 : Nat) : Int) from by rw [IntKind.wrap_i64]; omega]
  refine RD.bq (nl [25, 26, 27]) [4, 6, 7, 8, 9, 10, 42, 45, 48, 52, 55, 59, 62, 64, 67, 69] [] [(4, .slice (some ⟨b7, 0, none⟩) ((((toL a).length) - ((toL b).length)) + 1) ((((toL a).length) - ((toL b).length)) + 1)), (6, .int .i64 ((kk : Nat) : Int)), (7, .int .i64 (((toL b).length : Nat) : Int)), (8, .slice (some ⟨y1.1, 0, none⟩) ((toL a).length + 1) ((toL a).length + 1)), (9, sl y6 (toL V).length), (10, .int .i64 ((m - 1 : Nat) : Int)), (42, .slice (some ⟨y1.1, 0, none⟩) ((toL a).length + 1) ((toL a).length + 1)), (45, .int .i64 (((m - 1) + ((toL b).length) : Nat) : Int)), (48, .slice (some ⟨y1.1, 0, none⟩) ((toL a).length + 1) ((toL a).length + 1)), (52, .int .i64 ((((m - 1) + ((toL b).length)) - 1 : Nat) : Int)), (55, .slice (some ⟨y1.1, 0, none⟩) ((toL a).length + 1) ((toL a).length + 1)), (59, .int .i64 ((((m - 1) + ((toL b).length)) - 2 : Nat) : Int)), (62, sl y6 (toL V).length), (64, .int .i64 ((((toL b).length) - 1 : Nat) : Int)), (67, sl y6 (toL V).length), (69, .int .i64 (IntKind.i64.wrap ((((toL b).length : Nat) : Int) - 2)))] k_ k_ ?_
  rw [show IntKind.i64.wrap ((((toL b).length : Nat) : Int) - 2) = ((((toL b).length) - 2 : Nat) : Int) from by rw [IntKind.wrap_i64]; omega]
  refine RD.val (i := 4) _ k_ k_ k_ (q_oidx (t := 36) (x := (.tmp 42)) (ix := (.tmp 45)) (b := y1.1) (n := ((toL a).length + 1)) (c := ((toL a).length + 1)) (K := .i64) (i0 := (((m - 1) + ((toL b).length) : Nat) : Int)) (m := (m - 1) + ((toL b).length)) (e := 107) (sz := 1) k_ k_ k_ k_ k_ (by omega) x_) ?_
  refine RD.val (i := 5) _ k_ k_ k_ (q_oload (mi := 1) (T := 107) (x := (.tmp 46)) (m := (m - 1) + ((toL b).length)) (xs := u) rfl k_ k_ k_ x_) ?_
  refine RD.val (i := 11) _ k_ k_ k_ (q_oidx (t := 36) (x := (.tmp 48)) (ix := (.tmp 52)) (b := y1.1) (n := ((toL a).length + 1)) (c := ((toL a).length + 1)) (K := .i64) (i0 := ((((m - 1) + ((toL b).length)) - 1 : Nat) : Int)) (m := ((m - 1) + ((toL b).length)) - 1) (e := 107) (sz := 1) k_ k_ k_ k_ k_ (by omega) x_) ?_
  refine RD.val (i := 12) _ k_ k_ k_ (q_oload (mi := 1) (T := 107) (x := (.tmp 53)) (m := ((m - 1) + ((toL b).length)) - 1) (xs := u) rfl k_ k_ k_ x_) ?_
  refine RD.val (i := 18) _ k_ k_ k_ (q_oidx (t := 36) (x := (.tmp 55)) (ix := (.tmp 59)) (b := y1.1) (n := ((toL a).length + 1)) (c := ((toL a).length + 1)) (K := .i64) (i0 := ((((m - 1) + ((toL b).length)) - 2 : Nat) : Int)) (m := ((m - 1) + ((toL b).length)) - 2) (e := 107) (sz := 1) k_ k_ k_ k_ k_ (by omega) x_) ?_
  refine RD.val (i := 19) _ k_ k_ k_ (q_oload (mi := 1) (T := 107) (x := (.tmp 60)) (m := ((m - 1) + ((toL b).length)) - 2) (xs := u) rfl k_ k_ k_ x_) ?_
  refine RD.val (i := 23) _ k_ k_ k_ (q_uidx (t := 36) (x := (.tmp 62)) (ix := (.tmp 64)) (K := .i64) (i0 := ((((toL b).length) - 1 : Nat) : Int)) (m := ((toL b).length) - 1) (e := 107) 0 rfl k_ k_ k_ k_ k_ (by omega) x_) ?_
  refine RD.val (i := 24) _ k_ k_ k_ (q_uload (T := 107) (x := (.tmp 65)) (m := ((toL b).length) - 1) (s := y6) (xs := toL V) 0 rfl k_ k_ k_ x_) ?_
  refine RD.val (i := 28) _ k_ k_ k_ (q_uidx (t := 36) (x := (.tmp 67)) (ix := (.tmp 69)) (K := .i64) (i0 := ((((toL b).length) - 2 : Nat) : Int)) (m := ((toL b).length) - 2) (e := 107) 0 rfl k_ k_ k_ k_ k_ (by omega) x_) ?_
  refine RD.val (i := 29) _ k_ k_ k_ (q_uload (T := 107) (x := (.tmp 70)) (m := ((toL b).length) - 2) (s := y6) (xs := toL V) 0 rfl k_ k_ k_ x_) ?_
  refine RD.call (i := 30) (natural_guess (u.getD ((m - 1) + ((toL b).length)) 0) (u.getD (((m - 1) + ((toL b).length)) - 1) 0) (u.getD (((m - 1) + ((toL b).length)) - 2) 0) ((toL V).getD (((toL b).length) - 1) 0) ((toL V).getD (((toL b).length) - 2) 0) y_natural_divide y_natural_divide y_natural_divide y_natural_divide y_natural_divide y_natural_divide) [] k_ k_ k_ k_ k_ rfl (fun y10 _ => ?_)
  obtain ⟨x, hx⟩ : ∃ x, x = min (((u.getD (m - 1 + (toL b).length) 0 * 4294967296 + u.getD (m - 1 + (toL b).length - 1) 0) * 4294967296 + u.getD (m - 1 + (toL b).length - 2) 0) / ((toL V).getD ((toL b).length - 1) 0 * 4294967296 + (toL V).getD ((toL b).length - 2) 0)) 4294967295 := ⟨_, rfl⟩
  rw [show min ((((u.getD ((m - 1) + ((toL b).length)) 0) * 4294967296 + (u.getD (((m - 1) + ((toL b).length)) - 1) 0)) * 4294967296 + (u.getD (((m - 1) + ((toL b).length)) - 2) 0)) / (((toL V).getD (((toL b).length) - 1) 0) * 4294967296 + ((toL V).getD (((toL b).length) - 2) 0))) 4294967295 = x from hx.symm]
  obtain ⟨hx1, hx2, hx4⟩ := hp4 x hx
  have hx3 : x ≤ 4294967295 := by rw [hx]; exact Nat.min_le_right _ _
  clear hx hp4
  refine RD.bq (nl [31]) [4, 6, 7, 8, 9, 10, 11] [] [(4, .slice (some ⟨b7, 0, none⟩) ((((toL a).length) - ((toL b).length)) + 1) ((((toL a).length) - ((toL b).length)) + 1)), (6, .int .i64 ((kk : Nat) : Int)), (7, .int .i64 (((toL b).length : Nat) : Int)), (8, .slice (some ⟨y1.1, 0, none⟩) ((toL a).length + 1) ((toL a).length + 1)), (9, sl y6 (toL V).length), (10, .int .i64 ((m - 1 : Nat) : Int)), (11, .int .u64 ((x : Nat) : Int))] k_ k_ ?_
  refine RD.done k_ ?_
  refine KN.next ?_
  refine J.seq ?_
  refine J.sreg ?_
  refine RN.bq (no 5) [4, 6, 7, 8, 9, 10, 11, 73, 74, 77] [] 5 [(4, .slice (some ⟨b7, 0, none⟩) ((((toL a).length) - ((toL b).length)) + 1) ((((toL a).length) - ((toL b).length)) + 1)), (6, .int .i64 ((kk : Nat) : Int)), (7, .int .i64 (((toL b).length : Nat) : Int)), (8, .slice (some ⟨y1.1, 0, none⟩) ((toL a).length + 1) ((toL a).length + 1)), (9, sl y6 (toL V).length), (10, .int .i64 ((m - 1 : Nat) : Int)), (11, .int .u64 ((x : Nat) : Int)), (73, .slice (some ⟨y1.1, 0, none⟩) ((toL a).length + 1) ((toL a).length + 1)), (74, .int .i64 ((m - 1 : Nat) : Int)), (77, .int .i64 (IntKind.i64.wrap (((m - 1 : Nat) : Int) + (((toL b).length : Nat) : Int))))] k_ ?_
  rw [show IntKind.i64.wrap (((m - 1 : Nat) : Int) + (((toL b).length : Nat) : Int)) = (((m - 1) + ((toL b).length) : Nat) : Int) from by rw [IntKind.wrap_i64]; omega]
  refine RN.bq (no 1) [4, 6, 7, 8, 9, 10, 11, 73, 74, 78] [] 6 [(4, .slice (some ⟨b7, 0, none⟩) ((((toL a).length) - ((toL b).length)) + 1) ((((toL a).length) - ((toL b).length)) + 1)), (6, .int .i64 ((kk : Nat) : Int)), (7, .int .i64 (((toL b).length : Nat) : Int)), (8, .slice (some ⟨y1.1, 0, none⟩) ((toL a).length + 1) ((toL a).length + 1)), (9, sl y6 (toL V).length), (10, .int .i64 ((m - 1 : Nat) : Int)), (11, .int .u64 ((x : Nat) : Int)), (73, .slice (some ⟨y1.1, 0, none⟩) ((toL a).length + 1) ((toL a).length + 1)), (74, .int .i64 ((m - 1 : Nat) : Int)), (78, .int .i64 (IntKind.i64.wrap ((((m - 1) + ((toL b).length) : Nat) : Int) + 1)))] k_ ?_
  rw [show IntKind.i64.wrap ((((m - 1) + ((toL b).length) : Nat) : Int) + 1) = ((((m - 1) + ((toL b).length)) + 1 : Nat) : Int) from by rw [IntKind.wrap_i64]; omega]
  refine RN.val _ k_ k_ (q_oslice (t := 36) (x := (.tmp 73)) (lo := (m - 1)) (hi := (((m - 1) + ((toL b).length)) + 1)) (b := y1.1) (n := ((toL a).length + 1)) (c := ((toL a).length + 1)) (e := 107) ((toL b).length + 1) k_ k_ (.inr ⟨(.tmp 74), .i64, ((m - 1 : Nat) : Int), rfl, by kernel_rfl, by omega⟩) (.inr ⟨(.tmp 78), .i64, ((((m - 1) + ((toL b).length)) + 1 : Nat) : Int), rfl, by kernel_rfl, by omega⟩) k_ k_ x_ x_ x_ (by omega)) ?_
  refine RN.bq (no 2) [4, 6, 7, 8, 9, 10, 11, 79, 80, 81] [] 9 [(4, .slice (some ⟨b7, 0, none⟩) ((((toL a).length) - ((toL b).length)) + 1) ((((toL a).length) - ((toL b).length)) + 1)), (6, .int .i64 ((kk : Nat) : Int)), (7, .int .i64 (((toL b).length : Nat) : Int)), (8, .slice (some ⟨y1.1, 0, none⟩) ((toL a).length + 1) ((toL a).length + 1)), (9, sl y6 (toL V).length), (10, .int .i64 ((m - 1 : Nat) : Int)), (11, .int .u64 ((x : Nat) : Int)), (79, .slice (some ⟨y1.1, m - 1, none⟩) ((toL b).length + 1) (((toL a).length + 1) - (m - 1))), (80, sl y6 (toL V).length), (81, .int .u64 ((x : Nat) : Int))] k_ ?_
  refine RN.callM (natural_reduce y1.1 (m - 1) ((toL b).length + 1) (((toL a).length + 1) - (m - 1)) u y6 V x y_natural_divide y_natural_divide y_natural_divide y_natural_divide y_natural_divide) [(b7, .cells (encU q) 107 (0, 0))] ([]) [0] k_ k_ k_ rfl rfl (fun w1 h11 => ?_)
  obtain ⟨r1, r2, r3, r4⟩ := h11
  refine RN.fin k_ ?_
  refine J.cond (w1.2) k_ (fun c12 => ?_) (fun c12 => ?_)
  ·have r5 : svl w1.1 (m - 1) ((toL b).length + 1) + x * V = svl u (m - 1) ((toL b).length + 1) + W ^ ((toL b).length + 1) := by have := r4; rw [c12] at this; simpa using this
   refine J.sreg ?_
   refine RN.bq (no 5) [4, 6, 7, 8, 9, 10, 11, 83, 84, 87] [] 5 [(4, .slice (some ⟨b7, 0, none⟩) ((((toL a).length) - ((toL b).length)) + 1) ((((toL a).length) - ((toL b).length)) + 1)), (6, .int .i64 ((kk : Nat) : Int)), (7, .int .i64 (((toL b).length : Nat) : Int)), (8, .slice (some ⟨y1.1, 0, none⟩) ((toL a).length + 1) ((toL a).length + 1)), (9, sl y6 (toL V).length), (10, .int .i64 ((m - 1 : Nat) : Int)), (11, .int .u64 ((x : Nat) : Int)), (83, .slice (some ⟨y1.1, 0, none⟩) ((toL a).length + 1) ((toL a).length + 1)), (84, .int .i64 ((m - 1 : Nat) : Int)), (87, .int .i64 (IntKind.i64.wrap (((m - 1 : Nat) : Int) + (((toL b).length : Nat) : Int))))] k_ ?_
   rw [show IntKind.i64.wrap (((m - 1 : Nat) : Int) + (((toL b).length : Nat) : Int)) = (((m - 1) + ((toL b).length) : Nat) : Int) from by rw [IntKind.wrap_i64]; omega]
   refine RN.bq (no 1) [4, 6, 7, 8, 9, 10, 11, 83, 84, 88] [] 6 [(4, .slice (some ⟨b7, 0, none⟩) ((((toL a).length) - ((toL b).length)) + 1) ((((toL a).length) - ((toL b).length)) + 1)), (6, .int .i64 ((kk : Nat) : Int)), (7, .int .i64 (((toL b).length : Nat) : Int)), (8, .slice (some ⟨y1.1, 0, none⟩) ((toL a).length + 1) ((toL a).length + 1)), (9, sl y6 (toL V).length), (10, .int .i64 ((m - 1 : Nat) : Int)), (11, .int .u64 ((x : Nat) : Int)), (83, .slice (some ⟨y1.1, 0, none⟩) ((toL a).length + 1) ((toL a).length + 1)), (84, .int .i64 ((m - 1 : Nat) : Int)), (88, .int .i64 (IntKind.i64.wrap ((((m - 1) + ((toL b).length) : Nat) : Int) + 1)))] k_ ?_
   rw [show IntKind.i64.wrap ((((m - 1) + ((toL b).length) : Nat) : Int) + 1) = ((((m - 1) + ((toL b).length)) + 1 : Nat) : Int) from by rw [IntKind.wrap_i64]; omega]
   refine RN.val _ k_ k_ (q_oslice (t := 36) (x := (.tmp 83)) (lo := (m - 1)) (hi := (((m - 1) + ((toL b).length)) + 1)) (b := y1.1) (n := ((toL a).length + 1)) (c := ((toL a).length + 1)) (e := 107) ((toL b).length + 1) k_ k_ (.inr ⟨(.tmp 84), .i64, ((m - 1 : Nat) : Int), rfl, by kernel_rfl, by omega⟩) (.inr ⟨(.tmp 88), .i64, ((((m - 1) + ((toL b).length)) + 1 : Nat) : Int), rfl, by kernel_rfl, by omega⟩) k_ k_ x_ x_ x_ (by omega)) ?_
   refine RN.bq (no 1) [4, 6, 7, 8, 9, 10, 11, 89, 90] [] 8 [(4, .slice (some ⟨b7, 0, none⟩) ((((toL a).length) - ((toL b).length)) + 1) ((((toL a).length) - ((toL b).length)) + 1)), (6, .int .i64 ((kk : Nat) : Int)), (7, .int .i64 (((toL b).length : Nat) : Int)), (8, .slice (some ⟨y1.1, 0, none⟩) ((toL a).length + 1) ((toL a).length + 1)), (9, sl y6 (toL V).length), (10, .int .i64 ((m - 1 : Nat) : Int)), (11, .int .u64 ((x : Nat) : Int)), (89, .slice (some ⟨y1.1, m - 1, none⟩) ((toL b).length + 1) (((toL a).length + 1) - (m - 1))), (90, sl y6 (toL V).length)] k_ ?_
   refine RN.callM (natural_restore y1.1 (m - 1) ((toL b).length + 1) (((toL a).length + 1) - (m - 1)) w1.1 y6 V y_natural_divide y_natural_divide y_natural_divide y_natural_divide) [(b7, .cells (encU q) 107 (0, 0))] ([]) [0] k_ k_ k_ rfl rfl (fun w2 h13 => ?_)
   obtain ⟨q1, q2, q3, q4, q5⟩ := h13
   have ho := red_over r5 q5 (svl_lt r2 _ _) (svl_lt q2 _ _) q4 hV0 (Nat.le_trans (Nat.le_of_lt hvW) (Nat.pow_le_pow_right (by decide) (by omega))) hx2
   have hx0 := ho.2.2
   refine RN.fin k_ ?_
   refine J.regN ?_
   refine RN.bq (no 2) [4, 6, 7, 8, 9, 10, 93] [] 2 [(4, .slice (some ⟨b7, 0, none⟩) ((((toL a).length) - ((toL b).length)) + 1) ((((toL a).length) - ((toL b).length)) + 1)), (6, .int .i64 ((kk : Nat) : Int)), (7, .int .i64 (((toL b).length : Nat) : Int)), (8, .slice (some ⟨y1.1, 0, none⟩) ((toL a).length + 1) ((toL a).length + 1)), (9, sl y6 (toL V).length), (10, .int .i64 ((m - 1 : Nat) : Int)), (93, .int .u64 (IntKind.u64.wrap (((x : Nat) : Int) - 1)))] k_ ?_
   rw [show IntKind.u64.wrap (((x : Nat) : Int) - 1) = ((x - 1 : Nat) : Int) from uw64b (x - 1) (by omega) (by omega)]
   refine RN.bq (no 1) [4, 6, 7, 8, 9, 10, 11] [] 3 [(4, .slice (some ⟨b7, 0, none⟩) ((((toL a).length) - ((toL b).length)) + 1) ((((toL a).length) - ((toL b).length)) + 1)), (6, .int .i64 ((kk : Nat) : Int)), (7, .int .i64 (((toL b).length : Nat) : Int)), (8, .slice (some ⟨y1.1, 0, none⟩) ((toL a).length + 1) ((toL a).length + 1)), (9, sl y6 (toL V).length), (10, .int .i64 ((m - 1 : Nat) : Int)), (11, .int .u64 ((x - 1 : Nat) : Int))] k_ ?_
   refine RN.fin k_ ?_
   refine J.regN ?_
   refine RN.bq (no 4) [4, 6, 7, 8, 9, 10, 94, 95, 97] [] 4 [(4, .slice (some ⟨b7, 0, none⟩) ((((toL a).length) - ((toL b).length)) + 1) ((((toL a).length) - ((toL b).length)) + 1)), (6, .int .i64 ((kk : Nat) : Int)), (7, .int .i64 (((toL b).length : Nat) : Int)), (8, .slice (some ⟨y1.1, 0, none⟩) ((toL a).length + 1) ((toL a).length + 1)), (9, sl y6 (toL V).length), (10, .int .i64 ((m - 1 : Nat) : Int)), (94, .slice (some ⟨b7, 0, none⟩) ((((toL a).length) - ((toL b).length)) + 1) ((((toL a).length) - ((toL b).length)) + 1)), (95, .int .i64 ((m - 1 : Nat) : Int)), (97, .int .u32 (IntKind.u32.wrap ((x - 1 : Nat) : Int)))] k_ ?_
   rw [show IntKind.u32.wrap ((x - 1 : Nat) : Int) = ((x - 1 : Nat) : Int) from uw32b (x - 1) (by rfl) (by omega)]
   refine RN.val _ k_ k_ (q_oidx (t := 36) (x := (.tmp 94)) (ix := (.tmp 95)) (b := b7) (n := ((((toL a).length) - ((toL b).length)) + 1)) (c := ((((toL a).length) - ((toL b).length)) + 1)) (K := .i64) (i0 := ((m - 1 : Nat) : Int)) (m := m - 1) (e := 107) (sz := 1) k_ k_ k_ k_ k_ (by omega) x_) ?_
   refine RN.ot k_ k_ (ot_ustore (mi := 0) (T := 107) (x := (.tmp 98)) (y := (.tmp 97)) (b := b7) (m := m - 1) (xs := q) (v := ((x - 1 : Nat) : Int)) (v0 := x - 1) rfl k_ k_ k_ k_ k_ (by omega) x_) (fun _ _ => ?_)
   refine RN.done k_ ?_
   refine KN.blk ?_
   refine KN.next ?_
   refine J.regN ?_
   refine RN.bq (no 2) [4, 6, 7, 8, 9, 41] [] 2 [(4, .slice (some ⟨b7, 0, none⟩) ((((toL a).length) - ((toL b).length)) + 1) ((((toL a).length) - ((toL b).length)) + 1)), (6, .int .i64 ((kk : Nat) : Int)), (7, .int .i64 (((toL b).length : Nat) : Int)), (8, .slice (some ⟨y1.1, 0, none⟩) ((toL a).length + 1) ((toL a).length + 1)), (9, sl y6 (toL V).length), (41, .int .i64 (IntKind.i64.wrap (((m - 1 : Nat) : Int) - 1)))] k_ ?_
   rw [show IntKind.i64.wrap (((m - 1 : Nat) : Int) - 1) = (((m - 1 : Nat) : Int) - 1) from by rw [IntKind.wrap_i64]; omega]
   refine RN.bq (no 1) [4, 6, 7, 8, 9, 10] [] 3 [(4, .slice (some ⟨b7, 0, none⟩) ((((toL a).length) - ((toL b).length)) + 1) ((((toL a).length) - ((toL b).length)) + 1)), (6, .int .i64 ((kk : Nat) : Int)), (7, .int .i64 (((toL b).length : Nat) : Int)), (8, .slice (some ⟨y1.1, 0, none⟩) ((toL a).length + 1) ((toL a).length + 1)), (9, sl y6 (toL V).length), (10, .int .i64 (((m - 1 : Nat) : Int) - 1))] k_ ?_
   refine RN.done k_ ?_
   refine KN.roundE (m - 1, w2.1, q.set (m - 1) (x - 1)) [4, 6, 7, 8, 9, 10] [0, 1, 2, 3, 4] (l2 := [(4, .slice (some ⟨b7, 0, none⟩) ((((toL a).length) - ((toL b).length)) + 1) ((((toL a).length) - ((toL b).length)) + 1)), (6, .int .i64 ((kk : Nat) : Int)), (7, .int .i64 (((toL b).length : Nat) : Int)), (8, .slice (some ⟨y1.1, 0, none⟩) ((toL a).length + 1) ((toL a).length + 1)), (9, sl y6 (toL V).length), (10, .int .i64 (((m - 1 : Nat) : Int) - 1))]) (by (try dsimp only); omega) (by (try dsimp only); first | (rw [he.2]; exact hD.step (by omega) hab hvW hV0 hm0 (by omega) r2 r3 he.1 hx4) | (rw [ho.2.1]; exact hD.step (by omega) hab hvW hV0 hm0 (by omega) q2 (fun i hi => (q3 i hi).trans (r3 i hi)) ho.1 hx4)) k_ (by rfl) (by rfl) (by rfl)
  ·have r5 : svl w1.1 (m - 1) ((toL b).length + 1) + x * V = svl u (m - 1) ((toL b).length + 1) := by have := r4; rw [c12] at this; simpa using this
   have he := red_exact (n := 0) r5 hV0 hx1
   refine J.skip ?_
   refine KN.next ?_
   refine J.regN ?_
   refine RN.bq (no 4) [4, 6, 7, 8, 9, 10, 94, 95, 97] [] 4 [(4, .slice (some ⟨b7, 0, none⟩) ((((toL a).length) - ((toL b).length)) + 1) ((((toL a).length) - ((toL b).length)) + 1)), (6, .int .i64 ((kk : Nat) : Int)), (7, .int .i64 (((toL b).length : Nat) : Int)), (8, .slice (some ⟨y1.1, 0, none⟩) ((toL a).length + 1) ((toL a).length + 1)), (9, sl y6 (toL V).length), (10, .int .i64 ((m - 1 : Nat) : Int)), (94, .slice (some ⟨b7, 0, none⟩) ((((toL a).length) - ((toL b).length)) + 1) ((((toL a).length) - ((toL b).length)) + 1)), (95, .int .i64 ((m - 1 : Nat) : Int)), (97, .int .u32 (IntKind.u32.wrap ((x : Nat) : Int)))] k_ ?_
   rw [show IntKind.u32.wrap ((x : Nat) : Int) = ((x : Nat) : Int) from uw32b x (by rfl) (by omega)]
   refine RN.val _ k_ k_ (q_oidx (t := 36) (x := (.tmp 94)) (ix := (.tmp 95)) (b := b7) (n := ((((toL a).length) - ((toL b).length)) + 1)) (c := ((((toL a).length) - ((toL b).length)) + 1)) (K := .i64) (i0 := ((m - 1 : Nat) : Int)) (m := m - 1) (e := 107) (sz := 1) k_ k_ k_ k_ k_ (by omega) x_) ?_
   refine RN.ot k_ k_ (ot_ustore (mi := 0) (T := 107) (x := (.tmp 98)) (y := (.tmp 97)) (b := b7) (m := m - 1) (xs := q) (v := ((x : Nat) : Int)) (v0 := x) rfl k_ k_ k_ k_ k_ (by omega) x_) (fun _ _ => ?_)
   refine RN.done k_ ?_
   refine KN.blk ?_
   refine KN.next ?_
   refine J.regN ?_
   refine RN.bq (no 2) [4, 6, 7, 8, 9, 41] [] 2 [(4, .slice (some ⟨b7, 0, none⟩) ((((toL a).length) - ((toL b).length)) + 1) ((((toL a).length) - ((toL b).length)) + 1)), (6, .int .i64 ((kk : Nat) : Int)), (7, .int .i64 (((toL b).length : Nat) : Int)), (8, .slice (some ⟨y1.1, 0, none⟩) ((toL a).length + 1) ((toL a).length + 1)), (9, sl y6 (toL V).length), (41, .int .i64 (IntKind.i64.wrap (((m - 1 : Nat) : Int) - 1)))] k_ ?_
   rw [show IntKind.i64.wrap (((m - 1 : Nat) : Int) - 1) = (((m - 1 : Nat) : Int) - 1) from by rw [IntKind.wrap_i64]; omega]
   refine RN.bq (no 1) [4, 6, 7, 8, 9, 10] [] 3 [(4, .slice (some ⟨b7, 0, none⟩) ((((toL a).length) - ((toL b).length)) + 1) ((((toL a).length) - ((toL b).length)) + 1)), (6, .int .i64 ((kk : Nat) : Int)), (7, .int .i64 (((toL b).length : Nat) : Int)), (8, .slice (some ⟨y1.1, 0, none⟩) ((toL a).length + 1) ((toL a).length + 1)), (9, sl y6 (toL V).length), (10, .int .i64 (((m - 1 : Nat) : Int) - 1))] k_ ?_
   refine RN.done k_ ?_
   refine KN.roundE (m - 1, w1.1, q.set (m - 1) x) [4, 6, 7, 8, 9, 10] [0, 1, 2, 3, 4] (l2 := [(4, .slice (some ⟨b7, 0, none⟩) ((((toL a).length) - ((toL b).length)) + 1) ((((toL a).length) - ((toL b).length)) + 1)), (6, .int .i64 ((kk : Nat) : Int)), (7, .int .i64 (((toL b).length : Nat) : Int)), (8, .slice (some ⟨y1.1, 0, none⟩) ((toL a).length + 1) ((toL a).length + 1)), (9, sl y6 (toL V).length), (10, .int .i64 (((m - 1 : Nat) : Int) - 1))]) (by (try dsimp only); omega) (by (try dsimp only); first | (rw [he.2]; exact hD.step (by omega) hab hvW hV0 hm0 (by omega) r2 r3 he.1 hx4) | (rw [ho.2.1]; exact hD.step (by omega) hab hvW hV0 hm0 (by omega) q2 (fun i hi => (q3 i hi).trans (r3 i hi)) ho.1 hx4)) k_ (by rfl) (by rfl) (by rfl)
 ·replace c9 := of_decide_eq_false c9
  have hm0 : m = 0 := by omega
  subst hm0
  have hD' := hD
  rw [hA, hV] at hD'
  obtain ⟨hd1, hd2, hd3⟩ := hD'.done
  refine J.exit (KX.next (KX.next (KX.hit ?_)))
  refine KN.next ?_
  refine J.sreg ?_
  refine RN.bq (no 1) [4, 6, 8, 99] [] 1 [(4, .slice (some ⟨b7, 0, none⟩) ((((toL a).length) - ((toL b).length)) + 1) ((((toL a).length) - ((toL b).length)) + 1)), (6, .int .i64 ((kk : Nat) : Int)), (8, .slice (some ⟨y1.1, 0, none⟩) ((toL a).length + 1) ((toL a).length + 1)), (99, .int .i64 (((toL b).length : Nat) : Int))] k_ ?_
  refine RN.make (e := 0) (m := ((toL b).length)) (.cells (encU (List.replicate ((toL b).length) 0)) 107 (0, 0)) k_ k_ (fun w => (q_make1 (t := 36) (m := ((toL b).length)) (by_ := 4) (K := .i64) (K' := .i64) (n1 := (((toL b).length : Nat) : Int)) (n2 := (((toL b).length : Nat) : Int)) (x := (.tmp 99)) (y := (.tmp 99)) (e := 107) k_ k_ k_ (by omega) (by omega) k_ k_ rfl (by omega) (by omega) w).trans (by rw [encU_rep])) (fun b14 => ?_)
  refine RN.bq (no 1) [4, 5, 6, 8] [] 3 [(4, .slice (some ⟨b7, 0, none⟩) ((((toL a).length) - ((toL b).length)) + 1) ((((toL a).length) - ((toL b).length)) + 1)), (5, .slice (some ⟨b14, 0, none⟩) ((toL b).length) ((toL b).length)), (6, .int .i64 ((kk : Nat) : Int)), (8, .slice (some ⟨y1.1, 0, none⟩) ((toL a).length + 1) ((toL a).length + 1))] k_ ?_
  refine RN.fin k_ ?_
  refine J.seq ?_
  refine J.sreg ?_
  refine RN.bq (no 3) [4, 5, 6, 8, 102, 103] [] 3 [(4, .slice (some ⟨b7, 0, none⟩) ((((toL a).length) - ((toL b).length)) + 1) ((((toL a).length) - ((toL b).length)) + 1)), (5, .slice (some ⟨b14, 0, none⟩) ((toL b).length) ((toL b).length)), (6, .int .i64 ((kk : Nat) : Int)), (8, .slice (some ⟨y1.1, 0, none⟩) ((toL a).length + 1) ((toL a).length + 1)), (102, .int .i64 (((toL b).length : Nat) : Int)), (103, .int .i64 0)] k_ ?_
  refine RN.fin k_ ?_
  refine J.block ?_
  refine J.loop (ι := (Nat) × (List Nat)) (fun x => x.1 ≤ (toL b).length ∧ RemI u (toL b).length kk x.2 x.1) (fun x => (toL b).length - x.1) (fun x => [(4, .slice (some ⟨b7, 0, none⟩) ((((toL a).length) - ((toL b).length)) + 1) ((((toL a).length) - ((toL b).length)) + 1)), (5, .slice (some ⟨b14, 0, none⟩) ((toL b).length) ((toL b).length)), (6, .int .i64 ((kk : Nat) : Int)), (8, .slice (some ⟨y1.1, 0, none⟩) ((toL a).length + 1) ((toL a).length + 1)), (102, .int .i64 (((toL b).length : Nat) : Int)), (103, .int .i64 ((x.1 : Nat) : Int))]) (fun x => [(b14, .cells (encU x.2) 107 (0, 0)), (b7, .cells (encU q) 107 (0, 0)), (y1.1, .cells (encU u) 107 (0, 0))]) (fun x => [fU y6 (toL V), fU (⟨some ⟨y2.1, 0, none⟩, (toL b).length + 1⟩ : SA) y2.2, fBlk y2.1 (.cells (encU y2.2) 107 (0, 0)), fU s (toL a), fU t (toL b)]) (0, List.replicate ((toL b).length) 0) [4, 5, 6, 8, 102, 103] [0, 1, 2, 3, 4] (⟨Nat.zero_le _, RemI.start _ _ _⟩) k_ (by first | rfl | (simp only [encQ_zero]; done) | (simp only [encQ_zero]; rfl)) (by rfl) (fun x15 hR => ?_)
  obtain ⟨k, r⟩ := x15
  replace hR : k ≤ (toL b).length ∧ RemI u (toL b).length kk r k := hR
  obtain ⟨hR1, hR2⟩ := hR
  have hRl := hR2.1
  have hg1 : u.getD (k + 1) 0 < 4294967296 := hD.2.1.getD _
  have hg2 : u.getD k 0 < 4294967296 := hD.2.1.getD _
  refine J.sreg ?_
  refine RN.bq (no 1) [4, 5, 6, 8, 102, 103, 104] [] 1 [(4, .slice (some ⟨b7, 0, none⟩) ((((toL a).length) - ((toL b).length)) + 1) ((((toL a).length) - ((toL b).length)) + 1)), (5, .slice (some ⟨b14, 0, none⟩) ((toL b).length) ((toL b).length)), (6, .int .i64 ((kk : Nat) : Int)), (8, .slice (some ⟨y1.1, 0, none⟩) ((toL a).length + 1) ((toL a).length + 1)), (102, .int .i64 (((toL b).length : Nat) : Int)), (103, .int .i64 ((k : Nat) : Int)), (104, .bool (decide (((k : Nat) : Int) < (((toL b).length : Nat) : Int))))] k_ ?_
  refine RN.fin k_ ?_
  refine J.seq ?_
  refine J.cond (decide (((k : Nat) : Int) < (((toL b).length : Nat) : Int))) k_ (fun c16 => ?_) (fun c16 => ?_)
  ·replace c16 := of_decide_eq_true c16
   refine J.skip ?_
   refine KN.next ?_
   refine J.seq ?_
   refine J.block ?_
   refine J.sreg ?_
   refine RN.bq (no 2) [4, 5, 6, 8, 12, 102, 103] [] 2 [(4, .slice (some ⟨b7, 0, none⟩) ((((toL a).length) - ((toL b).length)) + 1) ((((toL a).length) - ((toL b).length)) + 1)), (5, .slice (some ⟨b14, 0, none⟩) ((toL b).length) ((toL b).length)), (6, .int .i64 ((kk : Nat) : Int)), (8, .slice (some ⟨y1.1, 0, none⟩) ((toL a).length + 1) ((toL a).length + 1)), (12, .int .i64 ((k : Nat) : Int)), (102, .int .i64 (((toL b).length : Nat) : Int)), (103, .int .i64 ((k : Nat) : Int))] k_ ?_
   refine RN.fin k_ ?_
   refine J.regD k_ [19] ?_
   refine RD.bq (nl [0, 1, 2, 3, 4]) [4, 5, 6, 8, 12, 102, 103, 106, 107, 108, 110] [] [(4, .slice (some ⟨b7, 0, none⟩) ((((toL a).length) - ((toL b).length)) + 1) ((((toL a).length) - ((toL b).length)) + 1)), (5, .slice (some ⟨b14, 0, none⟩) ((toL b).length) ((toL b).length)), (6, .int .i64 ((kk : Nat) : Int)), (8, .slice (some ⟨y1.1, 0, none⟩) ((toL a).length + 1) ((toL a).length + 1)), (12, .int .i64 ((k : Nat) : Int)), (102, .int .i64 (((toL b).length : Nat) : Int)), (103, .int .i64 ((k : Nat) : Int)), (106, .slice (some ⟨b14, 0, none⟩) ((toL b).length) ((toL b).length)), (107, .int .i64 ((k : Nat) : Int)), (108, .slice (some ⟨y1.1, 0, none⟩) ((toL a).length + 1) ((toL a).length + 1)), (110, .int .i64 (IntKind.i64.wrap (((k : Nat) : Int) + 1)))] k_ k_ ?_
   rw [show IntKind.i64.wrap (((k : Nat) : Int) + 1) = ((k + 1 : Nat) : Int) from by rw [IntKind.wrap_i64]; omega]
   refine RD.bq (nl [9, 10, 15]) [4, 5, 6, 8, 102, 103, 106, 107, 108, 110, 115, 116, 121] [] [(4, .slice (some ⟨b7, 0, none⟩) ((((toL a).length) - ((toL b).length)) + 1) ((((toL a).length) - ((toL b).length)) + 1)), (5, .slice (some ⟨b14, 0, none⟩) ((toL b).length) ((toL b).length)), (6, .int .i64 ((kk : Nat) : Int)), (8, .slice (some ⟨y1.1, 0, none⟩) ((toL a).length + 1) ((toL a).length + 1)), (102, .int .i64 (((toL b).length : Nat) : Int)), (103, .int .i64 ((k : Nat) : Int)), (106, .slice (some ⟨b14, 0, none⟩) ((toL b).length) ((toL b).length)), (107, .int .i64 ((k : Nat) : Int)), (108, .slice (some ⟨y1.1, 0, none⟩) ((toL a).length + 1) ((toL a).length + 1)), (110, .int .i64 ((k + 1 : Nat) : Int)), (115, .slice (some ⟨y1.1, 0, none⟩) ((toL a).length + 1) ((toL a).length + 1)), (116, .int .i64 ((k : Nat) : Int)), (121, .int .i64 ((kk : Nat) : Int))] k_ k_ ?_
   refine RD.val (i := 5) _ k_ k_ k_ (q_oidx (t := 36) (x := (.tmp 108)) (ix := (.tmp 110)) (b := y1.1) (n := ((toL a).length + 1)) (c := ((toL a).length + 1)) (K := .i64) (i0 := ((k + 1 : Nat) : Int)) (m := k + 1) (e := 107) (sz := 1) k_ k_ k_ k_ k_ (by omega) x_) ?_
   refine RD.val (i := 6) _ k_ k_ k_ (q_oload (mi := 2) (T := 107) (x := (.tmp 111)) (m := k + 1) (xs := u) rfl k_ k_ k_ x_) ?_
   refine RD.bq (nl [7]) [4, 5, 6, 8, 102, 103, 106, 107, 113, 115, 116, 121] [] [(4, .slice (some ⟨b7, 0, none⟩) ((((toL a).length) - ((toL b).length)) + 1) ((((toL a).length) - ((toL b).length)) + 1)), (5, .slice (some ⟨b14, 0, none⟩) ((toL b).length) ((toL b).length)), (6, .int .i64 ((kk : Nat) : Int)), (8, .slice (some ⟨y1.1, 0, none⟩) ((toL a).length + 1) ((toL a).length + 1)), (102, .int .i64 (((toL b).length : Nat) : Int)), (103, .int .i64 ((k : Nat) : Int)), (106, .slice (some ⟨b14, 0, none⟩) ((toL b).length) ((toL b).length)), (107, .int .i64 ((k : Nat) : Int)), (113, .int .u64 (IntKind.u64.wrap ((u.getD (k + 1) 0 : Nat) : Int))), (115, .slice (some ⟨y1.1, 0, none⟩) ((toL a).length + 1) ((toL a).length + 1)), (116, .int .i64 ((k : Nat) : Int)), (121, .int .i64 ((kk : Nat) : Int))] k_ k_ ?_
   rw [show IntKind.u64.wrap ((u.getD (k + 1) 0 : Nat) : Int) = ((u.getD (k + 1) 0 : Nat) : Int) from uw64b (u.getD (k + 1) 0) (by rfl) (by omega)]
   refine RD.bq (nl [8]) [4, 5, 6, 8, 102, 103, 106, 107, 114, 115, 116, 121] [] [(4, .slice (some ⟨b7, 0, none⟩) ((((toL a).length) - ((toL b).length)) + 1) ((((toL a).length) - ((toL b).length)) + 1)), (5, .slice (some ⟨b14, 0, none⟩) ((toL b).length) ((toL b).length)), (6, .int .i64 ((kk : Nat) : Int)), (8, .slice (some ⟨y1.1, 0, none⟩) ((toL a).length + 1) ((toL a).length + 1)), (102, .int .i64 (((toL b).length : Nat) : Int)), (103, .int .i64 ((k : Nat) : Int)), (106, .slice (some ⟨b14, 0, none⟩) ((toL b).length) ((toL b).length)), (107, .int .i64 ((k : Nat) : Int)), (114, .int .u64 (IntKind.u64.wrap (((u.getD (k + 1) 0 : Nat) : Int) * 2 ^ 32))), (115, .slice (some ⟨y1.1, 0, none⟩) ((toL a).length + 1) ((toL a).length + 1)), (116, .int .i64 ((k : Nat) : Int)), (121, .int .i64 ((kk : Nat) : Int))] k_ k_ ?_
   rw [show IntKind.u64.wrap (((u.getD (k + 1) 0 : Nat) : Int) * 2 ^ 32) = (((u.getD (k + 1) 0) * 2 ^ 32 : Nat) : Int) from uw64b ((u.getD (k + 1) 0) * 2 ^ 32) (by simp) (by omega)]
   refine RD.val (i := 11) _ k_ k_ k_ (q_oidx (t := 36) (x := (.tmp 115)) (ix := (.tmp 116)) (b := y1.1) (n := ((toL a).length + 1)) (c := ((toL a).length + 1)) (K := .i64) (i0 := ((k : Nat) : Int)) (m := k) (e := 107) (sz := 1) k_ k_ k_ k_ k_ (by omega) x_) ?_
   refine RD.val (i := 12) _ k_ k_ k_ (q_oload (mi := 2) (T := 107) (x := (.tmp 117)) (m := k) (xs := u) rfl k_ k_ k_ x_) ?_
   refine RD.bq (nl [13]) [4, 5, 6, 8, 102, 103, 106, 107, 114, 119, 121] [] [(4, .slice (some ⟨b7, 0, none⟩) ((((toL a).length) - ((toL b).length)) + 1) ((((toL a).length) - ((toL b).length)) + 1)), (5, .slice (some ⟨b14, 0, none⟩) ((toL b).length) ((toL b).length)), (6, .int .i64 ((kk : Nat) : Int)), (8, .slice (some ⟨y1.1, 0, none⟩) ((toL a).length + 1) ((toL a).length + 1)), (102, .int .i64 (((toL b).length : Nat) : Int)), (103, .int .i64 ((k : Nat) : Int)), (106, .slice (some ⟨b14, 0, none⟩) ((toL b).length) ((toL b).length)), (107, .int .i64 ((k : Nat) : Int)), (114, .int .u64 (((u.getD (k + 1) 0) * 2 ^ 32 : Nat) : Int)), (119, .int .u64 (IntKind.u64.wrap ((u.getD k 0 : Nat) : Int))), (121, .int .i64 ((kk : Nat) : Int))] k_ k_ ?_
   rw [show IntKind.u64.wrap ((u.getD k 0 : Nat) : Int) = ((u.getD k 0 : Nat) : Int) from uw64b (u.getD k 0) (by rfl) (by omega)]
   refine RD.bq (nl [14]) [4, 5, 6, 8, 102, 103, 106, 107, 120, 121] [] [(4, .slice (some ⟨b7, 0, none⟩) ((((toL a).length) - ((toL b).length)) + 1) ((((toL a).length) - ((toL b).length)) + 1)), (5, .slice (some ⟨b14, 0, none⟩) ((toL b).length) ((toL b).length)), (6, .int .i64 ((kk : Nat) : Int)), (8, .slice (some ⟨y1.1, 0, none⟩) ((toL a).length + 1) ((toL a).length + 1)), (102, .int .i64 (((toL b).length : Nat) : Int)), (103, .int .i64 ((k : Nat) : Int)), (106, .slice (some ⟨b14, 0, none⟩) ((toL b).length) ((toL b).length)), (107, .int .i64 ((k : Nat) : Int)), (120, .int .u64 (IntKind.u64.wrap ((BitVec.ofInt 64 (((u.getD (k + 1) 0) * 2 ^ 32 : Nat) : Int) ||| BitVec.ofInt 64 ((u.getD k 0 : Nat) : Int)).toNat : Nat))), (121, .int .i64 ((kk : Nat) : Int))] k_ k_ ?_
   rw [show (IntKind.u64.wrap ((BitVec.ofInt 64 (((u.getD (k + 1) 0) * 2 ^ 32 : Nat) : Int) ||| BitVec.ofInt 64 ((u.getD k 0 : Nat) : Int)).toNat : Nat)) = ((u.getD (k + 1) 0 * 2 ^ 32 + u.getD k 0 : Nat) : Int) from by rw [bv_or (by omega) (by omega), or_shift _ _ 32 (by omega)]; exact uw64b _ rfl (by omega)]
   refine RD.val (i := 16) _ k_ k_ k_ (q_shr (T := 109) (T' := 3) (x := (.tmp 120)) (y := (.tmp 121)) (k := .u64) (k' := .i64) (a := ((u.getD (k + 1) 0 * 2 ^ 32 + u.getD k 0 : Nat) : Int)) (b := ((kk : Nat) : Int)) (m := kk) k_ k_ k_ (by omega) (by simp only [IntKind.bits]; omega)) ?_
   rw [show Int.fdiv ((u.getD (k + 1) 0 * 2 ^ 32 + u.getD k 0 : Nat) : Int) (2 ^ kk) = (((u.getD (k + 1) 0 * 2 ^ 32 + u.getD k 0) / 2 ^ kk : Nat) : Int) from fdivn _ _]
   refine RD.bq (nl [17]) [4, 5, 6, 8, 102, 103, 106, 107, 123] [] [(4, .slice (some ⟨b7, 0, none⟩) ((((toL a).length) - ((toL b).length)) + 1) ((((toL a).length) - ((toL b).length)) + 1)), (5, .slice (some ⟨b14, 0, none⟩) ((toL b).length) ((toL b).length)), (6, .int .i64 ((kk : Nat) : Int)), (8, .slice (some ⟨y1.1, 0, none⟩) ((toL a).length + 1) ((toL a).length + 1)), (102, .int .i64 (((toL b).length : Nat) : Int)), (103, .int .i64 ((k : Nat) : Int)), (106, .slice (some ⟨b14, 0, none⟩) ((toL b).length) ((toL b).length)), (107, .int .i64 ((k : Nat) : Int)), (123, .int .u32 (IntKind.u32.wrap (((u.getD (k + 1) 0 * 2 ^ 32 + u.getD k 0) / 2 ^ kk : Nat) : Int)))] k_ k_ ?_
   rw [show IntKind.u32.wrap (((u.getD (k + 1) 0 * 2 ^ 32 + u.getD k 0) / 2 ^ kk : Nat) : Int) = ((((u.getD (k + 1) 0 * 2 ^ 32 + u.getD k 0) / 2 ^ kk) % 4294967296 : Nat) : Int) from uw32e ((u.getD (k + 1) 0 * 2 ^ 32 + u.getD k 0) / 2 ^ kk) (by rfl)]
   refine RD.val (i := 18) _ k_ k_ k_ (q_oidx (t := 36) (x := (.tmp 106)) (ix := (.tmp 107)) (b := b14) (n := ((toL b).length)) (c := ((toL b).length)) (K := .i64) (i0 := ((k : Nat) : Int)) (m := k) (e := 107) (sz := 1) k_ k_ k_ k_ k_ (by omega) x_) ?_
   refine RD.ot (i := 19) k_ k_ k_ k_ (ot_ustore (mi := 0) (T := 107) (x := (.tmp 124)) (y := (.tmp 123)) (b := b14) (m := k) (xs := r) (v := ((((u.getD (k + 1) 0 * 2 ^ 32 + u.getD k 0) / 2 ^ kk) % 4294967296 : Nat) : Int)) (v0 := ((u.getD (k + 1) 0 * 2 ^ 32 + u.getD k 0) / 2 ^ kk) % 4294967296) rfl k_ k_ k_ k_ k_ (by omega) x_) (fun _ _ => ?_)
   refine RD.done k_ ?_
   refine KN.blk ?_
   refine KN.next ?_
   refine J.regN ?_
   refine RN.bq (no 1) [4, 5, 6, 8, 102, 125] [] 1 [(4, .slice (some ⟨b7, 0, none⟩) ((((toL a).length) - ((toL b).length)) + 1) ((((toL a).length) - ((toL b).length)) + 1)), (5, .slice (some ⟨b14, 0, none⟩) ((toL b).length) ((toL b).length)), (6, .int .i64 ((kk : Nat) : Int)), (8, .slice (some ⟨y1.1, 0, none⟩) ((toL a).length + 1) ((toL a).length + 1)), (102, .int .i64 (((toL b).length : Nat) : Int)), (125, .int .i64 (IntKind.i64.wrap (((k : Nat) : Int) + 1)))] k_ ?_
   rw [show IntKind.i64.wrap (((k : Nat) : Int) + 1) = ((k + 1 : Nat) : Int) from by rw [IntKind.wrap_i64]; omega]
   refine RN.bq (no 1) [4, 5, 6, 8, 102, 103] [] 2 [(4, .slice (some ⟨b7, 0, none⟩) ((((toL a).length) - ((toL b).length)) + 1) ((((toL a).length) - ((toL b).length)) + 1)), (5, .slice (some ⟨b14, 0, none⟩) ((toL b).length) ((toL b).length)), (6, .int .i64 ((kk : Nat) : Int)), (8, .slice (some ⟨y1.1, 0, none⟩) ((toL a).length + 1) ((toL a).length + 1)), (102, .int .i64 (((toL b).length : Nat) : Int)), (103, .int .i64 ((k + 1 : Nat) : Int))] k_ ?_
   refine RN.done k_ ?_
   refine KN.roundE (k + 1, r.set k (((u.getD (k + 1) 0 * 2 ^ 32 + u.getD k 0) / 2 ^ kk) % 4294967296)) [4, 5, 6, 8, 102, 103] [0, 1, 2, 3, 4] (l2 := [(4, .slice (some ⟨b7, 0, none⟩) ((((toL a).length) - ((toL b).length)) + 1) ((((toL a).length) - ((toL b).length)) + 1)), (5, .slice (some ⟨b14, 0, none⟩) ((toL b).length) ((toL b).length)), (6, .int .i64 ((kk : Nat) : Int)), (8, .slice (some ⟨y1.1, 0, none⟩) ((toL a).length + 1) ((toL a).length + 1)), (102, .int .i64 (((toL b).length : Nat) : Int)), (103, .int .i64 ((k + 1 : Nat) : Int))]) (by (try dsimp only); omega) (by (try dsimp only); exact ⟨by omega, hR2.step hD.2.1 (by omega) (by omega)⟩) k_ (by rfl) (by rfl) (by rfl)
  ·replace c16 := of_decide_eq_false c16
   have hk : k = (toL b).length := by omega
   subst hk
   have hRd := hR2.done (V := 0) hd2 hd3 (Nat.lt_of_le_of_lt (Nat.mul_le_mul_right _ (Nat.le_of_lt (Nat.mod_lt a (Nat.pos_of_mul_pos_right (by rw [hV] at hV0; exact hV0))))) (by rw [hV] at hvW; exact hvW))
   refine J.exit (KX.next (KX.next (KX.hit ?_)))
   refine KN.next ?_
   refine J.sreg ?_
   refine RN.bq (no 1) [5, 126] [] 1 [(5, .slice (some ⟨b14, 0, none⟩) ((toL b).length) ((toL b).length)), (126, .slice (some ⟨b7, 0, none⟩) ((((toL a).length) - ((toL b).length)) + 1) ((((toL a).length) - ((toL b).length)) + 1))] k_ ?_
   refine RN.share 1 rfl rfl ?_
   refine RN.also (fU (⟨some ⟨b7, 0, none⟩, (((toL a).length) - ((toL b).length)) + 1⟩ : SA) q) (fun w h => fU_own (h _ (.head _)) x_ x_) ?_
   refine RN.turn 126 (v := .slice (some ⟨b7, 0, none⟩) ((((toL a).length) - ((toL b).length)) + 1) ((((toL a).length) - ((toL b).length)) + 1)) (v' := sl (⟨some ⟨b7, 0, none⟩, (((toL a).length) - ((toL b).length)) + 1⟩ : SA) q.length) k_ (sl_eq x_) ?_
   refine RN.call (natural_trimmed (⟨some ⟨b7, 0, none⟩, (((toL a).length) - ((toL b).length)) + 1⟩ : SA) q y_natural_divide) [0] k_ k_ k_ rfl (fun y17 _ => ?_)
   refine RN.bq (no 1) [127, 128] [] 3 [(127, sl y17 (toL (lv q)).length), (128, .slice (some ⟨b14, 0, none⟩) ((toL b).length) ((toL b).length))] k_ ?_
   refine RN.share 0 rfl rfl ?_
   refine RN.also (fU (⟨some ⟨b14, 0, none⟩, (toL b).length⟩ : SA) r) (fun w h => fU_own (h _ (.head _)) x_ x_) ?_
   refine RN.turn 128 (v := .slice (some ⟨b14, 0, none⟩) ((toL b).length) ((toL b).length)) (v' := sl (⟨some ⟨b14, 0, none⟩, (toL b).length⟩ : SA) r.length) k_ (sl_eq x_) ?_
   refine RN.call (natural_trimmed (⟨some ⟨b14, 0, none⟩, (toL b).length⟩ : SA) r y_natural_divide) [0] k_ k_ k_ rfl (fun y18 _ => ?_)
   refine RN.bq (no 2) [4, 5] [] 6 [(4, sl y17 (toL (lv q)).length), (5, sl y18 (toL (lv r)).length)] k_ ?_
   refine RN.fin k_ ?_
   have e_1 : (toL (a / b)) = (toL (lv q)) := by first | rw [hd1] | rw [hRd.2]
   have e_2 : (toL (a % b)) = (toL (lv r)) := by first | rw [hd1] | rw [hRd.2]
   refine J.ret (KR.ret (v := .tuple #[sl y17 (toL (lv q)).length, sl y18 (toL (lv r)).length]) (⟨y17, y18⟩) [none, none] [3, 0] [] k_ v2_ (trivial) v2_)
end Go.Proofs.YtbiifkfbkaejlaaGreat.E
