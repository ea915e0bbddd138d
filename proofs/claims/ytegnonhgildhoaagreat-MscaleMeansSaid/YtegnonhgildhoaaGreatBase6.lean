import Derived.Test.YtegnonhgildhoaaGreatBase5
import Derived.Test.YtegnonhgildhoaaGreatEB
import Derived.Test.YtegnonhgildhoaaGreatN9
namespace Go.Proofs.YtegnonhgildhoaaGreat.E
open Go Go.RowKit
set_option linter.unusedVariables false
set_option linter.unusedSimpArgs false
theorem r01_Valid (s : SA) (xs : List Nat) : Spec Tryz.prog 125 #[sl s xs.length] [fU s xs] (ι := Unit) (fun y => .bool (validU xs)) (fun y => True) (fun y => []) := by
  refine Spec.of_body _ (fn := Tryz.f125) k_ rfl k_ (fun X w0 => ?_)
  refine J.fact (φ := xs.length ≤ 140737488355328) (fun w h => by have := (h _ (.head _)).1; omega) (fun hl1 => ?_)
  refine J.sreg ?_
  refine RN.bq (no 1) [0] [] (k' := 1) (l' := [(0, sl s xs.length)]) k_ ?_
  refine RN.done k_ ?_
  refine KN.next ?_
  refine J.sreg ?_
  refine RN.bq (no 4) [0, 6] [] (k' := 4) (l' := [(0, sl s xs.length), (6, .bool ((((xs.length : Nat) : Int) : Int) == 0))]) k_ ?_
  refine RN.split 6 ((((xs.length : Nat) : Int) : Int) == 0) k_ (fun c2 => ?_) (fun c2 => ?_)
  · skip
    replace c2 := eq_of_beq c2
    refine RN.bq (no 9) [2] [] (k' := 13) (l' := [(2, .bool true)]) k_ ?_
    refine RN.done k_ ?_
    refine KN.next ?_
    have e_1 : (validU xs) = true := by exact validU_eq _ ‹_›
    refine J.ret (KR.ret (v := .bool true) (()) [none] [] [] k_ v1_ (trivial) v1_)
  · skip
    replace c2 := ne_of_beq_false c2
    refine RN.bq (no 4) [6, 7, 10] [] (k' := 8) (l' := [(6, .bool false), (7, sl s xs.length), (10, .int .i64 (IntKind.i64.wrap (((xs.length : Nat) : Int) - 1)))]) k_ ?_
    rw [show IntKind.i64.wrap (((xs.length : Nat) : Int) - 1) = (((xs.length : Nat) : Int) - 1) from by rw [IntKind.wrap_i64]; omega]
    refine RN.val _ k_ k_ (q_uidx (t := 23) (x := (.tmp 7)) (ix := (.tmp 10)) (K := .i64) (i0 := ((xs.length : Nat) : Int) - 1) (m := (((xs.length : Nat) : Int) - 1).toNat) (e := 82) 0 rfl k_ k_ k_ k_ k_ (by omega) x_) ?_
    refine RN.val _ k_ k_ (q_uload (T := 82) (x := (.tmp 11)) (m := (((xs.length : Nat) : Int) - 1).toNat) (s := s) (xs := xs) 0 rfl k_ k_ k_ x_) ?_
    refine RN.bq (no 3) [2] [] (k' := 13) (l' := [(2, .bool ((((xs.getD ((((xs.length : Nat) : Int) - 1).toNat) 0 : Nat) : Int) : Int) != 0))]) k_ ?_
    refine RN.done k_ ?_
    refine KN.next ?_
    have e_1 : (validU xs) = ((((xs.getD ((((xs.length : Nat) : Int) - 1).toNat) 0 : Nat) : Int) : Int) != 0) := by exact validU_ne _ ‹_›
    refine J.ret (KR.ret (v := .bool ((((xs.getD ((((xs.length : Nat) : Int) - 1).toNat) 0 : Nat) : Int) : Int) != 0)) (()) [none] [] [] k_ v1_ (trivial) v1_)
theorem r01_Take (s : SA) (xs : List Nat) (hx : Lb xs) (hxl : xs.length ≤ 1099511627776) : Spec Tryz.prog 100 #[sl s xs.length] [fU s xs] (ι := SA) (fun y => sl y (toL (nv xs)).length) (fun y => True) (fun y => [fU y (toL (nv xs))]) := by
  refine Spec.of_body _ (fn := Tryz.f100) k_ rfl k_ (fun X w0 => ?_)
  refine J.fact (φ := xs.length ≤ 140737488355328) (fun w h => by have := (h _ (.head _)).1; omega) (fun hl1 => ?_)
  refine J.sreg ?_
  refine RN.bq (no 1) [0] [] (k' := 1) (l' := [(0, sl s xs.length)]) k_ ?_
  refine RN.done k_ ?_
  refine KN.next ?_
  refine J.seq ?_
  refine J.sreg ?_
  refine RN.bq (no 1) [0, 3] [] (k' := 1) (l' := [(0, sl s xs.length), (3, sl s xs.length)]) k_ ?_
  refine RN.call (r01_Valid s xs) [0] k_ k_ k_ rfl (fun y2 _ => ?_)
  refine RN.bq (no 1) [0, 5] [] (k' := 3) (l' := [(0, sl s xs.length), (5, .bool (!(validU xs)))]) k_ ?_
  refine RN.done k_ ?_
  refine KN.next ?_
  refine J.cond (!(validU xs)) k_ (fun c3 => ?_) (fun c3 => ?_)
  · skip
    refine J.sreg ?_
    refine RN.bq (no 1) [2] [] (k' := 1) (l' := [(2, .slice none 0 0)]) k_ ?_
    refine RN.done k_ ?_
    refine KN.next ?_
    have e_1 : (toL (nv xs)) = ([] : List Nat) := by exact toL_nv_f hx (by simpa using ‹(!validU xs) = true›)
    refine J.also (fU saNil ([] : List Nat)) (fun w h => fU_nil w) ?_
    refine J.ret (KR.next (KR.ret (v := .slice none 0 0) (saNil) [none] [0] [] k_ v1_ (trivial) v1_))
  · skip
    refine J.skip ?_
    refine KN.next ?_
    refine J.sreg ?_
    refine RN.bq (no 1) [6] [] (k' := 1) (l' := [(6, sl s xs.length)]) k_ ?_
    refine RN.ot k_ k_ (ot_uclone (T := 23) (e := 82) (by_ := 4) (x := (.const (.slice none 0 0))) (y := (.tmp 6)) (xs := xs) (s := s) 0 [] ([]) rfl rfl k_ k_ k_ k_ k_ k_ k_ (by omega) (by omega)) (fun g4 hg5 => ?_)
    refine RN.bq (no 1) [2] [] (k' := 3) (l' := [(2, sl (glS g4) xs.length)]) k_ ?_
    refine RN.done k_ ?_
    refine KN.next ?_
    refine J.shareG [] ([]) rfl (fU (glS g4) xs) (fun w hb h => fU_gl hb (by assumption) x_) ?_
    have e_1 : (toL (nv xs)) = xs := by exact toL_nv_t hx (by simpa using ‹(!validU xs) = false›)
    refine J.ret (KR.ret (v := sl (glS g4) xs.length) (glS g4) [none] [0] [] k_ v1_ (trivial) v1_)
theorem trim_drop {zs : List Nat} (hn : 0 < zs.length) (hz : ((zs.getD ((zs.length : Int) - 1).toNat 0 : Nat) : Int) = 0) : lv (zs.take (((zs.length : Int) - 1).toNat)) = lv zs := by
  have e : ((zs.length : Int) - 1).toNat = zs.length - 1 := by omega
  rw [e] at hz ⊢
  have := lv_take_succ' zs (zs.length - 1)
  rw [show zs.length - 1 + 1 = zs.length by omega, take_of_le (Nat.le_refl _)] at this
  rw [this]
  have h0 : zs.getD (zs.length - 1) 0 = 0 := by omega
  rw [h0]; simp
theorem trim_end {zs : List Nat} (hb : Lb zs) (h : (zs.length : Int) > 0 → ((zs.getD ((zs.length : Int) - 1).toNat 0 : Nat) : Int) ≠ 0) : toL (lv zs) = zs := by
  apply toL_lv hb
  by_cases h0 : (zs.length : Int) = 0
  · exact validU_eq _ h0
  · rw [validU_ne _ h0]; simpa using h (by omega)
theorem r01_trim (s : SA) (xs : List Nat) (hx : Lb xs) : Spec Tryz.prog 123 #[sl s xs.length] [fU s xs] (ι := SA) (fun y => sl y (toL (lv xs)).length) (fun y => True) (fun y => [fU y (toL (lv xs))]) := by
  refine Spec.of_body _ (fn := Tryz.f123) k_ rfl k_ (fun X w0 => ?_)
  refine J.fact (φ := xs.length ≤ 140737488355328) (fun w h => by have := (h _ (.head _)).1; omega) (fun hl1 => ?_)
  refine J.sreg ?_
  refine RN.bq (no 1) [0] [] (k' := 1) (l' := [(0, sl s xs.length)]) k_ ?_
  refine RN.done k_ ?_
  refine KN.next ?_
  refine J.seq ?_
  refine J.block ?_
  refine J.loop (ι := (SA) × (List Nat)) (fun x => Lb x.2 ∧ lv x.2 = lv xs ∧ x.2.length ≤ 140737488355328) (fun x => x.2.length) (fun x => [(0, sl x.1 x.2.length)]) (fun x => []) (fun x => [fU x.1 x.2, fU s xs]) (s, xs) [0] [0, 0] (⟨hx, rfl, hl1⟩) k_ (by first | rfl | (simp only [encQ_zero]; done) | (simp only [encQ_zero]; rfl)) (by rfl) (fun x2 hI => ?_)
  obtain ⟨sa, zs⟩ := x2
  replace hI : Lb zs ∧ lv zs = lv xs ∧ zs.length ≤ 140737488355328 := hI
  obtain ⟨hI1, hI2, hI3⟩ := hI
  refine J.seq ?_
  refine J.sreg ?_
  refine RN.bq (no 4) [0, 6] [] (k' := 4) (l' := [(0, sl sa zs.length), (6, .bool (decide (((zs.length : Nat) : Int) > 0)))]) k_ ?_
  refine RN.split 6 (decide (((zs.length : Nat) : Int) > 0)) k_ (fun c3 => ?_) (fun c3 => ?_)
  · skip
    replace c3 := of_decide_eq_true c3
    refine RN.bq (no 4) [0, 6, 7, 10] [] (k' := 8) (l' := [(0, sl sa zs.length), (6, .bool true), (7, sl sa zs.length), (10, .int .i64 (IntKind.i64.wrap (((zs.length : Nat) : Int) - 1)))]) k_ ?_
    rw [show IntKind.i64.wrap (((zs.length : Nat) : Int) - 1) = (((zs.length : Nat) : Int) - 1) from by rw [IntKind.wrap_i64]; omega]
    refine RN.val _ k_ k_ (q_uidx (t := 23) (x := (.tmp 7)) (ix := (.tmp 10)) (K := .i64) (i0 := ((zs.length : Nat) : Int) - 1) (m := (((zs.length : Nat) : Int) - 1).toNat) (e := 82) 0 rfl k_ k_ k_ k_ k_ (by omega) x_) ?_
    refine RN.val _ k_ k_ (q_uload (T := 82) (x := (.tmp 11)) (m := (((zs.length : Nat) : Int) - 1).toNat) (s := sa) (xs := zs) 0 rfl k_ k_ k_ x_) ?_
    refine RN.bq (no 2) [0, 14] [] (k' := 12) (l' := [(0, sl sa zs.length), (14, .bool ((((zs.getD ((((zs.length : Nat) : Int) - 1).toNat) 0 : Nat) : Int) : Int) == 0))]) k_ ?_
    refine RN.done k_ ?_
    refine KN.next ?_
    refine J.cond ((((zs.getD ((((zs.length : Nat) : Int) - 1).toNat) 0 : Nat) : Int) : Int) == 0) k_ (fun c4 => ?_) (fun c4 => ?_)
    · skip
      replace c4 := eq_of_beq c4
      refine J.skip ?_
      refine KN.next ?_
      refine J.block ?_
      refine J.regN ?_
      refine RN.bq (no 4) [15, 18] [] (k' := 4) (l' := [(15, sl sa zs.length), (18, .int .i64 (IntKind.i64.wrap (((zs.length : Nat) : Int) - 1)))]) k_ ?_
      rw [show IntKind.i64.wrap (((zs.length : Nat) : Int) - 1) = (((zs.length : Nat) : Int) - 1) from by rw [IntKind.wrap_i64]; omega]
      refine RN.val _ k_ k_ (q_uslice (t := 23) (x := (.tmp 15)) (lo := 0) (hi := ((((zs.length : Nat) : Int) - 1).toNat)) (s := sa) (xs := zs) (e := 82) 0 (zs.take ((((zs.length : Nat) : Int) - 1).toNat)) rfl k_ k_ (.inl ⟨rfl, rfl⟩) (.inr ⟨(.tmp 18), .i64, ((zs.length : Nat) : Int) - 1, rfl, by kernel_rfl, by omega⟩) k_ k_ x_ x_ (by simp; try omega)) ?_
      refine RN.also (fU (saSub sa 1 0) (zs.take ((((zs.length : Nat) : Int) - 1).toNat))) (fun w h => fU_take (h _ (.head _)) ((((zs.length : Nat) : Int) - 1).toNat) x_) ?_
      refine RN.bq (no 1) [0] [] (k' := 6) (l' := [(0, sl (saSub sa 1 0) (zs.take ((((zs.length : Nat) : Int) - 1).toNat)).length)]) k_ ?_
      refine RN.done k_ ?_
      refine KN.blk ?_
      refine KN.roundE (saSub sa 1 0, zs.take ((((zs.length : Nat) : Int) - 1).toNat)) [0] [0, 2] (l2 := [(0, sl (saSub sa 1 0) (zs.take ((((zs.length : Nat) : Int) - 1).toNat)).length)]) (by (try dsimp only); first | (simp; done) | (simp; omega)) (by (try dsimp only); exact ⟨hI1.take _, (trim_drop (by omega) (by assumption)).trans hI2, by first | (simp; done) | (simp; omega)⟩) k_ (by rfl) (by rfl) (by rfl)
    · skip
      replace c4 := ne_of_beq_false c4
      refine J.exit (KX.next (KX.next (KX.hit ?_)))
      refine KN.next ?_
      refine J.sreg ?_
      refine RN.bq (no 2) [2] [] (k' := 2) (l' := [(2, sl sa zs.length)]) k_ ?_
      refine RN.done k_ ?_
      refine KN.next ?_
      have e_1 : (toL (lv xs)) = zs := by rw [← hI2]; first | exact trim_end hI1 (fun h => absurd h (by omega)) | exact trim_end hI1 (fun _ => by assumption)
      refine J.ret (KR.ret (v := sl sa zs.length) (sa) [none] [0] [] k_ v1_ (trivial) v1_)
  · skip
    replace c3 := of_decide_eq_false c3
    refine RN.bq (no 8) [0, 14] [] (k' := 12) (l' := [(0, sl sa zs.length), (14, .bool false)]) k_ ?_
    refine RN.done k_ ?_
    refine KN.next ?_
    refine J.condF k_ ?_
    refine J.exit (KX.next (KX.next (KX.hit ?_)))
    refine KN.next ?_
    refine J.sreg ?_
    refine RN.bq (no 2) [2] [] (k' := 2) (l' := [(2, sl sa zs.length)]) k_ ?_
    refine RN.done k_ ?_
    refine KN.next ?_
    have e_1 : (toL (lv xs)) = zs := by rw [← hI2]; first | exact trim_end hI1 (fun h => absurd h (by omega)) | exact trim_end hI1 (fun _ => by assumption)
    refine J.ret (KR.ret (v := sl sa zs.length) (sa) [none] [0] [] k_ v1_ (trivial) v1_)
theorem r01_limb (s : SA) (xs : List Nat) (i : Nat) (hx : Lb xs) : Spec Tryz.prog 122 #[sl s xs.length, .int .i64 ((i : Nat) : Int)] [fU s xs] (ι := Unit) (fun y => .int .u64 ((xs.getD i 0 : Nat) : Int)) (fun y => True) (fun y => []) := by
  refine Spec.of_body _ (fn := Tryz.f122) k_ rfl k_ (fun X w0 => ?_)
  refine J.fact (φ := xs.length ≤ 140737488355328) (fun w h => by have := (h _ (.head _)).1; omega) (fun hl1 => ?_)
  have hg : xs.getD i 0 < 4294967296 := hx.getD i
  refine J.sreg ?_
  refine RN.bq (no 1) [0, 1] [] (k' := 1) (l' := [(0, sl s xs.length), (1, .int .i64 ((i : Nat) : Int))]) k_ ?_
  refine RN.done k_ ?_
  refine KN.next ?_
  refine J.seq ?_
  refine J.sreg ?_
  refine RN.bq (no 4) [0, 1, 8] [] (k' := 4) (l' := [(0, sl s xs.length), (1, .int .i64 ((i : Nat) : Int)), (8, .bool (decide (((i : Nat) : Int) ≥ ((xs.length : Nat) : Int))))]) k_ ?_
  refine RN.done k_ ?_
  refine KN.next ?_
  refine J.cond (decide (((i : Nat) : Int) ≥ ((xs.length : Nat) : Int))) k_ (fun c2 => ?_) (fun c2 => ?_)
  · skip
    replace c2 := of_decide_eq_true c2
    refine J.sreg ?_
    refine RN.bq (no 1) [4] [] (k' := 1) (l' := [(4, .int .u64 0)]) k_ ?_
    refine RN.done k_ ?_
    refine KN.next ?_
    have e_1 : (((xs.getD i 0 : Nat) : Int) : Int) = (0 : Int) := by rw [getD_ge (by omega)]; rfl
    refine J.ret (KR.next (KR.ret (v := .int .u64 0) (()) [none] [] [] k_ v1_ (trivial) v1_))
  · skip
    replace c2 := of_decide_eq_false c2
    refine J.skip ?_
    refine KN.next ?_
    refine J.sreg ?_
    refine RN.bq (no 2) [9, 10] [] (k' := 2) (l' := [(9, sl s xs.length), (10, .int .i64 ((i : Nat) : Int))]) k_ ?_
    refine RN.val _ k_ k_ (q_uidx (t := 23) (x := (.tmp 9)) (ix := (.tmp 10)) (K := .i64) (i0 := ((i : Nat) : Int)) (m := i) (e := 82) 0 rfl k_ k_ k_ k_ k_ (by omega) x_) ?_
    refine RN.val _ k_ k_ (q_uload (T := 82) (x := (.tmp 11)) (m := i) (s := s) (xs := xs) 0 rfl k_ k_ k_ x_) ?_
    refine RN.bq (no 1) [13] [] (k' := 5) (l' := [(13, .int .u64 (IntKind.u64.wrap ((xs.getD i 0 : Nat) : Int)))]) k_ ?_
    rw [show IntKind.u64.wrap ((xs.getD i 0 : Nat) : Int) = ((xs.getD i 0 : Nat) : Int) from uw64b (xs.getD i 0) (by rfl) (by omega)]
    refine RN.bq (no 1) [4] [] (k' := 6) (l' := [(4, .int .u64 ((xs.getD i 0 : Nat) : Int))]) k_ ?_
    refine RN.done k_ ?_
    refine KN.next ?_
    refine J.ret (KR.ret (v := .int .u64 ((xs.getD i 0 : Nat) : Int)) (()) [none] [] [] k_ rfl (trivial) rfl)
theorem r01_limb_c (s : SA) (xs' : Nat) (i : Nat) : Spec Tryz.prog 122 #[sl s (toL xs').length, .int .i64 ((i : Nat) : Int)] [fU s (toL xs')] (ι := Unit) (fun y => .int .u64 (((toL xs').getD i 0 : Nat) : Int)) (fun y => True) (fun y => []) := by
  have H := r01_limb s (toL xs') i (Lb_toL _)
  first | exact H | (simp only [nv_toL, lv_toL, validU_toL] at H; exact H)
theorem r01_compare (s : SA) (a : Nat) (t : SA) (b : Nat) : Spec Tryz.prog 128 #[sl s (toL a).length, sl t (toL b).length] [fU s (toL a), fU t (toL b)] (ι := Unit) (fun y => .int .i64 (cmpN a b)) (fun y => True) (fun y => []) := by
  refine Spec.of_body _ (fn := Tryz.f128) k_ rfl k_ (fun X w0 => ?_)
  refine J.fact (φ := (toL a).length ≤ 140737488355328) (fun w h => by have := (h _ (.head _)).1; omega) (fun hl1 => ?_)
  refine J.fact (φ := (toL b).length ≤ 140737488355328) (fun w h => by have := (h _ (.tail _ ((.head _)))).1; omega) (fun hl2 => ?_)
  refine J.sreg ?_
  refine RN.bq (no 1) [0, 1] [] (k' := 1) (l' := [(0, sl s (toL a).length), (1, sl t (toL b).length)]) k_ ?_
  refine RN.done k_ ?_
  refine KN.next ?_
  refine J.seq ?_
  refine J.sreg ?_
  refine RN.bq (no 5) [0, 1, 10] [] (k' := 5) (l' := [(0, sl s (toL a).length), (1, sl t (toL b).length), (10, .bool (((((toL a).length : Nat) : Int) : Int) != (((toL b).length : Nat) : Int)))]) k_ ?_
  refine RN.done k_ ?_
  refine KN.next ?_
  refine J.cond (((((toL a).length : Nat) : Int) : Int) != (((toL b).length : Nat) : Int)) k_ (fun c3 => ?_) (fun c3 => ?_)
  · skip
    replace c3 := bne_iff_ne.1 c3
    refine J.seq ?_
    refine J.sreg ?_
    refine RN.bq (no 5) [15] [] (k' := 5) (l' := [(15, .bool (decide ((((toL a).length : Nat) : Int) < (((toL b).length : Nat) : Int))))]) k_ ?_
    refine RN.done k_ ?_
    refine KN.next ?_
    refine J.cond (decide ((((toL a).length : Nat) : Int) < (((toL b).length : Nat) : Int))) k_ (fun c4 => ?_) (fun c4 => ?_)
    · skip
      replace c4 := of_decide_eq_true c4
      refine J.sreg ?_
      refine RN.bq (no 1) [4] [] (k' := 1) (l' := [(4, .int .i64 (-1))]) k_ ?_
      refine RN.done k_ ?_
      refine KN.next ?_
      have e_1 : (cmpN a b : Int) = ((-1) : Int) := by exact cmpN_lt (toL_len_lt (by omega))
      refine J.ret (KR.next (KR.next (KR.ret (v := .int .i64 (-1)) (()) [none] [] [] k_ v1_ (trivial) v1_)))
    · skip
      replace c4 := of_decide_eq_false c4
      refine J.skip ?_
      refine KN.next ?_
      refine J.sreg ?_
      refine RN.bq (no 1) [4] [] (k' := 1) (l' := [(4, .int .i64 1)]) k_ ?_
      refine RN.done k_ ?_
      refine KN.next ?_
      have e_1 : (cmpN a b : Int) = (1 : Int) := by exact cmpN_gt (toL_len_lt (by omega))
      refine J.ret (KR.next (KR.ret (v := .int .i64 1) (()) [none] [] [] k_ v1_ (trivial) v1_))
  · skip
    replace c3 := bne_eq_false_iff_eq.1 c3
    refine J.skip ?_
    refine KN.next ?_
    refine J.seq ?_
    refine J.sreg ?_
    refine RN.bq (no 3) [0, 1, 18] [] (k' := 3) (l' := [(0, sl s (toL a).length), (1, sl t (toL b).length), (18, .int .i64 (IntKind.i64.wrap ((((toL a).length : Nat) : Int) - 1)))]) k_ ?_
    rw [show IntKind.i64.wrap ((((toL a).length : Nat) : Int) - 1) = ((((toL a).length : Nat) : Int) - 1) from by rw [IntKind.wrap_i64]; omega]
    refine RN.bq (no 1) [0, 1, 5] [] (k' := 4) (l' := [(0, sl s (toL a).length), (1, sl t (toL b).length), (5, .int .i64 ((((toL a).length : Nat) : Int) - 1))]) k_ ?_
    refine RN.done k_ ?_
    refine KN.next ?_
    refine J.block ?_
    refine J.loop (ι := (Nat)) (fun x => x ≤ (toL a).length ∧ ∀ i, x ≤ i → (toL a).getD i 0 = (toL b).getD i 0) (fun x => x) (fun x => [(0, sl s (toL a).length), (1, sl t (toL b).length), (5, .int .i64 ((x : Int) - 1))]) (fun x => []) (fun x => [fU s (toL a), fU t (toL b)]) ((toL a).length) [0, 1, 5] [0, 1] (⟨Nat.le_refl _, fun i hi => by rw [getD_ge hi, getD_ge (by omega)]⟩) k_ (by first | rfl | (simp only [encQ_zero]; done) | (simp only [encQ_zero]; rfl)) (by rfl) (fun m hI => ?_)
    replace hI : m ≤ (toL a).length ∧ ∀ i, m ≤ i → (toL a).getD i 0 = (toL b).getD i 0 := hI
    refine J.seq ?_
    refine J.sreg ?_
    refine RN.bq (no 2) [0, 1, 5, 20] [] (k' := 2) (l' := [(0, sl s (toL a).length), (1, sl t (toL b).length), (5, .int .i64 ((m : Int) - 1)), (20, .bool (decide (((m : Int) - 1) ≥ 0)))]) k_ ?_
    refine RN.done k_ ?_
    refine KN.next ?_
    refine J.cond (decide (((m : Int) - 1) ≥ 0)) k_ (fun c5 => ?_) (fun c5 => ?_)
    · skip
      replace c5 := of_decide_eq_true c5
      refine J.skip ?_
      refine KN.next ?_
      refine J.seq ?_
      refine J.block ?_
      refine J.seq ?_
      refine J.seq ?_
      refine J.regD k_ [] ?_
      refine RD.bat k_ [(0, none), (1, none), (4, none), (5, none)] [0, 1, 5, 23, 24, 27, 28] [] (L' := [5, 4, 1, 0]) (l' := [(0, sl s (toL a).length), (1, sl t (toL b).length), (5, .int .i64 ((m : Int) - 1)), (23, sl s (toL a).length), (24, .int .i64 ((m : Int) - 1)), (27, sl t (toL b).length), (28, .int .i64 ((m : Int) - 1))]) k_ ?_
      refine RD.val (i := 2) _ k_ k_ k_ (q_uidx (t := 23) (x := (.tmp 23)) (ix := (.tmp 24)) (K := .i64) (i0 := (m : Int) - 1) (m := ((m : Int) - 1).toNat) (e := 82) 0 rfl k_ k_ k_ k_ k_ (by omega) x_) ?_
      refine RD.val (i := 3) _ k_ k_ k_ (q_uload (T := 82) (x := (.tmp 25)) (m := ((m : Int) - 1).toNat) (s := s) (xs := toL a) 0 rfl k_ k_ k_ x_) ?_
      refine RD.val (i := 6) _ k_ k_ k_ (q_uidx (t := 23) (x := (.tmp 27)) (ix := (.tmp 28)) (K := .i64) (i0 := (m : Int) - 1) (m := ((m : Int) - 1).toNat) (e := 82) 1 rfl k_ k_ k_ k_ k_ (by omega) x_) ?_
      refine RD.val (i := 7) _ k_ k_ k_ (q_uload (T := 82) (x := (.tmp 29)) (m := ((m : Int) - 1).toNat) (s := t) (xs := toL b) 1 rfl k_ k_ k_ x_) ?_
      refine RD.bat k_ [(8, none)] [0, 1, 5, 31] [] (L' := [8, 7, 6, 3, 2, 5, 4, 1, 0]) (l' := [(0, sl s (toL a).length), (1, sl t (toL b).length), (5, .int .i64 ((m : Int) - 1)), (31, .bool (decide ((((toL a).getD (((m : Int) - 1).toNat) 0 : Nat) : Int) < (((toL b).getD (((m : Int) - 1).toNat) 0 : Nat) : Int))))]) k_ ?_
      refine RD.done k_ ?_
      refine KN.next ?_
      refine J.cond (decide ((((toL a).getD (((m : Int) - 1).toNat) 0 : Nat) : Int) < (((toL b).getD (((m : Int) - 1).toNat) 0 : Nat) : Int))) k_ (fun c6 => ?_) (fun c6 => ?_)
      · skip
        replace c6 := of_decide_eq_true c6
        refine J.sreg ?_
        refine RN.bq (no 1) [4] [] (k' := 1) (l' := [(4, .int .i64 (-1))]) k_ ?_
        refine RN.done k_ ?_
        refine KN.next ?_
        have e_1 : (cmpN a b : Int) = ((-1) : Int) := by exact cmpN_lt (cmp_lt_at (by omega) hI.2 ‹_›)
        refine J.ret (KR.next (KR.blk (KR.next (KR.next (KR.blk (KR.next (KR.ret (v := .int .i64 (-1)) (()) [none] [] [] k_ v1_ (trivial) v1_)))))))
      · skip
        replace c6 := of_decide_eq_false c6
        refine J.skip ?_
        refine KN.next ?_
        refine J.seq ?_
        refine J.regD k_ [] ?_
        refine RD.bat k_ [(0, none), (1, none), (4, none), (5, none)] [0, 1, 5, 32, 33, 36, 37] [] (L' := [5, 4, 1, 0]) (l' := [(0, sl s (toL a).length), (1, sl t (toL b).length), (5, .int .i64 ((m : Int) - 1)), (32, sl s (toL a).length), (33, .int .i64 ((m : Int) - 1)), (36, sl t (toL b).length), (37, .int .i64 ((m : Int) - 1))]) k_ ?_
        refine RD.val (i := 2) _ k_ k_ k_ (q_uidx (t := 23) (x := (.tmp 32)) (ix := (.tmp 33)) (K := .i64) (i0 := (m : Int) - 1) (m := ((m : Int) - 1).toNat) (e := 82) 0 rfl k_ k_ k_ k_ k_ (by omega) x_) ?_
        refine RD.val (i := 3) _ k_ k_ k_ (q_uload (T := 82) (x := (.tmp 34)) (m := ((m : Int) - 1).toNat) (s := s) (xs := toL a) 0 rfl k_ k_ k_ x_) ?_
        refine RD.val (i := 6) _ k_ k_ k_ (q_uidx (t := 23) (x := (.tmp 36)) (ix := (.tmp 37)) (K := .i64) (i0 := (m : Int) - 1) (m := ((m : Int) - 1).toNat) (e := 82) 1 rfl k_ k_ k_ k_ k_ (by omega) x_) ?_
        refine RD.val (i := 7) _ k_ k_ k_ (q_uload (T := 82) (x := (.tmp 38)) (m := ((m : Int) - 1).toNat) (s := t) (xs := toL b) 1 rfl k_ k_ k_ x_) ?_
        refine RD.bat k_ [(8, none)] [0, 1, 5, 40] [] (L' := [8, 7, 6, 3, 2, 5, 4, 1, 0]) (l' := [(0, sl s (toL a).length), (1, sl t (toL b).length), (5, .int .i64 ((m : Int) - 1)), (40, .bool (decide ((((toL a).getD (((m : Int) - 1).toNat) 0 : Nat) : Int) > (((toL b).getD (((m : Int) - 1).toNat) 0 : Nat) : Int))))]) k_ ?_
        refine RD.done k_ ?_
        refine KN.next ?_
        refine J.cond (decide ((((toL a).getD (((m : Int) - 1).toNat) 0 : Nat) : Int) > (((toL b).getD (((m : Int) - 1).toNat) 0 : Nat) : Int))) k_ (fun c7 => ?_) (fun c7 => ?_)
        · skip
          replace c7 := of_decide_eq_true c7
          refine J.sreg ?_
          refine RN.bq (no 1) [4] [] (k' := 1) (l' := [(4, .int .i64 1)]) k_ ?_
          refine RN.done k_ ?_
          refine KN.next ?_
          have e_1 : (cmpN a b : Int) = (1 : Int) := by exact cmpN_gt (cmp_lt_at (by omega) (fun i hi => (hI.2 i hi).symm) ‹_›)
          refine J.ret (KR.blk (KR.next (KR.next (KR.blk (KR.next (KR.ret (v := .int .i64 1) (()) [none] [] [] k_ v1_ (trivial) v1_))))))
        · skip
          replace c7 := of_decide_eq_false c7
          refine J.skip ?_
          refine KN.blk ?_
          refine KN.next ?_
          refine J.regN ?_
          refine RN.bq (no 2) [0, 1, 22] [] (k' := 2) (l' := [(0, sl s (toL a).length), (1, sl t (toL b).length), (22, .int .i64 (IntKind.i64.wrap (((m : Int) - 1) - 1)))]) k_ ?_
          rw [show IntKind.i64.wrap (((m : Int) - 1) - 1) = (((m : Int) - 1) - 1) from by rw [IntKind.wrap_i64]; omega]
          refine RN.bq (no 1) [0, 1, 5] [] (k' := 3) (l' := [(0, sl s (toL a).length), (1, sl t (toL b).length), (5, .int .i64 (((m : Int) - 1) - 1))]) k_ ?_
          refine RN.done k_ ?_
          refine KN.roundE (m - 1) [0, 1, 5] [0, 1] (l2 := [(0, sl s (toL a).length), (1, sl t (toL b).length), (5, .int .i64 (((m : Int) - 1) - 1))]) (by (try dsimp only); omega) (by (try dsimp only); exact ⟨by omega, cmp_step (by omega) hI.2 ‹_› ‹_›⟩) k_ (by rw [show ((m - 1 : Nat) : Int) = (m : Int) - 1 from by omega]) (by rfl) (by rfl)
    · skip
      replace c5 := of_decide_eq_false c5
      refine J.exit (KX.next (KX.next (KX.hit ?_)))
      refine KN.next ?_
      refine J.sreg ?_
      refine RN.bq (no 1) [4] [] (k' := 1) (l' := [(4, .int .i64 0)]) k_ ?_
      refine RN.done k_ ?_
      refine KN.next ?_
      have e_1 : (cmpN a b : Int) = (0 : Int) := by exact cmpN_eq (cmp_done (by omega) hI.2)
      refine J.ret (KR.ret (v := .int .i64 0) (()) [none] [] [] k_ v1_ (trivial) v1_)
theorem y_r01_Add {p : Prop} (h : p := by first | assumption | exact Lb_toL _ | omega | (simp; done) | exact hI3.2.1) : p := h
theorem r01_Add (s : SA) (xs : List Nat) (t : SA) (ys : List Nat) (hx : Lb xs) (hy : Lb ys) (hxl : xs.length ≤ 1099511627776) (hyl : ys.length ≤ 1099511627776) : Spec Tryz.prog 93 #[sl s xs.length, sl t ys.length] [fU s xs, fU t ys] (ι := SA) (fun y => sl y (toL (nv xs + nv ys)).length) (fun y => True) (fun y => [fU y (toL (nv xs + nv ys))]) := by
  refine Spec.of_body _ (fn := Tryz.f93) k_ rfl k_ (fun X w0 => ?_)
  refine J.fact (φ := xs.length ≤ 140737488355328) (fun w h => by have := (h _ (.head _)).1; omega) (fun hl1 => ?_)
  refine J.fact (φ := ys.length ≤ 140737488355328) (fun w h => by have := (h _ (.tail _ ((.head _)))).1; omega) (fun hl2 => ?_)
  have hnx := toL_nv_len hx _ hxl
  have hny := toL_nv_len hy _ hyl
  refine J.sreg ?_
  refine RN.bq (no 1) [0, 1] [] (k' := 1) (l' := [(0, sl s xs.length), (1, sl t ys.length)]) k_ ?_
  refine RN.done k_ ?_
  refine KN.next ?_
  refine J.sreg ?_
  refine RN.bq (no 1) [1, 9] [] (k' := 1) (l' := [(1, sl t ys.length), (9, sl s xs.length)]) k_ ?_
  refine RN.call (r01_Take s xs y_r01_Add y_r01_Add) [0] k_ k_ k_ rfl (fun y3 _ => ?_)
  refine RN.bq (no 1) [10, 11] [] (k' := 3) (l' := [(10, sl y3 (toL (nv xs)).length), (11, sl t ys.length)]) k_ ?_
  refine RN.call (r01_Take t ys y_r01_Add y_r01_Add) [2] k_ k_ k_ rfl (fun y4 _ => ?_)
  refine RN.bq (no 2) [0, 1] [] (k' := 6) (l' := [(0, sl y3 (toL (nv xs)).length), (1, sl y4 (toL (nv ys)).length)]) k_ ?_
  refine RN.done k_ ?_
  refine KN.next ?_
  refine J.sreg ?_
  refine RN.bq (no 1) [0, 1, 5] [] (k' := 1) (l' := [(0, sl y3 (toL (nv xs)).length), (1, sl y4 (toL (nv ys)).length), (5, .slice none 0 0)]) k_ ?_
  refine RN.done k_ ?_
  refine KN.next ?_
  refine J.sreg ?_
  refine RN.bq (no 1) [0, 1, 5, 6] [] (k' := 1) (l' := [(0, sl y3 (toL (nv xs)).length), (1, sl y4 (toL (nv ys)).length), (5, .slice none 0 0), (6, .int .u64 0)]) k_ ?_
  refine RN.done k_ ?_
  refine KN.next ?_
  refine J.seq ?_
  refine J.sreg ?_
  refine RN.bq (no 1) [0, 1, 5, 6, 7] [] (k' := 1) (l' := [(0, sl y3 (toL (nv xs)).length), (1, sl y4 (toL (nv ys)).length), (5, .slice none 0 0), (6, .int .u64 0), (7, .int .i64 0)]) k_ ?_
  refine RN.done k_ ?_
  refine KN.next ?_
  refine J.block ?_
  refine J.loop (ι := (Nat) × (Option GB) × (List Nat) × (Nat)) (fun x => x.1 ≤ max (toL (nv xs)).length (toL (nv ys)).length + 1 ∧ gOk 1 x.2.1 x.2.2.1.length ∧ AddR (nv xs) (nv ys) x.2.2.1 x.1 x.2.2.2) (fun x => max (toL (nv xs)).length (toL (nv ys)).length + 1 - x.1) (fun x => [(0, sl y3 (toL (nv xs)).length), (1, sl y4 (toL (nv ys)).length), (5, sl (glS x.2.1) x.2.2.1.length), (6, .int .u64 ((x.2.2.2 : Nat) : Int)), (7, .int .i64 ((x.1 : Nat) : Int))]) (fun x => [] ++ (glM x.2.1 (encU x.2.2.1) 82 ++ ([]))) (fun x => [fU y4 (toL (nv ys)), fU y3 (toL (nv xs)), fU s xs, fU t ys]) (0, none, ([] : List Nat), 0) [0, 1, 5, 6, 7] [0, 1, 2, 3] (⟨Nat.zero_le _, rfl, AddR.start _ _⟩) k_ (by first | rfl | (simp only [encQ_zero]; done) | (simp only [encQ_zero]; rfl)) (by rfl) (fun x5 hI => ?_)
  obtain ⟨i, go, out, c⟩ := x5
  replace hI : i ≤ max (toL (nv xs)).length (toL (nv ys)).length + 1 ∧ gOk 1 go out.length ∧ AddR (nv xs) (nv ys) out i c := hI
  obtain ⟨hI1, hI2, hI3⟩ := hI
  have hI4 := hI3.1
  have hI5 := hI3.2.2.1
  have hga : (toL (nv xs)).getD i 0 < 4294967296 := (Lb_toL (nv xs)).getD i
  have hgb : (toL (nv ys)).getD i 0 < 4294967296 := (Lb_toL (nv ys)).getD i
  refine J.seq ?_
  refine J.sreg ?_
  refine RN.bq (no 7) [0, 1, 5, 6, 7, 19] [] (k' := 7) (l' := [(0, sl y3 (toL (nv xs)).length), (1, sl y4 (toL (nv ys)).length), (5, sl (glS go) out.length), (6, .int .u64 ((c : Nat) : Int)), (7, .int .i64 ((i : Nat) : Int)), (19, .bool (decide (((i : Nat) : Int) ≤ (if (((toL (nv ys)).length : Nat) : Int) > (((toL (nv xs)).length : Nat) : Int) then (((toL (nv ys)).length : Nat) : Int) else (((toL (nv xs)).length : Nat) : Int)))))]) k_ ?_
  refine RN.done k_ ?_
  refine KN.next ?_
  refine J.cond (decide (((i : Nat) : Int) ≤ (if (((toL (nv ys)).length : Nat) : Int) > (((toL (nv xs)).length : Nat) : Int) then (((toL (nv ys)).length : Nat) : Int) else (((toL (nv xs)).length : Nat) : Int)))) k_ (fun c6 => ?_) (fun c6 => ?_)
  · skip
    replace c6 := of_decide_eq_true c6
    refine J.skip ?_
    refine KN.next ?_
    refine J.seq ?_
    refine J.block ?_
    refine J.sreg ?_
    refine RN.bq (no 2) [0, 1, 5, 6, 7, 22, 23] [] (k' := 2) (l' := [(0, sl y3 (toL (nv xs)).length), (1, sl y4 (toL (nv ys)).length), (5, sl (glS go) out.length), (6, .int .u64 ((c : Nat) : Int)), (7, .int .i64 ((i : Nat) : Int)), (22, sl y3 (toL (nv xs)).length), (23, .int .i64 ((i : Nat) : Int))]) k_ ?_
    refine RN.call (r01_limb_c y3 (nv xs) i) [1] k_ k_ k_ rfl (fun y7 _ => ?_)
    refine RN.bq (no 2) [0, 1, 5, 6, 7, 24, 25, 26] [] (k' := 5) (l' := [(0, sl y3 (toL (nv xs)).length), (1, sl y4 (toL (nv ys)).length), (5, sl (glS go) out.length), (6, .int .u64 ((c : Nat) : Int)), (7, .int .i64 ((i : Nat) : Int)), (24, .int .u64 (((toL (nv xs)).getD i 0 : Nat) : Int)), (25, sl y4 (toL (nv ys)).length), (26, .int .i64 ((i : Nat) : Int))]) k_ ?_
    refine RN.call (r01_limb_c y4 (nv ys) i) [0] k_ k_ k_ rfl (fun y8 _ => ?_)
    refine RN.bq (no 1) [0, 1, 5, 6, 7, 28] [] (k' := 7) (l' := [(0, sl y3 (toL (nv xs)).length), (1, sl y4 (toL (nv ys)).length), (5, sl (glS go) out.length), (6, .int .u64 ((c : Nat) : Int)), (7, .int .i64 ((i : Nat) : Int)), (28, .int .u64 (IntKind.u64.wrap ((((toL (nv xs)).getD i 0 : Nat) : Int) + (((toL (nv ys)).getD i 0 : Nat) : Int))))]) k_ ?_
    rw [show IntKind.u64.wrap ((((toL (nv xs)).getD i 0 : Nat) : Int) + (((toL (nv ys)).getD i 0 : Nat) : Int)) = ((((toL (nv xs)).getD i 0) + ((toL (nv ys)).getD i 0) : Nat) : Int) from uw64b (((toL (nv xs)).getD i 0) + ((toL (nv ys)).getD i 0)) (by omega) (by omega)]
    refine RN.bq (no 2) [0, 1, 5, 7, 30] [] (k' := 9) (l' := [(0, sl y3 (toL (nv xs)).length), (1, sl y4 (toL (nv ys)).length), (5, sl (glS go) out.length), (7, .int .i64 ((i : Nat) : Int)), (30, .int .u64 (IntKind.u64.wrap (((((toL (nv xs)).getD i 0) + ((toL (nv ys)).getD i 0) : Nat) : Int) + ((c : Nat) : Int))))]) k_ ?_
    rw [show IntKind.u64.wrap (((((toL (nv xs)).getD i 0) + ((toL (nv ys)).getD i 0) : Nat) : Int) + ((c : Nat) : Int)) = (((((toL (nv xs)).getD i 0) + ((toL (nv ys)).getD i 0)) + c : Nat) : Int) from uw64b ((((toL (nv xs)).getD i 0) + ((toL (nv ys)).getD i 0)) + c) (by omega) (by omega)]
    refine RN.bq (no 1) [0, 1, 5, 7, 8] [] (k' := 10) (l' := [(0, sl y3 (toL (nv xs)).length), (1, sl y4 (toL (nv ys)).length), (5, sl (glS go) out.length), (7, .int .i64 ((i : Nat) : Int)), (8, .int .u64 (((((toL (nv xs)).getD i 0) + ((toL (nv ys)).getD i 0)) + c : Nat) : Int))]) k_ ?_
    refine RN.done k_ ?_
    refine KN.next ?_
    refine J.regN ?_
    refine RN.bq (no 3) [0, 1, 7, 8, 31, 33] [] (k' := 3) (l' := [(0, sl y3 (toL (nv xs)).length), (1, sl y4 (toL (nv ys)).length), (7, .int .i64 ((i : Nat) : Int)), (8, .int .u64 (((((toL (nv xs)).getD i 0) + ((toL (nv ys)).getD i 0)) + c : Nat) : Int)), (31, sl (glS go) out.length), (33, .int .u32 (IntKind.u32.wrap (((((toL (nv xs)).getD i 0) + ((toL (nv ys)).getD i 0)) + c : Nat) : Int)))]) k_ ?_
    rw [show IntKind.u32.wrap (((((toL (nv xs)).getD i 0) + ((toL (nv ys)).getD i 0)) + c : Nat) : Int) = ((((((toL (nv xs)).getD i 0) + ((toL (nv ys)).getD i 0)) + c) % 4294967296 : Nat) : Int) from uw32e ((((toL (nv xs)).getD i 0) + ((toL (nv ys)).getD i 0)) + c) (by rfl)]
    refine RN.new (fun b => .slice (some ⟨b, 0, none⟩) 1 1) (.cells (encU ([((((toL (nv xs)).getD i 0) + ((toL (nv ys)).getD i 0)) + c) % 4294967296] : List Nat)) 82 (0, 0)) k_ k_ (fun w => by kernel_rfl) (fun b9 => ?_)
    refine RN.ot k_ k_ (ot_uapp (T := 23) (e := 82) (by_ := 4) (mi := 0) (b := b9) (k := 1) (c := 1) (x := (.tmp 31)) (y := (.tmp 34)) (go := go) (xs := out) (ys := ([((((toL (nv xs)).getD i 0) + ((toL (nv ys)).getD i 0)) + c) % 4294967296] : List Nat)) [(b9, .cells (encU ([((((toL (nv xs)).getD i 0) + ((toL (nv ys)).getD i 0)) + c) % 4294967296] : List Nat)) 82 (0, 0))] ([]) rfl rfl k_ k_ k_ k_ k_ k_ rfl (by first | decide | exact Nat.zero_lt_one | simp) (by assumption) x_ x_) (fun g10 hg11 => ?_)
    refine RN.dropM 0 rfl ?_
    refine RN.bq (no 2) [0, 1, 7, 35, 37] [] (k' := 7) (l' := [(0, sl y3 (toL (nv xs)).length), (1, sl y4 (toL (nv ys)).length), (7, .int .i64 ((i : Nat) : Int)), (35, sl (glS (some g10)) (out ++ ([((((toL (nv xs)).getD i 0) + ((toL (nv ys)).getD i 0)) + c) % 4294967296] : List Nat)).length), (37, .int .u64 (Int.fdiv (((((toL (nv xs)).getD i 0) + ((toL (nv ys)).getD i 0)) + c : Nat) : Int) (2 ^ 32)))]) k_ ?_
    rw [show Int.fdiv (((((toL (nv xs)).getD i 0) + ((toL (nv ys)).getD i 0)) + c : Nat) : Int) (2 ^ 32) = ((((((toL (nv xs)).getD i 0) + ((toL (nv ys)).getD i 0)) + c) / 2 ^ 32 : Nat) : Int) from fdivn _ _]
    refine RN.bq (no 2) [0, 1, 5, 6, 7] [] (k' := 9) (l' := [(0, sl y3 (toL (nv xs)).length), (1, sl y4 (toL (nv ys)).length), (5, sl (glS (some g10)) (out ++ ([((((toL (nv xs)).getD i 0) + ((toL (nv ys)).getD i 0)) + c) % 4294967296] : List Nat)).length), (6, .int .u64 ((((((toL (nv xs)).getD i 0) + ((toL (nv ys)).getD i 0)) + c) / 2 ^ 32 : Nat) : Int)), (7, .int .i64 ((i : Nat) : Int))]) k_ ?_
    refine RN.done k_ ?_
    refine KN.blk ?_
    refine KN.next ?_
    refine J.regN ?_
    refine RN.bq (no 2) [0, 1, 5, 6, 21] [] (k' := 2) (l' := [(0, sl y3 (toL (nv xs)).length), (1, sl y4 (toL (nv ys)).length), (5, sl (glS (some g10)) (out ++ ([((((toL (nv xs)).getD i 0) + ((toL (nv ys)).getD i 0)) + c) % 4294967296] : List Nat)).length), (6, .int .u64 ((((((toL (nv xs)).getD i 0) + ((toL (nv ys)).getD i 0)) + c) / 2 ^ 32 : Nat) : Int)), (21, .int .i64 (IntKind.i64.wrap (((i : Nat) : Int) + 1)))]) k_ ?_
    rw [show IntKind.i64.wrap (((i : Nat) : Int) + 1) = ((i + 1 : Nat) : Int) from by rw [IntKind.wrap_i64]; omega]
    refine RN.bq (no 1) [0, 1, 5, 6, 7] [] (k' := 3) (l' := [(0, sl y3 (toL (nv xs)).length), (1, sl y4 (toL (nv ys)).length), (5, sl (glS (some g10)) (out ++ ([((((toL (nv xs)).getD i 0) + ((toL (nv ys)).getD i 0)) + c) % 4294967296] : List Nat)).length), (6, .int .u64 ((((((toL (nv xs)).getD i 0) + ((toL (nv ys)).getD i 0)) + c) / 2 ^ 32 : Nat) : Int)), (7, .int .i64 ((i + 1 : Nat) : Int))]) k_ ?_
    refine RN.done k_ ?_
    refine KN.roundE (i + 1, some g10, out ++ ([((((toL (nv xs)).getD i 0) + ((toL (nv ys)).getD i 0)) + c) % 4294967296] : List Nat), ((((toL (nv xs)).getD i 0) + ((toL (nv ys)).getD i 0)) + c) / 2 ^ 32) [0, 1, 5, 6, 7] [0, 1, 2, 3] (l2 := [(0, sl y3 (toL (nv xs)).length), (1, sl y4 (toL (nv ys)).length), (5, sl (glS (some g10)) (out ++ ([((((toL (nv xs)).getD i 0) + ((toL (nv ys)).getD i 0)) + c) % 4294967296] : List Nat)).length), (6, .int .u64 ((((((toL (nv xs)).getD i 0) + ((toL (nv ys)).getD i 0)) + c) / 2 ^ 32 : Nat) : Int)), (7, .int .i64 ((i + 1 : Nat) : Int))]) (by (try dsimp only); omega) (by (try dsimp only); exact ⟨by omega, by assumption, hI3.step⟩) k_ (by rfl) (by rfl) (by rfl)
  · skip
    replace c6 := of_decide_eq_false c6
    refine J.exit (KX.next (KX.next (KX.hit ?_)))
    refine KN.next ?_
    refine J.sreg ?_
    refine RN.bq (no 1) [38] [] (k' := 1) (l' := [(38, sl (glS go) out.length)]) k_ ?_
    refine RN.shareG [] ([]) rfl (fU (glS go) out) (fun w hb h => fU_gl hb (by assumption) x_) ?_
    refine RN.call (r01_trim (glS go) out y_r01_Add) [0] k_ k_ k_ rfl (fun y12 _ => ?_)
    refine RN.bq (no 1) [4] [] (k' := 3) (l' := [(4, sl y12 (toL (lv out)).length)]) k_ ?_
    refine RN.done k_ ?_
    refine KN.next ?_
    have e_1 : (toL (nv xs + nv ys)) = (toL (lv out)) := by rw [(hI3.done (by omega) (by omega)).2]
    refine J.ret (KR.ret (v := sl y12 (toL (lv out)).length) (y12) [none] [0] [] k_ v1_ (trivial) v1_)
theorem r01_Add_c (s : SA) (xs' : Nat) (t : SA) (ys' : Nat) (hxl : (toL xs').length ≤ 1099511627776) (hyl : (toL ys').length ≤ 1099511627776) : Spec Tryz.prog 93 #[sl s (toL xs').length, sl t (toL ys').length] [fU s (toL xs'), fU t (toL ys')] (ι := SA) (fun y => sl y (toL (xs' + ys')).length) (fun y => True) (fun y => [fU y (toL (xs' + ys'))]) := by
  have H := r01_Add s (toL xs') t (toL ys') (Lb_toL _) (Lb_toL _) (by first | exact hxl | simpa only [nv_toL, nv_toL] using hxl) (by first | exact hyl | simpa only [nv_toL, nv_toL] using hyl)
  first | exact H | (simp only [nv_toL, lv_toL, validU_toL] at H; exact H)
theorem y_r01_Sub {p : Prop} (h : p := by first | assumption | exact Lb_toL _ | omega | (simp; done) | exact hI3.2.1) : p := h
theorem r01_Sub (s : SA) (xs : List Nat) (t : SA) (ys : List Nat) (hx : Lb xs) (hy : Lb ys) (hxl : xs.length ≤ 1099511627776) (hyl : ys.length ≤ 1099511627776) : Spec Tryz.prog 105 #[sl s xs.length, sl t ys.length] [fU s xs, fU t ys] (ι := SA) (fun y => .tuple #[sl y (toL (nv xs - nv ys)).length, .bool (decide (nv ys ≤ nv xs))]) (fun y => True) (fun y => [fU y (toL (nv xs - nv ys))]) := by
  refine Spec.of_body _ (fn := Tryz.f105) k_ rfl k_ (fun X w0 => ?_)
  refine J.fact (φ := xs.length ≤ 140737488355328) (fun w h => by have := (h _ (.head _)).1; omega) (fun hl1 => ?_)
  refine J.fact (φ := ys.length ≤ 140737488355328) (fun w h => by have := (h _ (.tail _ ((.head _)))).1; omega) (fun hl2 => ?_)
  have hnx := toL_nv_len hx _ hxl
  have hny := toL_nv_len hy _ hyl
  refine J.sreg ?_
  refine RN.bq (no 2) [0, 1] [] (k' := 2) (l' := [(0, sl s xs.length), (1, sl t ys.length)]) k_ ?_
  refine RN.done k_ ?_
  refine KN.next ?_
  refine J.sreg ?_
  refine RN.bq (no 1) [1, 10] [] (k' := 1) (l' := [(1, sl t ys.length), (10, sl s xs.length)]) k_ ?_
  refine RN.call (r01_Take s xs y_r01_Sub y_r01_Sub) [0] k_ k_ k_ rfl (fun y3 _ => ?_)
  refine RN.bq (no 1) [11, 12] [] (k' := 3) (l' := [(11, sl y3 (toL (nv xs)).length), (12, sl t ys.length)]) k_ ?_
  refine RN.call (r01_Take t ys y_r01_Sub y_r01_Sub) [2] k_ k_ k_ rfl (fun y4 _ => ?_)
  refine RN.bq (no 2) [0, 1] [] (k' := 6) (l' := [(0, sl y3 (toL (nv xs)).length), (1, sl y4 (toL (nv ys)).length)]) k_ ?_
  refine RN.done k_ ?_
  refine KN.next ?_
  refine J.seq ?_
  refine J.sreg ?_
  refine RN.bq (no 2) [0, 1, 14, 15] [] (k' := 2) (l' := [(0, sl y3 (toL (nv xs)).length), (1, sl y4 (toL (nv ys)).length), (14, sl y3 (toL (nv xs)).length), (15, sl y4 (toL (nv ys)).length)]) k_ ?_
  refine RN.call (r01_compare y3 (nv xs) y4 (nv ys)) [1, 0] k_ k_ k_ rfl (fun y5 _ => ?_)
  refine RN.bq (no 1) [0, 1, 17] [] (k' := 4) (l' := [(0, sl y3 (toL (nv xs)).length), (1, sl y4 (toL (nv ys)).length), (17, .bool (decide ((cmpN (nv xs) (nv ys)) < 0)))]) k_ ?_
  refine RN.done k_ ?_
  refine KN.next ?_
  refine J.cond (decide ((cmpN (nv xs) (nv ys)) < 0)) k_ (fun c6 => ?_) (fun c6 => ?_)
  · skip
    replace c6 := of_decide_eq_true c6
    have hlt := cmpN_neg.1 c6
    refine J.sreg ?_
    refine RN.bq (no 2) [4, 5] [] (k' := 2) (l' := [(4, .slice none 0 0), (5, .bool false)]) k_ ?_
    refine RN.done k_ ?_
    refine KN.next ?_
    have e_1 : (toL (nv xs - nv ys)) = ([] : List Nat) := by first | (rw [show nv xs - nv ys = 0 from by omega, toL_zero]; done) | (simp; omega)
    have e_2 : (decide (nv ys ≤ nv xs)) = false := by first | (rw [show nv xs - nv ys = 0 from by omega, toL_zero]; done) | (simp; omega)
    refine J.also (fU saNil ([] : List Nat)) (fun w h => fU_nil w) ?_
    refine J.ret (KR.next (KR.ret (v := .tuple #[.slice none 0 0, .bool false]) (saNil) [none, none] [0] [] k_ v2_ (trivial) v2_))
  · skip
    replace c6 := of_decide_eq_false c6
    have hle := cmp_le c6
    refine J.skip ?_
    refine KN.next ?_
    refine J.sreg ?_
    refine RN.bq (no 1) [0, 1, 6] [] (k' := 1) (l' := [(0, sl y3 (toL (nv xs)).length), (1, sl y4 (toL (nv ys)).length), (6, .slice none 0 0)]) k_ ?_
    refine RN.done k_ ?_
    refine KN.next ?_
    refine J.sreg ?_
    refine RN.bq (no 1) [0, 1, 6, 7] [] (k' := 1) (l' := [(0, sl y3 (toL (nv xs)).length), (1, sl y4 (toL (nv ys)).length), (6, .slice none 0 0), (7, .int .u64 0)]) k_ ?_
    refine RN.done k_ ?_
    refine KN.next ?_
    refine J.seq ?_
    refine J.sreg ?_
    refine RN.bq (no 1) [0, 1, 6, 7, 8] [] (k' := 1) (l' := [(0, sl y3 (toL (nv xs)).length), (1, sl y4 (toL (nv ys)).length), (6, .slice none 0 0), (7, .int .u64 0), (8, .int .i64 0)]) k_ ?_
    refine RN.done k_ ?_
    refine KN.next ?_
    refine J.block ?_
    refine J.loop (ι := (Nat) × (Option GB) × (List Nat) × (Nat)) (fun x => x.1 ≤ (toL (nv xs)).length ∧ gOk 1 x.2.1 x.2.2.1.length ∧ SubR (nv xs) (nv ys) x.2.2.1 x.1 x.2.2.2) (fun x => (toL (nv xs)).length - x.1) (fun x => [(0, sl y3 (toL (nv xs)).length), (1, sl y4 (toL (nv ys)).length), (6, sl (glS x.2.1) x.2.2.1.length), (7, .int .u64 ((x.2.2.2 : Nat) : Int)), (8, .int .i64 ((x.1 : Nat) : Int))]) (fun x => [] ++ (glM x.2.1 (encU x.2.2.1) 82 ++ ([]))) (fun x => [fU y4 (toL (nv ys)), fU y3 (toL (nv xs)), fU s xs, fU t ys]) (0, none, ([] : List Nat), 0) [0, 1, 6, 7, 8] [0, 1, 2, 3] (⟨Nat.zero_le _, rfl, SubR.start _ _⟩) k_ (by first | rfl | (simp only [encQ_zero]; done) | (simp only [encQ_zero]; rfl)) (by rfl) (fun x7 hI => ?_)
    obtain ⟨i, go, out, c⟩ := x7
    replace hI : i ≤ (toL (nv xs)).length ∧ gOk 1 go out.length ∧ SubR (nv xs) (nv ys) out i c := hI
    obtain ⟨hI1, hI2, hI3⟩ := hI
    have hI4 := hI3.1
    have hI5 := hI3.2.2.1
    have hga : (toL (nv xs)).getD i 0 < 4294967296 := (Lb_toL (nv xs)).getD i
    have hgb : (toL (nv ys)).getD i 0 < 4294967296 := (Lb_toL (nv ys)).getD i
    have hbo := SubR.bo hga hgb hI5
    refine J.seq ?_
    refine J.sreg ?_
    refine RN.bq (no 4) [0, 1, 6, 7, 8, 21] [] (k' := 4) (l' := [(0, sl y3 (toL (nv xs)).length), (1, sl y4 (toL (nv ys)).length), (6, sl (glS go) out.length), (7, .int .u64 ((c : Nat) : Int)), (8, .int .i64 ((i : Nat) : Int)), (21, .bool (decide (((i : Nat) : Int) < (((toL (nv xs)).length : Nat) : Int))))]) k_ ?_
    refine RN.done k_ ?_
    refine KN.next ?_
    refine J.cond (decide (((i : Nat) : Int) < (((toL (nv xs)).length : Nat) : Int))) k_ (fun c8 => ?_) (fun c8 => ?_)
    · skip
      replace c8 := of_decide_eq_true c8
      refine J.skip ?_
      refine KN.next ?_
      refine J.seq ?_
      refine J.block ?_
      refine J.sreg ?_
      refine RN.bq (no 2) [0, 1, 6, 7, 8, 24, 25] [] (k' := 2) (l' := [(0, sl y3 (toL (nv xs)).length), (1, sl y4 (toL (nv ys)).length), (6, sl (glS go) out.length), (7, .int .u64 ((c : Nat) : Int)), (8, .int .i64 ((i : Nat) : Int)), (24, sl y3 (toL (nv xs)).length), (25, .int .i64 ((i : Nat) : Int))]) k_ ?_
      refine RN.call (r01_limb_c y3 (nv xs) i) [1] k_ k_ k_ rfl (fun y9 _ => ?_)
      refine RN.bq (no 1) [0, 1, 6, 7, 8, 27] [] (k' := 4) (l' := [(0, sl y3 (toL (nv xs)).length), (1, sl y4 (toL (nv ys)).length), (6, sl (glS go) out.length), (7, .int .u64 ((c : Nat) : Int)), (8, .int .i64 ((i : Nat) : Int)), (27, .int .u64 (IntKind.u64.wrap ((((toL (nv xs)).getD i 0 : Nat) : Int) + 4294967296)))]) k_ ?_
      rw [show IntKind.u64.wrap ((((toL (nv xs)).getD i 0 : Nat) : Int) + 4294967296) = ((((toL (nv xs)).getD i 0) + 4294967296 : Nat) : Int) from uw64b (((toL (nv xs)).getD i 0) + 4294967296) (by omega) (by omega)]
      refine RN.bq (no 2) [0, 1, 6, 7, 8, 27, 28, 29] [] (k' := 6) (l' := [(0, sl y3 (toL (nv xs)).length), (1, sl y4 (toL (nv ys)).length), (6, sl (glS go) out.length), (7, .int .u64 ((c : Nat) : Int)), (8, .int .i64 ((i : Nat) : Int)), (27, .int .u64 ((((toL (nv xs)).getD i 0) + 4294967296 : Nat) : Int)), (28, sl y4 (toL (nv ys)).length), (29, .int .i64 ((i : Nat) : Int))]) k_ ?_
      refine RN.call (r01_limb_c y4 (nv ys) i) [0] k_ k_ k_ rfl (fun y10 _ => ?_)
      refine RN.bq (no 1) [0, 1, 6, 7, 8, 31] [] (k' := 8) (l' := [(0, sl y3 (toL (nv xs)).length), (1, sl y4 (toL (nv ys)).length), (6, sl (glS go) out.length), (7, .int .u64 ((c : Nat) : Int)), (8, .int .i64 ((i : Nat) : Int)), (31, .int .u64 (IntKind.u64.wrap (((((toL (nv xs)).getD i 0) + 4294967296 : Nat) : Int) - (((toL (nv ys)).getD i 0 : Nat) : Int))))]) k_ ?_
      rw [show IntKind.u64.wrap (((((toL (nv xs)).getD i 0) + 4294967296 : Nat) : Int) - (((toL (nv ys)).getD i 0 : Nat) : Int)) = (((((toL (nv xs)).getD i 0) + 4294967296) - ((toL (nv ys)).getD i 0) : Nat) : Int) from uw64b ((((toL (nv xs)).getD i 0) + 4294967296) - ((toL (nv ys)).getD i 0)) (by omega) (by omega)]
      refine RN.bq (no 2) [0, 1, 6, 8, 33] [] (k' := 10) (l' := [(0, sl y3 (toL (nv xs)).length), (1, sl y4 (toL (nv ys)).length), (6, sl (glS go) out.length), (8, .int .i64 ((i : Nat) : Int)), (33, .int .u64 (IntKind.u64.wrap ((((((toL (nv xs)).getD i 0) + 4294967296) - ((toL (nv ys)).getD i 0) : Nat) : Int) - ((c : Nat) : Int))))]) k_ ?_
      rw [show IntKind.u64.wrap ((((((toL (nv xs)).getD i 0) + 4294967296) - ((toL (nv ys)).getD i 0) : Nat) : Int) - ((c : Nat) : Int)) = ((((((toL (nv xs)).getD i 0) + 4294967296) - ((toL (nv ys)).getD i 0)) - c : Nat) : Int) from uw64b (((((toL (nv xs)).getD i 0) + 4294967296) - ((toL (nv ys)).getD i 0)) - c) (by omega) (by omega)]
      refine RN.bq (no 1) [0, 1, 6, 8, 9] [] (k' := 11) (l' := [(0, sl y3 (toL (nv xs)).length), (1, sl y4 (toL (nv ys)).length), (6, sl (glS go) out.length), (8, .int .i64 ((i : Nat) : Int)), (9, .int .u64 ((((((toL (nv xs)).getD i 0) + 4294967296) - ((toL (nv ys)).getD i 0)) - c : Nat) : Int))]) k_ ?_
      refine RN.done k_ ?_
      refine KN.next ?_
      refine J.regN ?_
      refine RN.bq (no 3) [0, 1, 8, 9, 34, 36] [] (k' := 3) (l' := [(0, sl y3 (toL (nv xs)).length), (1, sl y4 (toL (nv ys)).length), (8, .int .i64 ((i : Nat) : Int)), (9, .int .u64 ((((((toL (nv xs)).getD i 0) + 4294967296) - ((toL (nv ys)).getD i 0)) - c : Nat) : Int)), (34, sl (glS go) out.length), (36, .int .u32 (IntKind.u32.wrap ((((((toL (nv xs)).getD i 0) + 4294967296) - ((toL (nv ys)).getD i 0)) - c : Nat) : Int)))]) k_ ?_
      rw [show IntKind.u32.wrap ((((((toL (nv xs)).getD i 0) + 4294967296) - ((toL (nv ys)).getD i 0)) - c : Nat) : Int) = (((((((toL (nv xs)).getD i 0) + 4294967296) - ((toL (nv ys)).getD i 0)) - c) % 4294967296 : Nat) : Int) from uw32e (((((toL (nv xs)).getD i 0) + 4294967296) - ((toL (nv ys)).getD i 0)) - c) (by rfl)]
      refine RN.new (fun b => .slice (some ⟨b, 0, none⟩) 1 1) (.cells (encU ([(((((toL (nv xs)).getD i 0) + 4294967296) - ((toL (nv ys)).getD i 0)) - c) % 4294967296] : List Nat)) 82 (0, 0)) k_ k_ (fun w => by kernel_rfl) (fun b11 => ?_)
      refine RN.ot k_ k_ (ot_uapp (T := 23) (e := 82) (by_ := 4) (mi := 0) (b := b11) (k := 1) (c := 1) (x := (.tmp 34)) (y := (.tmp 37)) (go := go) (xs := out) (ys := ([(((((toL (nv xs)).getD i 0) + 4294967296) - ((toL (nv ys)).getD i 0)) - c) % 4294967296] : List Nat)) [(b11, .cells (encU ([(((((toL (nv xs)).getD i 0) + 4294967296) - ((toL (nv ys)).getD i 0)) - c) % 4294967296] : List Nat)) 82 (0, 0))] ([]) rfl rfl k_ k_ k_ k_ k_ k_ rfl (by first | decide | exact Nat.zero_lt_one | simp) (by assumption) x_ x_) (fun g12 hg13 => ?_)
      refine RN.dropM 0 rfl ?_
      refine RN.bq (no 2) [0, 1, 8, 38, 40] [] (k' := 7) (l' := [(0, sl y3 (toL (nv xs)).length), (1, sl y4 (toL (nv ys)).length), (8, .int .i64 ((i : Nat) : Int)), (38, sl (glS (some g12)) (out ++ ([(((((toL (nv xs)).getD i 0) + 4294967296) - ((toL (nv ys)).getD i 0)) - c) % 4294967296] : List Nat)).length), (40, .int .u64 (Int.fdiv ((((((toL (nv xs)).getD i 0) + 4294967296) - ((toL (nv ys)).getD i 0)) - c : Nat) : Int) (2 ^ 32)))]) k_ ?_
      rw [show Int.fdiv ((((((toL (nv xs)).getD i 0) + 4294967296) - ((toL (nv ys)).getD i 0)) - c : Nat) : Int) (2 ^ 32) = (((((((toL (nv xs)).getD i 0) + 4294967296) - ((toL (nv ys)).getD i 0)) - c) / 2 ^ 32 : Nat) : Int) from fdivn _ _]
      refine RN.bq (no 1) [0, 1, 8, 38, 41] [] (k' := 8) (l' := [(0, sl y3 (toL (nv xs)).length), (1, sl y4 (toL (nv ys)).length), (8, .int .i64 ((i : Nat) : Int)), (38, sl (glS (some g12)) (out ++ ([(((((toL (nv xs)).getD i 0) + 4294967296) - ((toL (nv ys)).getD i 0)) - c) % 4294967296] : List Nat)).length), (41, .int .u64 (IntKind.u64.wrap (1 - (((((((toL (nv xs)).getD i 0) + 4294967296) - ((toL (nv ys)).getD i 0)) - c) / 2 ^ 32 : Nat) : Int))))]) k_ ?_
      rw [show IntKind.u64.wrap (1 - (((((((toL (nv xs)).getD i 0) + 4294967296) - ((toL (nv ys)).getD i 0)) - c) / 2 ^ 32 : Nat) : Int)) = ((1 - ((((((toL (nv xs)).getD i 0) + 4294967296) - ((toL (nv ys)).getD i 0)) - c) / 2 ^ 32) : Nat) : Int) from uw64b (1 - ((((((toL (nv xs)).getD i 0) + 4294967296) - ((toL (nv ys)).getD i 0)) - c) / 2 ^ 32)) (by omega) (by omega)]
      refine RN.bq (no 2) [0, 1, 6, 7, 8] [] (k' := 10) (l' := [(0, sl y3 (toL (nv xs)).length), (1, sl y4 (toL (nv ys)).length), (6, sl (glS (some g12)) (out ++ ([(((((toL (nv xs)).getD i 0) + 4294967296) - ((toL (nv ys)).getD i 0)) - c) % 4294967296] : List Nat)).length), (7, .int .u64 ((1 - ((((((toL (nv xs)).getD i 0) + 4294967296) - ((toL (nv ys)).getD i 0)) - c) / 2 ^ 32) : Nat) : Int)), (8, .int .i64 ((i : Nat) : Int))]) k_ ?_
      refine RN.done k_ ?_
      refine KN.blk ?_
      refine KN.next ?_
      refine J.regN ?_
      refine RN.bq (no 2) [0, 1, 6, 7, 23] [] (k' := 2) (l' := [(0, sl y3 (toL (nv xs)).length), (1, sl y4 (toL (nv ys)).length), (6, sl (glS (some g12)) (out ++ ([(((((toL (nv xs)).getD i 0) + 4294967296) - ((toL (nv ys)).getD i 0)) - c) % 4294967296] : List Nat)).length), (7, .int .u64 ((1 - ((((((toL (nv xs)).getD i 0) + 4294967296) - ((toL (nv ys)).getD i 0)) - c) / 2 ^ 32) : Nat) : Int)), (23, .int .i64 (IntKind.i64.wrap (((i : Nat) : Int) + 1)))]) k_ ?_
      rw [show IntKind.i64.wrap (((i : Nat) : Int) + 1) = ((i + 1 : Nat) : Int) from by rw [IntKind.wrap_i64]; omega]
      refine RN.bq (no 1) [0, 1, 6, 7, 8] [] (k' := 3) (l' := [(0, sl y3 (toL (nv xs)).length), (1, sl y4 (toL (nv ys)).length), (6, sl (glS (some g12)) (out ++ ([(((((toL (nv xs)).getD i 0) + 4294967296) - ((toL (nv ys)).getD i 0)) - c) % 4294967296] : List Nat)).length), (7, .int .u64 ((1 - ((((((toL (nv xs)).getD i 0) + 4294967296) - ((toL (nv ys)).getD i 0)) - c) / 2 ^ 32) : Nat) : Int)), (8, .int .i64 ((i + 1 : Nat) : Int))]) k_ ?_
      refine RN.done k_ ?_
      refine KN.roundE (i + 1, some g12, out ++ ([(((((toL (nv xs)).getD i 0) + 4294967296) - ((toL (nv ys)).getD i 0)) - c) % 4294967296] : List Nat), 1 - ((((((toL (nv xs)).getD i 0) + 4294967296) - ((toL (nv ys)).getD i 0)) - c) / 2 ^ 32)) [0, 1, 6, 7, 8] [0, 1, 2, 3] (l2 := [(0, sl y3 (toL (nv xs)).length), (1, sl y4 (toL (nv ys)).length), (6, sl (glS (some g12)) (out ++ ([(((((toL (nv xs)).getD i 0) + 4294967296) - ((toL (nv ys)).getD i 0)) - c) % 4294967296] : List Nat)).length), (7, .int .u64 ((1 - ((((((toL (nv xs)).getD i 0) + 4294967296) - ((toL (nv ys)).getD i 0)) - c) / 2 ^ 32) : Nat) : Int)), (8, .int .i64 ((i + 1 : Nat) : Int))]) (by (try dsimp only); omega) (by (try dsimp only); exact ⟨by omega, by assumption, hI3.step⟩) k_ (by rfl) (by rfl) (by rfl)
    · skip
      replace c8 := of_decide_eq_false c8
      refine J.exit (KX.next (KX.next (KX.hit ?_)))
      refine KN.next ?_
      refine J.sreg ?_
      refine RN.bq (no 1) [42] [] (k' := 1) (l' := [(42, sl (glS go) out.length)]) k_ ?_
      refine RN.shareG [] ([]) rfl (fU (glS go) out) (fun w hb h => fU_gl hb (by assumption) x_) ?_
      refine RN.call (r01_trim (glS go) out y_r01_Sub) [0] k_ k_ k_ rfl (fun y14 _ => ?_)
      refine RN.bq (no 2) [4, 5] [] (k' := 4) (l' := [(4, sl y14 (toL (lv out)).length), (5, .bool true)]) k_ ?_
      refine RN.done k_ ?_
      refine KN.next ?_
      have e_1 : (toL (nv xs - nv ys)) = (toL (lv out)) := by first | (rw [(hI3.done (by omega) hle).2]; done) | (simp; omega)
      have e_2 : (decide (nv ys ≤ nv xs)) = true := by first | (rw [(hI3.done (by omega) hle).2]; done) | (simp; omega)
      refine J.ret (KR.ret (v := .tuple #[sl y14 (toL (lv out)).length, .bool true]) (y14) [none, none] [0] [] k_ v2_ (trivial) v2_)
theorem r01_Sub_c (s : SA) (xs' : Nat) (t : SA) (ys' : Nat) (hxl : (toL xs').length ≤ 1099511627776) (hyl : (toL ys').length ≤ 1099511627776) : Spec Tryz.prog 105 #[sl s (toL xs').length, sl t (toL ys').length] [fU s (toL xs'), fU t (toL ys')] (ι := SA) (fun y => .tuple #[sl y (toL (xs' - ys')).length, .bool (decide (ys' ≤ xs'))]) (fun y => True) (fun y => [fU y (toL (xs' - ys'))]) := by
  have H := r01_Sub s (toL xs') t (toL ys') (Lb_toL _) (Lb_toL _) (by first | exact hxl | simpa only [nv_toL, nv_toL] using hxl) (by first | exact hyl | simpa only [nv_toL, nv_toL] using hyl)
  first | exact H | (simp only [nv_toL, lv_toL, validU_toL] at H; exact H)
theorem r01_len {a b i : Nat} (ha : (toL a).length ≤ 274877906944) (hb : (toL b).length ≤ 274877906944) (hi : i ≤ (toL b).length) : (toL (a * lv ((toL b).take i))).length ≤ 549755813888 := by
  have h1 := nlen_mul a (lv ((toL b).take i))
  have h2 : lv ((toL b).take i) < W ^ i := by have := lv_lt ((Lb_toL b).take i); rwa [List.length_take_of_le hi] at this
  have h3 := length_toL h2
  omega
theorem r01_len2 {a i v : Nat} (ha : (toL a).length ≤ 274877906944) (hi : i ≤ 274877906944) (hv : v < 4294967296) : (toL (W ^ i * (a * v))).length ≤ 549755813889 := by
  have h1 : a * v < W ^ ((toL a).length + 1) := mul_lt_pow (lt_of_length (Nat.le_refl _)) (by rw [Nat.pow_one]; exact hv)
  have h2 : W ^ i * (a * v) < W ^ (i + ((toL a).length + 1)) := by rw [Nat.pow_add]; exact Nat.mul_lt_mul_of_pos_left h1 (Wpos i)
  have h3 := length_toL h2
  omega
theorem y_r01_times {p : Prop} (h : p := by first | assumption | exact Lb_toL _ | omega | (simp; done) | exact hI3.2.1) : p := h
theorem r01_times (s : SA) (a : Nat) (v : Nat) (k : Nat) (hv : v < 4294967296) (hxl : (toL a).length ≤ 1099511627776) (hk : k ≤ 1099511627776) : Spec Tryz.prog 129 #[sl s (toL a).length, .int .u32 ((v : Nat) : Int), .int .i64 ((k : Nat) : Int)] [fU s (toL a)] (ι := SA) (fun y => sl y (toL (W ^ k * (a * v))).length) (fun y => True) (fun y => [fU y (toL (W ^ k * (a * v)))]) := by
  refine Spec.of_body _ (fn := Tryz.f129) k_ rfl k_ (fun X w0 => ?_)
  refine J.fact (φ := (toL a).length ≤ 140737488355328) (fun w h => by have := (h _ (.head _)).1; omega) (fun hl1 => ?_)
  refine J.sreg ?_
  refine RN.bq (no 1) [0, 1, 2] [] (k' := 1) (l' := [(0, sl s (toL a).length), (1, .int .u32 ((v : Nat) : Int)), (2, .int .i64 ((k : Nat) : Int))]) k_ ?_
  refine RN.done k_ ?_
  refine KN.next ?_
  refine J.sreg ?_
  refine RN.bq (no 1) [0, 1, 11] [] (k' := 1) (l' := [(0, sl s (toL a).length), (1, .int .u32 ((v : Nat) : Int)), (11, .int .i64 ((k : Nat) : Int))]) k_ ?_
  refine RN.make (e := 0) (m := k) (.cells (encU (List.replicate k 0)) 82 (0, 0)) k_ k_ (fun w => (q_make1 (t := 23) (m := k) (by_ := 4) (K := .i64) (K' := .i64) (n1 := ((k : Nat) : Int)) (n2 := ((k : Nat) : Int)) (x := (.tmp 11)) (y := (.tmp 11)) (e := 82) k_ k_ k_ (by omega) (by omega) k_ k_ rfl (by omega) (by omega) w).trans (by rw [encU_rep])) (fun b2 => ?_)
  refine RN.turn 12 (v := .slice (some ⟨b2, 0, none⟩) k k) (v' := sl (glS (some ⟨b2, k, #[]⟩)) (List.replicate k 0).length) k_ (by simp [sl, glS]) ?_
  refine RN.toGrow (b := b2) (cap := k) [] [] rfl ?_
  refine RN.bq (no 1) [0, 1, 7] [] (k' := 3) (l' := [(0, sl s (toL a).length), (1, .int .u32 ((v : Nat) : Int)), (7, sl (glS (some ⟨b2, k, #[]⟩)) (List.replicate k 0).length)]) k_ ?_
  refine RN.done k_ ?_
  refine KN.next ?_
  refine J.sreg ?_
  refine RN.bq (no 1) [0, 1, 7, 8] [] (k' := 1) (l' := [(0, sl s (toL a).length), (1, .int .u32 ((v : Nat) : Int)), (7, sl (glS (some ⟨b2, k, #[]⟩)) (List.replicate k 0).length), (8, .int .u64 0)]) k_ ?_
  refine RN.done k_ ?_
  refine KN.next ?_
  refine J.seq ?_
  refine J.sreg ?_
  refine RN.bq (no 1) [0, 1, 7, 8, 9] [] (k' := 1) (l' := [(0, sl s (toL a).length), (1, .int .u32 ((v : Nat) : Int)), (7, sl (glS (some ⟨b2, k, #[]⟩)) (List.replicate k 0).length), (8, .int .u64 0), (9, .int .i64 0)]) k_ ?_
  refine RN.done k_ ?_
  refine KN.next ?_
  refine J.block ?_
  refine J.loop (ι := (Nat) × (Option GB) × (List Nat) × (Nat)) (fun x => x.1 ≤ (toL a).length + 1 ∧ gOk 1 x.2.1 x.2.2.1.length ∧ TimR a v k x.2.2.1 x.1 x.2.2.2) (fun x => (toL a).length + 1 - x.1) (fun x => [(0, sl s (toL a).length), (1, .int .u32 ((v : Nat) : Int)), (7, sl (glS x.2.1) x.2.2.1.length), (8, .int .u64 ((x.2.2.2 : Nat) : Int)), (9, .int .i64 ((x.1 : Nat) : Int))]) (fun x => [] ++ (glM x.2.1 (encU x.2.2.1) 82 ++ ([]))) (fun x => [fU s (toL a)]) (0, (some ⟨b2, k, #[]⟩), List.replicate k 0, 0) [0, 1, 7, 8, 9] [0] (⟨Nat.zero_le _, by rw [List.length_replicate]; exact gOk_own _ _, TimR.start _ _ _⟩) k_ (by first | rfl | (simp only [encQ_zero]; done) | (simp only [encQ_zero]; rfl)) (by rfl) (fun x3 hI => ?_)
  obtain ⟨i, go, out, c⟩ := x3
  replace hI : i ≤ (toL a).length + 1 ∧ gOk 1 go out.length ∧ TimR a v k out i c := hI
  obtain ⟨hI1, hI2, hI3⟩ := hI
  have hI4 := hI3.1
  have hI5 := hI3.2.2.1
  have hga : (toL a).getD i 0 < 4294967296 := (Lb_toL a).getD i
  have hxy := mul_bound hga hv
  refine J.seq ?_
  refine J.sreg ?_
  refine RN.bq (no 4) [0, 1, 7, 8, 9, 16] [] (k' := 4) (l' := [(0, sl s (toL a).length), (1, .int .u32 ((v : Nat) : Int)), (7, sl (glS go) out.length), (8, .int .u64 ((c : Nat) : Int)), (9, .int .i64 ((i : Nat) : Int)), (16, .bool (decide (((i : Nat) : Int) ≤ (((toL a).length : Nat) : Int))))]) k_ ?_
  refine RN.done k_ ?_
  refine KN.next ?_
  refine J.cond (decide (((i : Nat) : Int) ≤ (((toL a).length : Nat) : Int))) k_ (fun c4 => ?_) (fun c4 => ?_)
  · skip
    replace c4 := of_decide_eq_true c4
    refine J.skip ?_
    refine KN.next ?_
    refine J.seq ?_
    refine J.block ?_
    refine J.sreg ?_
    refine RN.bq (no 2) [0, 1, 7, 8, 9, 19, 20] [] (k' := 2) (l' := [(0, sl s (toL a).length), (1, .int .u32 ((v : Nat) : Int)), (7, sl (glS go) out.length), (8, .int .u64 ((c : Nat) : Int)), (9, .int .i64 ((i : Nat) : Int)), (19, sl s (toL a).length), (20, .int .i64 ((i : Nat) : Int))]) k_ ?_
    refine RN.call (r01_limb_c s a i) [0] k_ k_ k_ rfl (fun y5 _ => ?_)
    refine RN.bq (no 2) [0, 1, 7, 8, 9, 21, 23] [] (k' := 5) (l' := [(0, sl s (toL a).length), (1, .int .u32 ((v : Nat) : Int)), (7, sl (glS go) out.length), (8, .int .u64 ((c : Nat) : Int)), (9, .int .i64 ((i : Nat) : Int)), (21, .int .u64 (((toL a).getD i 0 : Nat) : Int)), (23, .int .u64 (IntKind.u64.wrap ((v : Nat) : Int)))]) k_ ?_
    rw [show IntKind.u64.wrap ((v : Nat) : Int) = ((v : Nat) : Int) from uw64b v (by rfl) (by omega)]
    refine RN.bq (no 1) [0, 1, 7, 8, 9, 24] [] (k' := 6) (l' := [(0, sl s (toL a).length), (1, .int .u32 ((v : Nat) : Int)), (7, sl (glS go) out.length), (8, .int .u64 ((c : Nat) : Int)), (9, .int .i64 ((i : Nat) : Int)), (24, .int .u64 (IntKind.u64.wrap ((((toL a).getD i 0 : Nat) : Int) * ((v : Nat) : Int))))]) k_ ?_
    rw [show IntKind.u64.wrap ((((toL a).getD i 0 : Nat) : Int) * ((v : Nat) : Int)) = ((((toL a).getD i 0) * v : Nat) : Int) from uw64b (((toL a).getD i 0) * v) (by simp) (by omega)]
    refine RN.bq (no 2) [0, 1, 7, 9, 26] [] (k' := 8) (l' := [(0, sl s (toL a).length), (1, .int .u32 ((v : Nat) : Int)), (7, sl (glS go) out.length), (9, .int .i64 ((i : Nat) : Int)), (26, .int .u64 (IntKind.u64.wrap (((((toL a).getD i 0) * v : Nat) : Int) + ((c : Nat) : Int))))]) k_ ?_
    rw [show IntKind.u64.wrap (((((toL a).getD i 0) * v : Nat) : Int) + ((c : Nat) : Int)) = (((((toL a).getD i 0) * v) + c : Nat) : Int) from uw64b ((((toL a).getD i 0) * v) + c) (by omega) (by omega)]
    refine RN.bq (no 1) [0, 1, 7, 9, 10] [] (k' := 9) (l' := [(0, sl s (toL a).length), (1, .int .u32 ((v : Nat) : Int)), (7, sl (glS go) out.length), (9, .int .i64 ((i : Nat) : Int)), (10, .int .u64 (((((toL a).getD i 0) * v) + c : Nat) : Int))]) k_ ?_
    refine RN.done k_ ?_
    refine KN.next ?_
    refine J.regN ?_
    refine RN.bq (no 3) [0, 1, 9, 10, 27, 29] [] (k' := 3) (l' := [(0, sl s (toL a).length), (1, .int .u32 ((v : Nat) : Int)), (9, .int .i64 ((i : Nat) : Int)), (10, .int .u64 (((((toL a).getD i 0) * v) + c : Nat) : Int)), (27, sl (glS go) out.length), (29, .int .u32 (IntKind.u32.wrap (((((toL a).getD i 0) * v) + c : Nat) : Int)))]) k_ ?_
    rw [show IntKind.u32.wrap (((((toL a).getD i 0) * v) + c : Nat) : Int) = ((((((toL a).getD i 0) * v) + c) % 4294967296 : Nat) : Int) from uw32e ((((toL a).getD i 0) * v) + c) (by rfl)]
    refine RN.new (fun b => .slice (some ⟨b, 0, none⟩) 1 1) (.cells (encU ([((((toL a).getD i 0) * v) + c) % 4294967296] : List Nat)) 82 (0, 0)) k_ k_ (fun w => by kernel_rfl) (fun b6 => ?_)
    refine RN.ot k_ k_ (ot_uapp (T := 23) (e := 82) (by_ := 4) (mi := 0) (b := b6) (k := 1) (c := 1) (x := (.tmp 27)) (y := (.tmp 30)) (go := go) (xs := out) (ys := ([((((toL a).getD i 0) * v) + c) % 4294967296] : List Nat)) [(b6, .cells (encU ([((((toL a).getD i 0) * v) + c) % 4294967296] : List Nat)) 82 (0, 0))] ([]) rfl rfl k_ k_ k_ k_ k_ k_ rfl (by first | decide | exact Nat.zero_lt_one | simp) (by assumption) x_ x_) (fun g7 hg8 => ?_)
    refine RN.dropM 0 rfl ?_
    refine RN.bq (no 2) [0, 1, 9, 31, 33] [] (k' := 7) (l' := [(0, sl s (toL a).length), (1, .int .u32 ((v : Nat) : Int)), (9, .int .i64 ((i : Nat) : Int)), (31, sl (glS (some g7)) (out ++ ([((((toL a).getD i 0) * v) + c) % 4294967296] : List Nat)).length), (33, .int .u64 (Int.fdiv (((((toL a).getD i 0) * v) + c : Nat) : Int) (2 ^ 32)))]) k_ ?_
    rw [show Int.fdiv (((((toL a).getD i 0) * v) + c : Nat) : Int) (2 ^ 32) = ((((((toL a).getD i 0) * v) + c) / 2 ^ 32 : Nat) : Int) from fdivn _ _]
    refine RN.bq (no 2) [0, 1, 7, 8, 9] [] (k' := 9) (l' := [(0, sl s (toL a).length), (1, .int .u32 ((v : Nat) : Int)), (7, sl (glS (some g7)) (out ++ ([((((toL a).getD i 0) * v) + c) % 4294967296] : List Nat)).length), (8, .int .u64 ((((((toL a).getD i 0) * v) + c) / 2 ^ 32 : Nat) : Int)), (9, .int .i64 ((i : Nat) : Int))]) k_ ?_
    refine RN.done k_ ?_
    refine KN.blk ?_
    refine KN.next ?_
    refine J.regN ?_
    refine RN.bq (no 2) [0, 1, 7, 8, 18] [] (k' := 2) (l' := [(0, sl s (toL a).length), (1, .int .u32 ((v : Nat) : Int)), (7, sl (glS (some g7)) (out ++ ([((((toL a).getD i 0) * v) + c) % 4294967296] : List Nat)).length), (8, .int .u64 ((((((toL a).getD i 0) * v) + c) / 2 ^ 32 : Nat) : Int)), (18, .int .i64 (IntKind.i64.wrap (((i : Nat) : Int) + 1)))]) k_ ?_
    rw [show IntKind.i64.wrap (((i : Nat) : Int) + 1) = ((i + 1 : Nat) : Int) from by rw [IntKind.wrap_i64]; omega]
    refine RN.bq (no 1) [0, 1, 7, 8, 9] [] (k' := 3) (l' := [(0, sl s (toL a).length), (1, .int .u32 ((v : Nat) : Int)), (7, sl (glS (some g7)) (out ++ ([((((toL a).getD i 0) * v) + c) % 4294967296] : List Nat)).length), (8, .int .u64 ((((((toL a).getD i 0) * v) + c) / 2 ^ 32 : Nat) : Int)), (9, .int .i64 ((i + 1 : Nat) : Int))]) k_ ?_
    refine RN.done k_ ?_
    refine KN.roundE (i + 1, some g7, out ++ ([((((toL a).getD i 0) * v) + c) % 4294967296] : List Nat), ((((toL a).getD i 0) * v) + c) / 2 ^ 32) [0, 1, 7, 8, 9] [0] (l2 := [(0, sl s (toL a).length), (1, .int .u32 ((v : Nat) : Int)), (7, sl (glS (some g7)) (out ++ ([((((toL a).getD i 0) * v) + c) % 4294967296] : List Nat)).length), (8, .int .u64 ((((((toL a).getD i 0) * v) + c) / 2 ^ 32 : Nat) : Int)), (9, .int .i64 ((i + 1 : Nat) : Int))]) (by (try dsimp only); omega) (by (try dsimp only); exact ⟨by omega, by assumption, hI3.step hv⟩) k_ (by rfl) (by rfl) (by rfl)
  · skip
    replace c4 := of_decide_eq_false c4
    refine J.exit (KX.next (KX.next (KX.hit ?_)))
    refine KN.next ?_
    refine J.sreg ?_
    refine RN.bq (no 1) [34] [] (k' := 1) (l' := [(34, sl (glS go) out.length)]) k_ ?_
    refine RN.shareG [] ([]) rfl (fU (glS go) out) (fun w hb h => fU_gl hb (by assumption) x_) ?_
    refine RN.call (r01_trim (glS go) out y_r01_times) [0] k_ k_ k_ rfl (fun y9 _ => ?_)
    refine RN.bq (no 1) [6] [] (k' := 3) (l' := [(6, sl y9 (toL (lv out)).length)]) k_ ?_
    refine RN.done k_ ?_
    refine KN.next ?_
    have e_1 : (toL (W ^ k * (a * v))) = (toL (lv out)) := by rw [(hI3.done (by omega) hv).2]
    refine J.ret (KR.ret (v := sl y9 (toL (lv out)).length) (y9) [none] [0] [] k_ v1_ (trivial) v1_)
theorem and_one {n : Nat} (h : n < 4294967296) : IntKind.u32.wrap (((BitVec.ofInt 32 (n : Int) &&& BitVec.ofInt 32 1).toNat : Nat) : Int) = ((n % 2 : Nat) : Int) := by
  have e := bv_and (b := 32) (x := n) (y := 1) (by omega) (by decide)
  rw [show ((1 : Nat) : Int) = 1 from rfl] at e
  rw [e, Nat.and_one_is_mod]
  exact uw32b _ rfl (by omega)
theorem y_r01_Mul {p : Prop} (h : p := by first | assumption | exact Lb_toL _ | omega | (simp; done) | omega) : p := h
theorem r01_Mul (s : SA) (xs : List Nat) (t : SA) (ys : List Nat) (hx : Lb xs) (hy : Lb ys) (hxl : xs.length ≤ 274877906944) (hyl : ys.length ≤ 274877906944) : Spec Tryz.prog 106 #[sl s xs.length, sl t ys.length] [fU s xs, fU t ys] (ι := SA) (fun y => sl y (toL (nv xs * nv ys)).length) (fun y => True) (fun y => [fU y (toL (nv xs * nv ys))]) := by
  refine Spec.of_body _ (fn := Tryz.f106) k_ rfl k_ (fun X w0 => ?_)
  refine J.fact (φ := xs.length ≤ 140737488355328) (fun w h => by have := (h _ (.head _)).1; omega) (fun hl1 => ?_)
  refine J.fact (φ := ys.length ≤ 140737488355328) (fun w h => by have := (h _ (.tail _ ((.head _)))).1; omega) (fun hl2 => ?_)
  have hnx := toL_nv_len hx _ hxl
  have hny := toL_nv_len hy _ hyl
  refine J.sreg ?_
  refine RN.bq (no 1) [0, 1] [] (k' := 1) (l' := [(0, sl s xs.length), (1, sl t ys.length)]) k_ ?_
  refine RN.done k_ ?_
  refine KN.next ?_
  refine J.sreg ?_
  refine RN.bq (no 1) [1, 7] [] (k' := 1) (l' := [(1, sl t ys.length), (7, sl s xs.length)]) k_ ?_
  refine RN.call (r01_Take s xs y_r01_Mul y_r01_Mul) [0] k_ k_ k_ rfl (fun y3 _ => ?_)
  refine RN.bq (no 1) [8, 9] [] (k' := 3) (l' := [(8, sl y3 (toL (nv xs)).length), (9, sl t ys.length)]) k_ ?_
  refine RN.call (r01_Take t ys y_r01_Mul y_r01_Mul) [2] k_ k_ k_ rfl (fun y4 _ => ?_)
  refine RN.bq (no 2) [0, 1] [] (k' := 6) (l' := [(0, sl y3 (toL (nv xs)).length), (1, sl y4 (toL (nv ys)).length)]) k_ ?_
  refine RN.done k_ ?_
  refine KN.next ?_
  refine J.sreg ?_
  refine RN.bq (no 1) [0, 1, 5] [] (k' := 1) (l' := [(0, sl y3 (toL (nv xs)).length), (1, sl y4 (toL (nv ys)).length), (5, .slice none 0 0)]) k_ ?_
  refine RN.done k_ ?_
  refine KN.next ?_
  refine J.seq ?_
  refine J.sreg ?_
  refine RN.bq (no 1) [0, 1, 5, 6] [] (k' := 1) (l' := [(0, sl y3 (toL (nv xs)).length), (1, sl y4 (toL (nv ys)).length), (5, .slice none 0 0), (6, .int .i64 0)]) k_ ?_
  refine RN.done k_ ?_
  refine KN.next ?_
  refine J.block ?_
  refine J.also (fU saNil (toL 0)) (fun w h => fU_nil0 w) ?_
  refine J.loop (ι := (Nat) × (SA) × (Nat)) (fun x => x.1 ≤ (toL (nv ys)).length ∧ x.2.2 = nv xs * lv ((toL (nv ys)).take x.1)) (fun x => (toL (nv ys)).length - x.1) (fun x => [(0, sl y3 (toL (nv xs)).length), (1, sl y4 (toL (nv ys)).length), (5, sl x.2.1 (toL x.2.2).length), (6, .int .i64 ((x.1 : Nat) : Int))]) (fun x => []) (fun x => [fU x.2.1 (toL x.2.2), fU y4 (toL (nv ys)), fU y3 (toL (nv xs)), fU s xs, fU t ys]) (0, saNil, 0) [0, 1, 5, 6] [0, 1, 2, 3, 4] (⟨Nat.zero_le _, by simp [lv]⟩) (by first | kernel_rfl | (simp only [toL_zero]; rfl)) (by first | rfl | (simp only [encQ_zero]; done) | (simp only [encQ_zero]; rfl)) (by rfl) (fun x5 hI => ?_)
  obtain ⟨i, so, o⟩ := x5
  replace hI : i ≤ (toL (nv ys)).length ∧ o = nv xs * lv ((toL (nv ys)).take i) := hI
  obtain ⟨hI1, hI2⟩ := hI
  have hgb : (toL (nv ys)).getD i 0 < 4294967296 := (Lb_toL (nv ys)).getD i
  have hol : (toL o).length ≤ 549755813888 := by rw [hI2]; exact r01_len hnx hny hI1
  have htl : i < (toL (nv ys)).length → (toL (W ^ i * (nv xs * (toL (nv ys)).getD i 0))).length ≤ 549755813889 := fun h => r01_len2 hnx (by omega) hgb
  refine J.seq ?_
  refine J.sreg ?_
  refine RN.bq (no 4) [0, 1, 5, 6, 14] [] (k' := 4) (l' := [(0, sl y3 (toL (nv xs)).length), (1, sl y4 (toL (nv ys)).length), (5, sl so (toL o).length), (6, .int .i64 ((i : Nat) : Int)), (14, .bool (decide (((i : Nat) : Int) < (((toL (nv ys)).length : Nat) : Int))))]) k_ ?_
  refine RN.done k_ ?_
  refine KN.next ?_
  refine J.cond (decide (((i : Nat) : Int) < (((toL (nv ys)).length : Nat) : Int))) k_ (fun c6 => ?_) (fun c6 => ?_)
  · skip
    replace c6 := of_decide_eq_true c6
    refine J.skip ?_
    refine KN.next ?_
    refine J.seq ?_
    refine J.block ?_
    refine J.regN ?_
    refine RN.bq (no 4) [0, 1, 6, 17, 18, 19, 20] [] (k' := 4) (l' := [(0, sl y3 (toL (nv xs)).length), (1, sl y4 (toL (nv ys)).length), (6, .int .i64 ((i : Nat) : Int)), (17, sl so (toL o).length), (18, sl y3 (toL (nv xs)).length), (19, sl y4 (toL (nv ys)).length), (20, .int .i64 ((i : Nat) : Int))]) k_ ?_
    refine RN.val _ k_ k_ (q_uidx (t := 23) (x := (.tmp 19)) (ix := (.tmp 20)) (K := .i64) (i0 := ((i : Nat) : Int)) (m := i) (e := 82) 1 rfl k_ k_ k_ k_ k_ (by omega) x_) ?_
    refine RN.val _ k_ k_ (q_uload (T := 82) (x := (.tmp 21)) (m := i) (s := y4) (xs := toL (nv ys)) 1 rfl k_ k_ k_ x_) ?_
    refine RN.bq (no 1) [0, 1, 6, 17, 18, 22, 23] [] (k' := 7) (l' := [(0, sl y3 (toL (nv xs)).length), (1, sl y4 (toL (nv ys)).length), (6, .int .i64 ((i : Nat) : Int)), (17, sl so (toL o).length), (18, sl y3 (toL (nv xs)).length), (22, .int .u32 (((toL (nv ys)).getD i 0 : Nat) : Int)), (23, .int .i64 ((i : Nat) : Int))]) k_ ?_
    refine RN.call (r01_times y3 (nv xs) ((toL (nv ys)).getD i 0) i y_r01_Mul y_r01_Mul y_r01_Mul) [2] k_ k_ k_ rfl (fun y7 _ => ?_)
    refine RN.call (r01_Add_c so o y7 (W ^ i * ((nv xs) * ((toL (nv ys)).getD i 0))) y_r01_Mul y_r01_Mul) [1, 0] k_ k_ k_ rfl (fun y8 _ => ?_)
    refine RN.bq (no 1) [0, 1, 5, 6] [] (k' := 10) (l' := [(0, sl y3 (toL (nv xs)).length), (1, sl y4 (toL (nv ys)).length), (5, sl y8 (toL (o + (W ^ i * ((nv xs) * ((toL (nv ys)).getD i 0))))).length), (6, .int .i64 ((i : Nat) : Int))]) k_ ?_
    refine RN.done k_ ?_
    refine KN.blk ?_
    refine KN.next ?_
    refine J.regN ?_
    refine RN.bq (no 2) [0, 1, 5, 16] [] (k' := 2) (l' := [(0, sl y3 (toL (nv xs)).length), (1, sl y4 (toL (nv ys)).length), (5, sl y8 (toL (o + (W ^ i * ((nv xs) * ((toL (nv ys)).getD i 0))))).length), (16, .int .i64 (IntKind.i64.wrap (((i : Nat) : Int) + 1)))]) k_ ?_
    rw [show IntKind.i64.wrap (((i : Nat) : Int) + 1) = ((i + 1 : Nat) : Int) from by rw [IntKind.wrap_i64]; omega]
    refine RN.bq (no 1) [0, 1, 5, 6] [] (k' := 3) (l' := [(0, sl y3 (toL (nv xs)).length), (1, sl y4 (toL (nv ys)).length), (5, sl y8 (toL (o + (W ^ i * ((nv xs) * ((toL (nv ys)).getD i 0))))).length), (6, .int .i64 ((i + 1 : Nat) : Int))]) k_ ?_
    refine RN.done k_ ?_
    refine KN.roundE (i + 1, y8, o + (W ^ i * ((nv xs) * ((toL (nv ys)).getD i 0)))) [0, 1, 5, 6] [0, 3, 4, 5, 6] (l2 := [(0, sl y3 (toL (nv xs)).length), (1, sl y4 (toL (nv ys)).length), (5, sl y8 (toL (o + (W ^ i * ((nv xs) * ((toL (nv ys)).getD i 0))))).length), (6, .int .i64 ((i + 1 : Nat) : Int))]) (by (try dsimp only); omega) (by (try dsimp only); exact ⟨by omega, by rw [hI2, lv_take_succ', Nat.mul_add, Nat.mul_left_comm]⟩) k_ (by rfl) (by rfl) (by rfl)
  · skip
    replace c6 := of_decide_eq_false c6
    refine J.exit (KX.next (KX.next (KX.hit ?_)))
    refine KN.next ?_
    refine J.sreg ?_
    refine RN.bq (no 2) [4] [] (k' := 2) (l' := [(4, sl so (toL o).length)]) k_ ?_
    refine RN.done k_ ?_
    refine KN.next ?_
    have e_1 : (toL (nv xs * nv ys)) = (toL o) := by rw [hI2, take_of_le (by omega), lv_toL]
    refine J.ret (KR.ret (v := sl so (toL o).length) (so) [none] [0] [] k_ v1_ (trivial) v1_)
theorem r01_Mul_c (s : SA) (xs' : Nat) (t : SA) (ys' : Nat) (hxl : (toL xs').length ≤ 274877906944) (hyl : (toL ys').length ≤ 274877906944) : Spec Tryz.prog 106 #[sl s (toL xs').length, sl t (toL ys').length] [fU s (toL xs'), fU t (toL ys')] (ι := SA) (fun y => sl y (toL (xs' * ys')).length) (fun y => True) (fun y => [fU y (toL (xs' * ys'))]) := by
  have H := r01_Mul s (toL xs') t (toL ys') (Lb_toL _) (Lb_toL _) (by first | exact hxl | simpa only [nv_toL, nv_toL] using hxl) (by first | exact hyl | simpa only [nv_toL, nv_toL] using hyl)
  first | exact H | (simp only [nv_toL, lv_toL, validU_toL] at H; exact H)
theorem r01_bit (s : SA) (a : Nat) (i : Nat) (hi : i / 32 < (toL a).length) : Spec Tryz.prog 144 #[sl s (toL a).length, .int .i64 ((i : Nat) : Int)] [fU s (toL a)] (ι := Unit) (fun y => .int .u32 ((a / 2 ^ i % 2 : Nat) : Int)) (fun y => True) (fun y => []) := by
  refine Spec.of_body _ (fn := Tryz.f144) k_ rfl k_ (fun X w0 => ?_)
  refine J.fact (φ := (toL a).length ≤ 140737488355328) (fun w h => by have := (h _ (.head _)).1; omega) (fun hl1 => ?_)
  have hga : (toL a).getD (i / 32) 0 < 4294967296 := (Lb_toL a).getD _
  have hd : (toL a).getD (i / 32) 0 / 2 ^ (i % 32) ≤ (toL a).getD (i / 32) 0 := Nat.div_le_self _ _
  refine J.sreg ?_
  refine RN.bq (no 1) [0, 1] [] (k' := 1) (l' := [(0, sl s (toL a).length), (1, .int .i64 ((i : Nat) : Int))]) k_ ?_
  refine RN.done k_ ?_
  refine KN.next ?_
  refine J.sreg ?_
  refine RN.bq (no 3) [1, 5, 7] [] (k' := 3) (l' := [(1, .int .i64 ((i : Nat) : Int)), (5, sl s (toL a).length), (7, .int .i64 (IntKind.i64.wrap (Int.tdiv ((i : Nat) : Int) 32)))]) k_ ?_
  rw [show IntKind.i64.wrap (Int.tdiv ((i : Nat) : Int) 32) = ((i / 32 : Nat) : Int) from by rw [show (32 : Int) = ((32 : Nat) : Int) from rfl, tdivn, IntKind.wrap_i64]; omega]
  refine RN.val _ k_ k_ (q_uidx (t := 23) (x := (.tmp 5)) (ix := (.tmp 7)) (K := .i64) (i0 := ((i / 32 : Nat) : Int)) (m := i / 32) (e := 82) 0 rfl k_ k_ k_ k_ k_ (by omega) x_) ?_
  refine RN.val _ k_ k_ (q_uload (T := 82) (x := (.tmp 8)) (m := i / 32) (s := s) (xs := toL a) 0 rfl k_ k_ k_ x_) ?_
  refine RN.bq (no 2) [9, 11] [] (k' := 7) (l' := [(9, .int .u32 (((toL a).getD (i / 32) 0 : Nat) : Int)), (11, .int .i64 (Int.tmod ((i : Nat) : Int) 32))]) k_ ?_
  rw [show Int.tmod ((i : Nat) : Int) 32 = ((i % 32 : Nat) : Int) from by rw [show (32 : Int) = ((32 : Nat) : Int) from rfl, tmodn]]
  refine RN.bq (no 1) [9, 12] [] (k' := 8) (l' := [(9, .int .u32 (((toL a).getD (i / 32) 0 : Nat) : Int)), (12, .int .u64 (IntKind.u64.wrap ((i % 32 : Nat) : Int)))]) k_ ?_
  rw [show IntKind.u64.wrap ((i % 32 : Nat) : Int) = ((i % 32 : Nat) : Int) from uw64b (i % 32) (by rfl) (by omega)]
  refine RN.val _ k_ k_ (q_shr (T := 82) (T' := 107) (x := (.tmp 9)) (y := (.tmp 12)) (k := .u32) (k' := .u64) (a := (((toL a).getD (i / 32) 0 : Nat) : Int)) (b := ((i % 32 : Nat) : Int)) (m := (i % 32)) k_ k_ k_ (by omega) (by simp only [IntKind.bits]; omega)) ?_
  rw [show Int.fdiv (((toL a).getD (i / 32) 0 : Nat) : Int) (2 ^ (i % 32)) = ((((toL a).getD (i / 32) 0) / 2 ^ (i % 32) : Nat) : Int) from fdivn _ _]
  refine RN.bq (no 1) [14] [] (k' := 10) (l' := [(14, .int .u32 (IntKind.u32.wrap ((BitVec.ofInt 32 ((((toL a).getD (i / 32) 0) / 2 ^ (i % 32) : Nat) : Int) &&& BitVec.ofInt 32 1).toNat : Nat)))]) k_ ?_
  rw [show (IntKind.u32.wrap ((BitVec.ofInt 32 ((((toL a).getD (i / 32) 0) / 2 ^ (i % 32) : Nat) : Int) &&& BitVec.ofInt 32 1).toNat : Nat)) = (((toL a).getD (i / 32) 0 / 2 ^ (i % 32) % 2 : Nat) : Int) from by exact and_one (by omega)]
  refine RN.bq (no 1) [4] [] (k' := 11) (l' := [(4, .int .u32 (((toL a).getD (i / 32) 0 / 2 ^ (i % 32) % 2 : Nat) : Int))]) k_ ?_
  refine RN.done k_ ?_
  refine KN.next ?_
  have e_1 : (((a / 2 ^ i % 2 : Nat) : Int) : Int) = ((((toL a).getD (i / 32) 0 / 2 ^ (i % 32) % 2 : Nat) : Int) : Int) := by rw [bit_val]
  refine J.ret (KR.ret (v := .int .u32 (((toL a).getD (i / 32) 0 / 2 ^ (i % 32) % 2 : Nat) : Int)) (()) [none] [] [] k_ v1_ (trivial) v1_)
theorem nv_one : nv [1] = 1 := by rw [← toL_1, nv_toL]
theorem dlen {a o : Nat} (ho : o ≤ 1) : (toL (2 * a + o)).length ≤ (toL a).length + 2 := by
  have h1 : a < W ^ (toL a).length := lt_of_length (Nat.le_refl _)
  have h2 : 2 * a + o < 3 * W ^ (toL a).length := by omega
  apply length_toL
  have h3 : 3 * W ^ (toL a).length ≤ W ^ (toL a).length * W ^ 2 := by rw [Nat.mul_comm 3]; exact Nat.mul_le_mul_left _ (by decide)
  rw [Nat.pow_add]
  exact Nat.lt_of_lt_of_le h2 h3
theorem y_r01_double {p : Prop} (h : p := by first | assumption | exact Lb_toL _ | omega | (simp; done) | first | exact Lb.one (by decide) | (simp; done)) : p := h
theorem r01_double (s : SA) (a : Nat) (o : Nat) (ho : o ≤ 1) (hxl : (toL a).length ≤ 274877906944) : Spec Tryz.prog 143 #[sl s (toL a).length, .int .u32 ((o : Nat) : Int)] [fU s (toL a)] (ι := SA) (fun y => sl y (toL (2 * a + o)).length) (fun y => True) (fun y => [fU y (toL (2 * a + o))]) := by
  refine Spec.of_body _ (fn := Tryz.f143) k_ rfl k_ (fun X w0 => ?_)
  refine J.fact (φ := (toL a).length ≤ 140737488355328) (fun w h => by have := (h _ (.head _)).1; omega) (fun hl1 => ?_)
  have e2 : W ^ 0 * (a * 2) = 2 * a := by rw [Nat.pow_zero, Nat.one_mul, Nat.mul_comm]
  have hl2 := dlen (a := a) (o := 0) (by decide)
  rw [Nat.add_zero] at hl2
  refine J.sreg ?_
  refine RN.bq (no 1) [0, 1] [] (k' := 1) (l' := [(0, sl s (toL a).length), (1, .int .u32 ((o : Nat) : Int))]) k_ ?_
  refine RN.done k_ ?_
  refine KN.next ?_
  refine J.sreg ?_
  refine RN.bq (no 1) [1, 6] [] (k' := 1) (l' := [(1, .int .u32 ((o : Nat) : Int)), (6, sl s (toL a).length)]) k_ ?_
  refine RN.call (r01_times s a 2 0 y_r01_double y_r01_double y_r01_double) [0] k_ k_ k_ rfl (fun y2 _ => ?_)
  rw [show toL (W ^ 0 * (a * 2)) = (toL (2 * a)) from by rw [e2]]
  refine RN.bq (no 1) [1, 5] [] (k' := 3) (l' := [(1, .int .u32 ((o : Nat) : Int)), (5, sl y2 (toL (2 * a)).length)]) k_ ?_
  refine RN.done k_ ?_
  refine KN.next ?_
  refine J.seq ?_
  refine J.sreg ?_
  refine RN.bq (no 2) [5, 9] [] (k' := 2) (l' := [(5, sl y2 (toL (2 * a)).length), (9, .bool ((((o : Nat) : Int) : Int) == 1))]) k_ ?_
  refine RN.done k_ ?_
  refine KN.next ?_
  refine J.cond ((((o : Nat) : Int) : Int) == 1) k_ (fun c3 => ?_) (fun c3 => ?_)
  · skip
    replace c3 := eq_of_beq c3
    refine J.regN ?_
    refine RN.bq (no 1) [10] [] (k' := 1) (l' := [(10, sl y2 (toL (2 * a)).length)]) k_ ?_
    refine RN.new (fun b => .slice (some ⟨b, 0, none⟩) 1 1) (.cells (encU ([1] : List Nat)) 82 (0, 0)) k_ k_ (fun w => by kernel_rfl) (fun b4 => ?_)
    refine RN.share 0 rfl rfl ?_
    refine RN.also (fU (⟨some ⟨b4, 0, none⟩, 1⟩ : SA) ([1] : List Nat)) (fun w h => fU_own (h _ (.head _)) x_ x_) ?_
    refine RN.turn 11 (v := .slice (some ⟨b4, 0, none⟩) 1 1) (v' := sl (⟨some ⟨b4, 0, none⟩, 1⟩ : SA) ([1] : List Nat).length) k_ (sl_eq x_) ?_
    refine RN.call (r01_Add y2 (toL (2 * a)) (⟨some ⟨b4, 0, none⟩, 1⟩ : SA) ([1] : List Nat) y_r01_double y_r01_double y_r01_double y_r01_double) [2, 0] k_ k_ k_ rfl (fun y5 _ => ?_)
    refine RN.bq (no 1) [5] [] (k' := 4) (l' := [(5, sl y5 (toL (nv (toL (2 * a)) + nv ([1] : List Nat))).length)]) k_ ?_
    refine RN.done k_ ?_
    refine KN.next ?_
    refine J.sreg ?_
    refine RN.bq (no 2) [4] [] (k' := 2) (l' := [(4, sl y5 (toL (nv (toL (2 * a)) + nv ([1] : List Nat))).length)]) k_ ?_
    refine RN.done k_ ?_
    refine KN.next ?_
    have e_1 : (toL (2 * a + o)) = (toL (nv (toL (2 * a)) + nv ([1] : List Nat))) := by rw [nv_toL, nv_one, show o = 1 from by omega]
    refine J.ret (KR.ret (v := sl y5 (toL (nv (toL (2 * a)) + nv ([1] : List Nat))).length) (y5) [none] [0] [] k_ v1_ (trivial) v1_)
  · skip
    replace c3 := ne_of_beq_false c3
    refine J.skip ?_
    refine KN.next ?_
    refine J.sreg ?_
    refine RN.bq (no 2) [4] [] (k' := 2) (l' := [(4, sl y2 (toL (2 * a)).length)]) k_ ?_
    refine RN.done k_ ?_
    refine KN.next ?_
    have e_1 : (toL (2 * a + o)) = (toL (2 * a)) := by rw [show o = 0 from by omega, Nat.add_zero]
    refine J.ret (KR.ret (v := sl y2 (toL (2 * a)).length) (y2) [none] [0] [] k_ v1_ (trivial) v1_)
theorem y_r01_FromUint {p : Prop} (h : p := by first | assumption | exact Lb_toL _ | omega | (simp; done) | exact Lb_two (by omega) (by omega)) : p := h
theorem r01_FromUint (v : Nat) (hv : v < 18446744073709551616) : Spec Tryz.prog 94 #[.int .u64 ((v : Nat) : Int)] [] (ι := SA) (fun y => sl y (toL v).length) (fun y => True) (fun y => [fU y (toL v)]) := by
  refine Spec.of_body _ (fn := Tryz.f94) k_ rfl k_ (fun X w0 => ?_)
  refine J.sreg ?_
  refine RN.bq (no 1) [0] [] (k' := 1) (l' := [(0, .int .u64 ((v : Nat) : Int))]) k_ ?_
  refine RN.done k_ ?_
  refine KN.next ?_
  refine J.sreg ?_
  refine RN.bq (no 2) [0, 4] [] (k' := 2) (l' := [(0, .int .u64 ((v : Nat) : Int)), (4, .int .u32 (IntKind.u32.wrap ((v : Nat) : Int)))]) k_ ?_
  rw [show IntKind.u32.wrap ((v : Nat) : Int) = ((v % 4294967296 : Nat) : Int) from uw32e v (by rfl)]
  refine RN.bq (no 2) [4, 6] [] (k' := 4) (l' := [(4, .int .u32 ((v % 4294967296 : Nat) : Int)), (6, .int .u64 (Int.fdiv ((v : Nat) : Int) (2 ^ 32)))]) k_ ?_
  rw [show Int.fdiv ((v : Nat) : Int) (2 ^ 32) = ((v / 2 ^ 32 : Nat) : Int) from fdivn _ _]
  refine RN.bq (no 1) [4, 7] [] (k' := 5) (l' := [(4, .int .u32 ((v % 4294967296 : Nat) : Int)), (7, .int .u32 (IntKind.u32.wrap ((v / 2 ^ 32 : Nat) : Int)))]) k_ ?_
  rw [show IntKind.u32.wrap ((v / 2 ^ 32 : Nat) : Int) = (((v / 2 ^ 32) % 4294967296 : Nat) : Int) from uw32e (v / 2 ^ 32) (by rfl)]
  refine RN.new (fun b => .slice (some ⟨b, 0, none⟩) 2 2) (.cells (encU ([v % 4294967296, (v / 2 ^ 32) % 4294967296] : List Nat)) 82 (0, 0)) k_ k_ (fun w => by kernel_rfl) (fun b1 => ?_)
  refine RN.share 0 rfl rfl ?_
  refine RN.also (fU (⟨some ⟨b1, 0, none⟩, 2⟩ : SA) ([v % 4294967296, (v / 2 ^ 32) % 4294967296] : List Nat)) (fun w h => fU_own (h _ (.head _)) (by simp) (by simp)) ?_
  refine RN.turn 8 (v := .slice (some ⟨b1, 0, none⟩) 2 2) (v' := sl (⟨some ⟨b1, 0, none⟩, 2⟩ : SA) ([v % 4294967296, (v / 2 ^ 32) % 4294967296] : List Nat).length) k_ (sl_eq (by simp)) ?_
  refine RN.call (r01_trim (⟨some ⟨b1, 0, none⟩, 2⟩ : SA) ([v % 4294967296, (v / 2 ^ 32) % 4294967296] : List Nat) y_r01_FromUint) [0] k_ k_ k_ rfl (fun y2 _ => ?_)
  refine RN.bq (no 1) [2] [] (k' := 8) (l' := [(2, sl y2 (toL (lv ([v % 4294967296, (v / 2 ^ 32) % 4294967296] : List Nat))).length)]) k_ ?_
  refine RN.done k_ ?_
  refine KN.next ?_
  have e_1 : (toL v) = (toL (lv ([v % 4294967296, (v / 2 ^ 32) % 4294967296] : List Nat))) := by rw [lv_two hv]
  refine J.ret (KR.ret (v := sl y2 (toL (lv ([v % 4294967296, (v / 2 ^ 32) % 4294967296] : List Nat))).length) (y2) [none] [0] [] k_ v1_ (trivial) v1_)
theorem r01_Div (s : SA) (xs : List Nat) (t : SA) (ys : List Nat) (hx : Lb xs) (hy : Lb ys) (hxl : xs.length ≤ 274877906942) (hyl : ys.length ≤ 274877906942) : Spec Tryz.prog 127 #[sl s xs.length, sl t ys.length] [fU s xs, fU t ys] (ι := SA × SA) (fun y => .tuple #[sl y.1 (toL (nv xs / nv ys)).length, sl y.2 (toL (if nv ys = 0 then 0 else nv xs % nv ys)).length, .bool (decide (nv ys ≠ 0))]) (fun y => True) (fun y => [fU y.1 (toL (nv xs / nv ys)), fU y.2 (toL (if nv ys = 0 then 0 else nv xs % nv ys))]) := by
  refine Spec.of_body _ (fn := Tryz.f127) k_ rfl k_ (fun X w0 => ?_)
  refine J.fact (φ := xs.length ≤ 140737488355328) (fun w h => by have := (h _ (.head _)).1; omega) (fun hl1 => ?_)
  refine J.fact (φ := ys.length ≤ 140737488355328) (fun w h => by have := (h _ (.tail _ ((.head _)))).1; omega) (fun hl2 => ?_)
  have hnx := toL_nv_len hx _ hxl
  have hny := toL_nv_len hy _ hyl
  refine J.sreg ?_
  refine RN.bq (no 3) [0, 1] [] (k' := 3) (l' := [(0, sl s xs.length), (1, sl t ys.length)]) k_ ?_
  refine RN.done k_ ?_
  refine KN.next ?_
  refine J.sreg ?_
  refine RN.bq (no 1) [1, 12] [] (k' := 1) (l' := [(1, sl t ys.length), (12, sl s xs.length)]) k_ ?_
  refine RN.call (r01_Take s xs y_ y_) [0] k_ k_ k_ rfl (fun y3 _ => ?_)
  refine RN.bq (no 1) [13, 14] [] (k' := 3) (l' := [(13, sl y3 (toL (nv xs)).length), (14, sl t ys.length)]) k_ ?_
  refine RN.call (r01_Take t ys y_ y_) [2] k_ k_ k_ rfl (fun y4 _ => ?_)
  refine RN.bq (no 2) [0, 1] [] (k' := 6) (l' := [(0, sl y3 (toL (nv xs)).length), (1, sl y4 (toL (nv ys)).length)]) k_ ?_
  refine RN.done k_ ?_
  refine KN.next ?_
  refine J.seq ?_
  refine J.sreg ?_
  refine RN.bq (no 3) [0, 1, 18] [] (k' := 3) (l' := [(0, sl y3 (toL (nv xs)).length), (1, sl y4 (toL (nv ys)).length), (18, .bool (((((toL (nv ys)).length : Nat) : Int) : Int) == 0))]) k_ ?_
  refine RN.done k_ ?_
  refine KN.next ?_
  refine J.cond (((((toL (nv ys)).length : Nat) : Int) : Int) == 0) k_ (fun c5 => ?_) (fun c5 => ?_)
  · skip
    replace c5 := eq_of_beq c5
    have h0 : nv ys = 0 := toL_len_eq (by omega)
    refine J.sreg ?_
    refine RN.bq (no 3) [4, 5, 6] [] (k' := 3) (l' := [(4, .slice none 0 0), (5, .slice none 0 0), (6, .bool false)]) k_ ?_
    refine RN.done k_ ?_
    refine KN.next ?_
    have e_1 : (toL (nv xs / nv ys)) = ([] : List Nat) := by simp [h0, toL_zero]
    have e_2 : (toL (if nv ys = 0 then 0 else nv xs % nv ys)) = ([] : List Nat) := by simp [h0, toL_zero]
    have e_3 : (decide (nv ys ≠ 0)) = false := by simp [h0, toL_zero]
    refine J.also (fU saNil ([] : List Nat)) (fun w h => fU_nil w) ?_
    refine J.ret (KR.next (KR.ret (v := .tuple #[.slice none 0 0, .slice none 0 0, .bool false]) (⟨saNil, saNil⟩) [none, none, none] [0, 0] [] k_ v3_ (trivial) v3_))
  · skip
    replace c5 := ne_of_beq_false c5
    have h0 : nv ys ≠ 0 := toL_len_ne (by omega)
    refine J.skip ?_
    refine KN.next ?_
    refine J.sreg ?_
    refine RN.bq (no 2) [0, 1, 7, 8] [] (k' := 2) (l' := [(0, sl y3 (toL (nv xs)).length), (1, sl y4 (toL (nv ys)).length), (7, .slice none 0 0), (8, .slice none 0 0)]) k_ ?_
    refine RN.done k_ ?_
    refine KN.next ?_
    refine J.seq ?_
    refine J.sreg ?_
    refine RN.bq (no 3) [0, 1, 7, 8, 21] [] (k' := 3) (l' := [(0, sl y3 (toL (nv xs)).length), (1, sl y4 (toL (nv ys)).length), (7, .slice none 0 0), (8, .slice none 0 0), (21, .int .i64 (IntKind.i64.wrap (32 * (((toL (nv xs)).length : Nat) : Int))))]) k_ ?_
    rw [show IntKind.i64.wrap (32 * (((toL (nv xs)).length : Nat) : Int)) = ((32 * ((toL (nv xs)).length) : Nat) : Int) from by rw [IntKind.wrap_i64]; omega]
    refine RN.bq (no 1) [0, 1, 7, 8, 22] [] (k' := 4) (l' := [(0, sl y3 (toL (nv xs)).length), (1, sl y4 (toL (nv ys)).length), (7, .slice none 0 0), (8, .slice none 0 0), (22, .int .i64 (IntKind.i64.wrap (((32 * ((toL (nv xs)).length) : Nat) : Int) - 1)))]) k_ ?_
    rw [show IntKind.i64.wrap (((32 * ((toL (nv xs)).length) : Nat) : Int) - 1) = (((32 * ((toL (nv xs)).length) : Nat) : Int) - 1) from by rw [IntKind.wrap_i64]; omega]
    refine RN.bq (no 1) [0, 1, 7, 8, 9] [] (k' := 5) (l' := [(0, sl y3 (toL (nv xs)).length), (1, sl y4 (toL (nv ys)).length), (7, .slice none 0 0), (8, .slice none 0 0), (9, .int .i64 (((32 * ((toL (nv xs)).length) : Nat) : Int) - 1))]) k_ ?_
    refine RN.done k_ ?_
    refine KN.next ?_
    refine J.block ?_
    refine J.also (fU saNil (toL 0)) (fun w h => fU_nil0 w) ?_
    refine J.loop (ι := (Nat) × (SA) × (Nat) × (SA) × (Nat)) (fun x => x.1 ≤ 32 * (toL (nv xs)).length ∧ DivR (nv xs) (nv ys) x.2.2.1 x.2.2.2.2 x.1) (fun x => x.1) (fun x => [(0, sl y3 (toL (nv xs)).length), (1, sl y4 (toL (nv ys)).length), (7, sl x.2.1 (toL x.2.2.1).length), (8, sl x.2.2.2.1 (toL x.2.2.2.2).length), (9, .int .i64 ((x.1 : Int) - 1))]) (fun x => []) (fun x => [fU x.2.1 (toL x.2.2.1), fU x.2.2.2.1 (toL x.2.2.2.2), fU y4 (toL (nv ys)), fU y3 (toL (nv xs)), fU s xs, fU t ys]) (32 * (toL (nv xs)).length, saNil, 0, saNil, 0) [0, 1, 7, 8, 9] [0, 0, 1, 2, 3, 4] (⟨Nat.le_refl _, DivR.start (Nat.pos_of_ne_zero h0)⟩) (by first | kernel_rfl | (simp only [toL_zero]; rfl)) (by first | rfl | (simp only [encQ_zero]; done) | (simp only [encQ_zero]; rfl)) (by rfl) (fun x6 hI => ?_)
    obtain ⟨m, sq, q, sr, r⟩ := x6
    replace hI : m ≤ 32 * (toL (nv xs)).length ∧ DivR (nv xs) (nv ys) q r m := hI
    obtain ⟨hI1, hI2⟩ := hI
    have hql := length_toL_mono hI2.q_le.1
    have hrl := length_toL_mono hI2.q_le.2
    have hdl := dlen (a := r) (o := nv xs / 2 ^ (m - 1) % 2) (by omega)
    refine J.seq ?_
    refine J.sreg ?_
    refine RN.bq (no 2) [0, 1, 7, 8, 9, 24] [] (k' := 2) (l' := [(0, sl y3 (toL (nv xs)).length), (1, sl y4 (toL (nv ys)).length), (7, sl sq (toL q).length), (8, sl sr (toL r).length), (9, .int .i64 ((m : Int) - 1)), (24, .bool (decide (((m : Int) - 1) ≥ 0)))]) k_ ?_
    refine RN.done k_ ?_
    refine KN.next ?_
    refine J.cond (decide (((m : Int) - 1) ≥ 0)) k_ (fun c7 => ?_) (fun c7 => ?_)
    · skip
      replace c7 := of_decide_eq_true c7
      have hst := DivR.step (m := m - 1) (by rw [show m - 1 + 1 = m from by omega]; exact hI2)
      rw [show (m : Int) - 1 = ((m - 1 : Nat) : Int) from by omega]
      refine J.skip ?_
      refine KN.next ?_
      refine J.seq ?_
      refine J.block ?_
      refine J.sreg ?_
      refine RN.bq (no 3) [0, 1, 7, 9, 27, 28, 29] [] (k' := 3) (l' := [(0, sl y3 (toL (nv xs)).length), (1, sl y4 (toL (nv ys)).length), (7, sl sq (toL q).length), (9, .int .i64 ((m - 1 : Nat) : Int)), (27, sl sr (toL r).length), (28, sl y3 (toL (nv xs)).length), (29, .int .i64 ((m - 1 : Nat) : Int))]) k_ ?_
      refine RN.call (r01_bit y3 (nv xs) (m - 1) y_) [3] k_ k_ k_ rfl (fun y8 _ => ?_)
      refine RN.call (r01_double sr r ((nv xs) / 2 ^ (m - 1) % 2) y_ y_) [1] k_ k_ k_ rfl (fun y9 _ => ?_)
      refine RN.bq (no 1) [0, 1, 7, 8, 9] [] (k' := 6) (l' := [(0, sl y3 (toL (nv xs)).length), (1, sl y4 (toL (nv ys)).length), (7, sl sq (toL q).length), (8, sl y9 (toL (2 * r + ((nv xs) / 2 ^ (m - 1) % 2))).length), (9, .int .i64 ((m - 1 : Nat) : Int))]) k_ ?_
      refine RN.done k_ ?_
      refine KN.next ?_
      refine J.sreg ?_
      refine RN.bq (no 2) [0, 1, 7, 8, 9, 33, 34] [] (k' := 2) (l' := [(0, sl y3 (toL (nv xs)).length), (1, sl y4 (toL (nv ys)).length), (7, sl sq (toL q).length), (8, sl y9 (toL (2 * r + ((nv xs) / 2 ^ (m - 1) % 2))).length), (9, .int .i64 ((m - 1 : Nat) : Int)), (33, sl y9 (toL (2 * r + ((nv xs) / 2 ^ (m - 1) % 2))).length), (34, sl y4 (toL (nv ys)).length)]) k_ ?_
      refine RN.call (r01_Sub_c y9 (2 * r + ((nv xs) / 2 ^ (m - 1) % 2)) y4 (nv ys) y_ y_) [0, 3] k_ k_ k_ rfl (fun y10 _ => ?_)
      refine RN.bq (no 5) [0, 1, 7, 8, 9, 10, 11] [] (k' := 8) (l' := [(0, sl y3 (toL (nv xs)).length), (1, sl y4 (toL (nv ys)).length), (7, sl sq (toL q).length), (8, sl y9 (toL (2 * r + ((nv xs) / 2 ^ (m - 1) % 2))).length), (9, .int .i64 ((m - 1 : Nat) : Int)), (10, sl y10 (toL ((2 * r + ((nv xs) / 2 ^ (m - 1) % 2)) - (nv ys))).length), (11, .bool (decide ((nv ys) ≤ (2 * r + ((nv xs) / 2 ^ (m - 1) % 2)))))]) k_ ?_
      refine RN.done k_ ?_
      refine KN.next ?_
      refine J.sreg ?_
      refine RN.bq (no 1) [0, 1, 7, 8, 9, 10, 38] [] (k' := 1) (l' := [(0, sl y3 (toL (nv xs)).length), (1, sl y4 (toL (nv ys)).length), (7, sl sq (toL q).length), (8, sl y9 (toL (2 * r + ((nv xs) / 2 ^ (m - 1) % 2))).length), (9, .int .i64 ((m - 1 : Nat) : Int)), (10, sl y10 (toL ((2 * r + ((nv xs) / 2 ^ (m - 1) % 2)) - (nv ys))).length), (38, .bool (decide ((nv ys) ≤ (2 * r + ((nv xs) / 2 ^ (m - 1) % 2)))))]) k_ ?_
      refine RN.done k_ ?_
      refine KN.next ?_
      refine J.cond (decide ((nv ys) ≤ (2 * r + ((nv xs) / 2 ^ (m - 1) % 2)))) k_ (fun c11 => ?_) (fun c11 => ?_)
      · skip
        replace c11 := of_decide_eq_true c11
        have hbr := c11
        refine J.regN ?_
        refine RN.bq (no 2) [0, 1, 9, 39, 40] [] (k' := 2) (l' := [(0, sl y3 (toL (nv xs)).length), (1, sl y4 (toL (nv ys)).length), (9, .int .i64 ((m - 1 : Nat) : Int)), (39, sl y10 (toL ((2 * r + ((nv xs) / 2 ^ (m - 1) % 2)) - (nv ys))).length), (40, sl sq (toL q).length)]) k_ ?_
        refine RN.call (r01_double sq q 1 y_ y_) [2] k_ k_ k_ rfl (fun y12 _ => ?_)
        refine RN.bq (no 2) [0, 1, 7, 8, 9] [] (k' := 5) (l' := [(0, sl y3 (toL (nv xs)).length), (1, sl y4 (toL (nv ys)).length), (7, sl y12 (toL (2 * q + 1)).length), (8, sl y10 (toL ((2 * r + ((nv xs) / 2 ^ (m - 1) % 2)) - (nv ys))).length), (9, .int .i64 ((m - 1 : Nat) : Int))]) k_ ?_
        refine RN.done k_ ?_
        refine KN.blk ?_
        refine KN.next ?_
        refine J.regN ?_
        refine RN.bq (no 2) [0, 1, 7, 8, 26] [] (k' := 2) (l' := [(0, sl y3 (toL (nv xs)).length), (1, sl y4 (toL (nv ys)).length), (7, sl y12 (toL (2 * q + 1)).length), (8, sl y10 (toL ((2 * r + ((nv xs) / 2 ^ (m - 1) % 2)) - (nv ys))).length), (26, .int .i64 (IntKind.i64.wrap (((m - 1 : Nat) : Int) - 1)))]) k_ ?_
        rw [show IntKind.i64.wrap (((m - 1 : Nat) : Int) - 1) = (((m - 1 : Nat) : Int) - 1) from by rw [IntKind.wrap_i64]; omega]
        refine RN.bq (no 1) [0, 1, 7, 8, 9] [] (k' := 3) (l' := [(0, sl y3 (toL (nv xs)).length), (1, sl y4 (toL (nv ys)).length), (7, sl y12 (toL (2 * q + 1)).length), (8, sl y10 (toL ((2 * r + ((nv xs) / 2 ^ (m - 1) % 2)) - (nv ys))).length), (9, .int .i64 (((m - 1 : Nat) : Int) - 1))]) k_ ?_
        refine RN.done k_ ?_
        refine KN.roundE (m - 1, y12, 2 * q + 1, y10, (2 * r + ((nv xs) / 2 ^ (m - 1) % 2)) - (nv ys)) [0, 1, 7, 8, 9] [0, 1, 5, 6, 7, 8] (l2 := [(0, sl y3 (toL (nv xs)).length), (1, sl y4 (toL (nv ys)).length), (7, sl y12 (toL (2 * q + 1)).length), (8, sl y10 (toL ((2 * r + ((nv xs) / 2 ^ (m - 1) % 2)) - (nv ys))).length), (9, .int .i64 (((m - 1 : Nat) : Int) - 1))]) (by (try dsimp only); omega) (by (try dsimp only); first | (have hs := hst; rw [if_pos hbr, if_pos hbr] at hs; exact ⟨by omega, hs⟩) | (have hs := hst; rw [if_neg hbr, if_neg hbr] at hs; exact ⟨by omega, hs⟩)) k_ (by rfl) (by rfl) (by rfl)
      · skip
        replace c11 := of_decide_eq_false c11
        have hbr := c11
        refine J.regN ?_
        refine RN.bq (no 1) [0, 1, 8, 9, 42] [] (k' := 1) (l' := [(0, sl y3 (toL (nv xs)).length), (1, sl y4 (toL (nv ys)).length), (8, sl y9 (toL (2 * r + ((nv xs) / 2 ^ (m - 1) % 2))).length), (9, .int .i64 ((m - 1 : Nat) : Int)), (42, sl sq (toL q).length)]) k_ ?_
        refine RN.call (r01_double sq q 0 y_ y_) [2] k_ k_ k_ rfl (fun y13 _ => ?_)
        refine RN.bq (no 1) [0, 1, 7, 8, 9] [] (k' := 3) (l' := [(0, sl y3 (toL (nv xs)).length), (1, sl y4 (toL (nv ys)).length), (7, sl y13 (toL (2 * q + 0)).length), (8, sl y9 (toL (2 * r + ((nv xs) / 2 ^ (m - 1) % 2))).length), (9, .int .i64 ((m - 1 : Nat) : Int))]) k_ ?_
        refine RN.done k_ ?_
        refine KN.blk ?_
        refine KN.next ?_
        refine J.regN ?_
        refine RN.bq (no 2) [0, 1, 7, 8, 26] [] (k' := 2) (l' := [(0, sl y3 (toL (nv xs)).length), (1, sl y4 (toL (nv ys)).length), (7, sl y13 (toL (2 * q + 0)).length), (8, sl y9 (toL (2 * r + ((nv xs) / 2 ^ (m - 1) % 2))).length), (26, .int .i64 (IntKind.i64.wrap (((m - 1 : Nat) : Int) - 1)))]) k_ ?_
        rw [show IntKind.i64.wrap (((m - 1 : Nat) : Int) - 1) = (((m - 1 : Nat) : Int) - 1) from by rw [IntKind.wrap_i64]; omega]
        refine RN.bq (no 1) [0, 1, 7, 8, 9] [] (k' := 3) (l' := [(0, sl y3 (toL (nv xs)).length), (1, sl y4 (toL (nv ys)).length), (7, sl y13 (toL (2 * q + 0)).length), (8, sl y9 (toL (2 * r + ((nv xs) / 2 ^ (m - 1) % 2))).length), (9, .int .i64 (((m - 1 : Nat) : Int) - 1))]) k_ ?_
        refine RN.done k_ ?_
        refine KN.roundE (m - 1, y13, 2 * q + 0, y9, 2 * r + ((nv xs) / 2 ^ (m - 1) % 2)) [0, 1, 7, 8, 9] [0, 2, 5, 6, 7, 8] (l2 := [(0, sl y3 (toL (nv xs)).length), (1, sl y4 (toL (nv ys)).length), (7, sl y13 (toL (2 * q + 0)).length), (8, sl y9 (toL (2 * r + ((nv xs) / 2 ^ (m - 1) % 2))).length), (9, .int .i64 (((m - 1 : Nat) : Int) - 1))]) (by (try dsimp only); omega) (by (try dsimp only); first | (have hs := hst; rw [if_pos hbr, if_pos hbr] at hs; exact ⟨by omega, hs⟩) | (have hs := hst; rw [if_neg hbr, if_neg hbr] at hs; exact ⟨by omega, hs⟩)) k_ (by rfl) (by rfl) (by rfl)
    · skip
      replace c7 := of_decide_eq_false c7
      have hm0 : m = 0 := by omega
      subst hm0
      have hdn := hI2.done
      refine J.exit (KX.next (KX.next (KX.hit ?_)))
      refine KN.next ?_
      refine J.sreg ?_
      refine RN.bq (no 5) [4, 5, 6] [] (k' := 5) (l' := [(4, sl sq (toL q).length), (5, sl sr (toL r).length), (6, .bool true)]) k_ ?_
      refine RN.done k_ ?_
      refine KN.next ?_
      have e_1 : (toL (nv xs / nv ys)) = (toL q) := by first | (rw [← hdn.1]; done) | (rw [if_neg h0, ← hdn.2]; done) | simp [h0]
      have e_2 : (toL (if nv ys = 0 then 0 else nv xs % nv ys)) = (toL r) := by first | (rw [← hdn.1]; done) | (rw [if_neg h0, ← hdn.2]; done) | simp [h0]
      have e_3 : (decide (nv ys ≠ 0)) = true := by first | (rw [← hdn.1]; done) | (rw [if_neg h0, ← hdn.2]; done) | simp [h0]
      refine J.ret (KR.ret (v := .tuple #[sl sq (toL q).length, sl sr (toL r).length, .bool true]) (⟨sq, sr⟩) [none, none, none] [0, 1] [] k_ v3_ (trivial) v3_)
theorem r01_Div_c (s : SA) (xs' : Nat) (t : SA) (ys' : Nat) (hxl : (toL xs').length ≤ 274877906942) (hyl : (toL ys').length ≤ 274877906942) : Spec Tryz.prog 127 #[sl s (toL xs').length, sl t (toL ys').length] [fU s (toL xs'), fU t (toL ys')] (ι := SA × SA) (fun y => .tuple #[sl y.1 (toL (xs' / ys')).length, sl y.2 (toL (if ys' = 0 then 0 else xs' % ys')).length, .bool (decide (ys' ≠ 0))]) (fun y => True) (fun y => [fU y.1 (toL (xs' / ys')), fU y.2 (toL (if ys' = 0 then 0 else xs' % ys'))]) := by
  have H := r01_Div s (toL xs') t (toL ys') (Lb_toL _) (Lb_toL _) (by first | exact hxl | simpa only [nv_toL, nv_toL] using hxl) (by first | exact hyl | simpa only [nv_toL, nv_toL] using hyl)
  first | exact H | (simp only [nv_toL, lv_toL, validU_toL] at H; exact H)
theorem r01_Gcd (s : SA) (xs : List Nat) (t : SA) (ys : List Nat) (hx : Lb xs) (hy : Lb ys) (hxl : xs.length ≤ 274877906942) (hyl : ys.length ≤ 274877906942) : Spec Tryz.prog 126 #[sl s xs.length, sl t ys.length] [fU s xs, fU t ys] (ι := SA) (fun y => sl y (toL (Nat.gcd (nv xs) (nv ys))).length) (fun y => True) (fun y => [fU y (toL (Nat.gcd (nv xs) (nv ys)))]) := by
  refine Spec.of_body _ (fn := Tryz.f126) k_ rfl k_ (fun X w0 => ?_)
  refine J.fact (φ := xs.length ≤ 140737488355328) (fun w h => by have := (h _ (.head _)).1; omega) (fun hl1 => ?_)
  refine J.fact (φ := ys.length ≤ 140737488355328) (fun w h => by have := (h _ (.tail _ ((.head _)))).1; omega) (fun hl2 => ?_)
  have hnx := toL_nv_len hx _ hxl
  have hny := toL_nv_len hy _ hyl
  refine J.sreg ?_
  refine RN.bq (no 1) [0, 1] [] (k' := 1) (l' := [(0, sl s xs.length), (1, sl t ys.length)]) k_ ?_
  refine RN.done k_ ?_
  refine KN.next ?_
  refine J.sreg ?_
  refine RN.bq (no 1) [1, 8] [] (k' := 1) (l' := [(1, sl t ys.length), (8, sl s xs.length)]) k_ ?_
  refine RN.call (r01_Take s xs y_ y_) [0] k_ k_ k_ rfl (fun y3 _ => ?_)
  refine RN.bq (no 1) [9, 10] [] (k' := 3) (l' := [(9, sl y3 (toL (nv xs)).length), (10, sl t ys.length)]) k_ ?_
  refine RN.call (r01_Take t ys y_ y_) [2] k_ k_ k_ rfl (fun y4 _ => ?_)
  refine RN.bq (no 2) [0, 1] [] (k' := 6) (l' := [(0, sl y3 (toL (nv xs)).length), (1, sl y4 (toL (nv ys)).length)]) k_ ?_
  refine RN.done k_ ?_
  refine KN.next ?_
  refine J.seq ?_
  refine J.block ?_
  refine J.loop (ι := (SA) × (Nat) × (SA) × (Nat)) (fun x => (toL x.2.1).length ≤ 274877906942 ∧ (toL x.2.2.2).length ≤ 274877906942 ∧ Nat.gcd x.2.1 x.2.2.2 = Nat.gcd (nv xs) (nv ys)) (fun x => x.2.2.2) (fun x => [(0, sl x.1 (toL x.2.1).length), (1, sl x.2.2.1 (toL x.2.2.2).length)]) (fun x => []) (fun x => [fU x.1 (toL x.2.1), fU x.2.2.1 (toL x.2.2.2), fU y4 (toL (nv ys)), fU y3 (toL (nv xs)), fU s xs, fU t ys]) (y3, nv xs, y4, nv ys) [0, 1] [1, 0, 0, 1, 2, 3] (⟨hnx, hny, rfl⟩) k_ (by first | rfl | (simp only [encQ_zero]; done) | (simp only [encQ_zero]; rfl)) (by rfl) (fun x5 hI => ?_)
  obtain ⟨sa, a, sb, b⟩ := x5
  replace hI : (toL a).length ≤ 274877906942 ∧ (toL b).length ≤ 274877906942 ∧ Nat.gcd a b = Nat.gcd (nv xs) (nv ys) := hI
  obtain ⟨hI1, hI2, hI3⟩ := hI
  refine J.seq ?_
  refine J.sreg ?_
  refine RN.bq (no 3) [0, 1, 14] [] (k' := 3) (l' := [(0, sl sa (toL a).length), (1, sl sb (toL b).length), (14, .bool (decide ((((toL b).length : Nat) : Int) > 0)))]) k_ ?_
  refine RN.done k_ ?_
  refine KN.next ?_
  refine J.cond (decide ((((toL b).length : Nat) : Int) > 0)) k_ (fun c6 => ?_) (fun c6 => ?_)
  · skip
    replace c6 := of_decide_eq_true c6
    have h0 : b ≠ 0 := toL_len_ne (by omega)
    refine J.skip ?_
    refine KN.next ?_
    refine J.block ?_
    refine J.sreg ?_
    refine RN.bq (no 2) [1, 16, 17] [] (k' := 2) (l' := [(1, sl sb (toL b).length), (16, sl sa (toL a).length), (17, sl sb (toL b).length)]) k_ ?_
    refine RN.call (r01_Div_c sa a sb b y_ y_) [0, 1] k_ k_ k_ rfl (fun y7 _ => ?_)
    rw [show (if b = 0 then 0 else a % b) = a % b from if_neg h0]
    refine RN.bq (no 7) [1, 6] [] (k' := 10) (l' := [(1, sl sb (toL b).length), (6, sl y7.2 (toL (a % b)).length)]) k_ ?_
    refine RN.done k_ ?_
    refine KN.next ?_
    refine J.regN ?_
    refine RN.bq (no 4) [0, 1] [] (k' := 4) (l' := [(0, sl sb (toL b).length), (1, sl y7.2 (toL (a % b)).length)]) k_ ?_
    refine RN.done k_ ?_
    refine KN.blk ?_
    have hm := Nat.mod_lt a (Nat.pos_of_ne_zero h0)
    refine KN.roundE (sb, b, y7.2, a % b) [0, 1] [3, 1, 4, 5, 6, 7] (l2 := [(0, sl sb (toL b).length), (1, sl y7.2 (toL (a % b)).length)]) (by (try dsimp only); exact hm) (by (try dsimp only); exact ⟨hI2, Nat.le_trans (length_toL_mono (Nat.le_of_lt hm)) hI2, by rw [Nat.gcd_comm, ← Nat.gcd_rec, Nat.gcd_comm]; exact hI3⟩) k_ (by rfl) (by rfl) (by rfl)
  · skip
    replace c6 := of_decide_eq_false c6
    have h0 : b = 0 := toL_len_eq (by omega)
    refine J.exit (KX.next (KX.next (KX.hit ?_)))
    refine KN.next ?_
    refine J.sreg ?_
    refine RN.bq (no 2) [4] [] (k' := 2) (l' := [(4, sl sa (toL a).length)]) k_ ?_
    refine RN.done k_ ?_
    refine KN.next ?_
    have e_1 : (toL (Nat.gcd (nv xs) (nv ys))) = (toL a) := by simp [← hI3, h0]
    refine J.ret (KR.ret (v := sl sa (toL a).length) (sa) [none] [0] [] k_ v1_ (trivial) v1_)
theorem r01_Gcd_c (s : SA) (xs' : Nat) (t : SA) (ys' : Nat) (hxl : (toL xs').length ≤ 274877906942) (hyl : (toL ys').length ≤ 274877906942) : Spec Tryz.prog 126 #[sl s (toL xs').length, sl t (toL ys').length] [fU s (toL xs'), fU t (toL ys')] (ι := SA) (fun y => sl y (toL (Nat.gcd xs' ys')).length) (fun y => True) (fun y => [fU y (toL (Nat.gcd xs' ys'))]) := by
  have H := r01_Gcd s (toL xs') t (toL ys') (Lb_toL _) (Lb_toL _) (by first | exact hxl | simpa only [nv_toL, nv_toL] using hxl) (by first | exact hyl | simpa only [nv_toL, nv_toL] using hyl)
  first | exact H | (simp only [nv_toL, lv_toL, validU_toL] at H; exact H)
theorem same_step {xs ys : List Nat} {i : Nat} (h : ∀ j, j < i → xs.getD j 0 = ys.getD j 0) (hi : xs.getD i 0 = ys.getD i 0) : ∀ j, j < i + 1 → xs.getD j 0 = ys.getD j 0 := by
  intro j hj
  by_cases e : j = i
  · subst e; exact hi
  · exact h j (by omega)
theorem ext_getD {xs ys : List Nat} (hl : xs.length = ys.length) (h : ∀ j, j < xs.length → xs.getD j 0 = ys.getD j 0) : xs = ys := by
  apply List.ext_getElem hl
  intro i h1 h2
  have := h i h1
  simpa [List.getD_eq_getElem?_getD, h1, h2] using this
theorem r01_Same (s : SA) (xs : List Nat) (t : SA) (ys : List Nat) : Spec Tryz.prog 46 #[sl s xs.length, sl t ys.length] [fU s xs, fU t ys] (ι := Unit) (fun y => .bool (decide (xs = ys))) (fun y => True) (fun y => []) := by
  refine Spec.of_body _ (fn := Tryz.f46) k_ rfl k_ (fun X w0 => ?_)
  refine J.fact (φ := xs.length ≤ 140737488355328) (fun w h => by have := (h _ (.head _)).1; omega) (fun hl1 => ?_)
  refine J.fact (φ := ys.length ≤ 140737488355328) (fun w h => by have := (h _ (.tail _ ((.head _)))).1; omega) (fun hl2 => ?_)
  refine J.sreg ?_
  refine RN.bq (no 1) [0, 1] [] (k' := 1) (l' := [(0, sl s xs.length), (1, sl t ys.length)]) k_ ?_
  refine RN.done k_ ?_
  refine KN.next ?_
  refine J.seq ?_
  refine J.sreg ?_
  refine RN.bq (no 5) [0, 1, 10] [] (k' := 5) (l' := [(0, sl s xs.length), (1, sl t ys.length), (10, .bool ((((xs.length : Nat) : Int) : Int) != ((ys.length : Nat) : Int)))]) k_ ?_
  refine RN.done k_ ?_
  refine KN.next ?_
  refine J.cond ((((xs.length : Nat) : Int) : Int) != ((ys.length : Nat) : Int)) k_ (fun c3 => ?_) (fun c3 => ?_)
  · skip
    replace c3 := bne_iff_ne.1 c3
    refine J.sreg ?_
    refine RN.bq (no 1) [4] [] (k' := 1) (l' := [(4, .bool false)]) k_ ?_
    refine RN.done k_ ?_
    refine KN.next ?_
    have e_1 : (decide (xs = ys)) = false := by exact decide_eq_false (fun h => by subst h; omega)
    refine J.ret (KR.next (KR.ret (v := .bool false) (()) [none] [] [] k_ v1_ (trivial) v1_))
  · skip
    replace c3 := bne_eq_false_iff_eq.1 c3
    refine J.skip ?_
    refine KN.next ?_
    refine J.seq ?_
    refine J.sreg ?_
    refine RN.bq (no 1) [0, 1, 5] [] (k' := 1) (l' := [(0, sl s xs.length), (1, sl t ys.length), (5, .int .i64 0)]) k_ ?_
    refine RN.done k_ ?_
    refine KN.next ?_
    refine J.block ?_
    refine J.loop (ι := (Nat)) (fun x => x ≤ xs.length ∧ ∀ j, j < x → xs.getD j 0 = ys.getD j 0) (fun x => xs.length - x) (fun x => [(0, sl s xs.length), (1, sl t ys.length), (5, .int .i64 ((x : Nat) : Int))]) (fun x => []) (fun x => [fU s xs, fU t ys]) (0) [0, 1, 5] [0, 1] (⟨Nat.zero_le _, fun j hj => absurd hj (Nat.not_lt_zero _)⟩) k_ (by first | rfl | (simp only [encQ_zero]; done) | (simp only [encQ_zero]; rfl)) (by rfl) (fun i hI => ?_)
    replace hI : i ≤ xs.length ∧ ∀ j, j < i → xs.getD j 0 = ys.getD j 0 := hI
    refine J.seq ?_
    refine J.sreg ?_
    refine RN.bq (no 4) [0, 1, 5, 14] [] (k' := 4) (l' := [(0, sl s xs.length), (1, sl t ys.length), (5, .int .i64 ((i : Nat) : Int)), (14, .bool (decide (((i : Nat) : Int) < ((xs.length : Nat) : Int))))]) k_ ?_
    refine RN.done k_ ?_
    refine KN.next ?_
    refine J.cond (decide (((i : Nat) : Int) < ((xs.length : Nat) : Int))) k_ (fun c4 => ?_) (fun c4 => ?_)
    · skip
      replace c4 := of_decide_eq_true c4
      refine J.skip ?_
      refine KN.next ?_
      refine J.seq ?_
      refine J.block ?_
      refine J.seq ?_
      refine J.regD k_ [] ?_
      refine RD.bat k_ [(0, none), (1, none), (4, none), (5, none)] [0, 1, 5, 17, 18, 21, 22] [] (L' := [5, 4, 1, 0]) (l' := [(0, sl s xs.length), (1, sl t ys.length), (5, .int .i64 ((i : Nat) : Int)), (17, sl s xs.length), (18, .int .i64 ((i : Nat) : Int)), (21, sl t ys.length), (22, .int .i64 ((i : Nat) : Int))]) k_ ?_
      refine RD.val (i := 2) _ k_ k_ k_ (q_uidx (t := 23) (x := (.tmp 17)) (ix := (.tmp 18)) (K := .i64) (i0 := ((i : Nat) : Int)) (m := i) (e := 82) 0 rfl k_ k_ k_ k_ k_ (by omega) x_) ?_
      refine RD.val (i := 3) _ k_ k_ k_ (q_uload (T := 82) (x := (.tmp 19)) (m := i) (s := s) (xs := xs) 0 rfl k_ k_ k_ x_) ?_
      refine RD.val (i := 6) _ k_ k_ k_ (q_uidx (t := 23) (x := (.tmp 21)) (ix := (.tmp 22)) (K := .i64) (i0 := ((i : Nat) : Int)) (m := i) (e := 82) 1 rfl k_ k_ k_ k_ k_ (by omega) x_) ?_
      refine RD.val (i := 7) _ k_ k_ k_ (q_uload (T := 82) (x := (.tmp 23)) (m := i) (s := t) (xs := ys) 1 rfl k_ k_ k_ x_) ?_
      refine RD.bat k_ [(8, none)] [0, 1, 5, 25] [] (L' := [8, 7, 6, 3, 2, 5, 4, 1, 0]) (l' := [(0, sl s xs.length), (1, sl t ys.length), (5, .int .i64 ((i : Nat) : Int)), (25, .bool ((((xs.getD i 0 : Nat) : Int) : Int) != ((ys.getD i 0 : Nat) : Int)))]) k_ ?_
      refine RD.done k_ ?_
      refine KN.next ?_
      refine J.cond ((((xs.getD i 0 : Nat) : Int) : Int) != ((ys.getD i 0 : Nat) : Int)) k_ (fun c5 => ?_) (fun c5 => ?_)
      · skip
        replace c5 := bne_iff_ne.1 c5
        refine J.sreg ?_
        refine RN.bq (no 1) [4] [] (k' := 1) (l' := [(4, .bool false)]) k_ ?_
        refine RN.done k_ ?_
        refine KN.next ?_
        have e_1 : (decide (xs = ys)) = false := by exact decide_eq_false (fun h => by subst h; omega)
        refine J.ret (KR.blk (KR.next (KR.next (KR.blk (KR.next (KR.ret (v := .bool false) (()) [none] [] [] k_ v1_ (trivial) v1_))))))
      · skip
        replace c5 := bne_eq_false_iff_eq.1 c5
        refine J.skip ?_
        refine KN.blk ?_
        refine KN.next ?_
        refine J.regN ?_
        refine RN.bq (no 2) [0, 1, 16] [] (k' := 2) (l' := [(0, sl s xs.length), (1, sl t ys.length), (16, .int .i64 (IntKind.i64.wrap (((i : Nat) : Int) + 1)))]) k_ ?_
        rw [show IntKind.i64.wrap (((i : Nat) : Int) + 1) = ((i + 1 : Nat) : Int) from by rw [IntKind.wrap_i64]; omega]
        refine RN.bq (no 1) [0, 1, 5] [] (k' := 3) (l' := [(0, sl s xs.length), (1, sl t ys.length), (5, .int .i64 ((i + 1 : Nat) : Int))]) k_ ?_
        refine RN.done k_ ?_
        refine KN.roundE (i + 1) [0, 1, 5] [0, 1] (l2 := [(0, sl s xs.length), (1, sl t ys.length), (5, .int .i64 ((i + 1 : Nat) : Int))]) (by (try dsimp only); omega) (by (try dsimp only); exact ⟨by omega, same_step hI.2 (by omega)⟩) k_ (by rfl) (by rfl) (by rfl)
    · skip
      replace c4 := of_decide_eq_false c4
      refine J.exit (KX.next (KX.next (KX.hit ?_)))
      refine KN.next ?_
      refine J.sreg ?_
      refine RN.bq (no 1) [4] [] (k' := 1) (l' := [(4, .bool true)]) k_ ?_
      refine RN.done k_ ?_
      refine KN.next ?_
      have e_1 : (decide (xs = ys)) = true := by exact decide_eq_true (ext_getD (by omega) (fun j hj => hI.2 j (by omega)))
      refine J.ret (KR.ret (v := .bool true) (()) [none] [] [] k_ v1_ (trivial) v1_)
end Go.Proofs.YtegnonhgildhoaaGreat.E
