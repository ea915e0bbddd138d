import Derived.Test.YtegnonhgildhoaaGreatBase2
import Derived.Test.YtegnonhgildhoaaGreatEA
namespace Go.Proofs.YtegnonhgildhoaaGreat.E
open Go Go.RowKit
set_option linter.unusedVariables false
set_option linter.unusedSimpArgs false
theorem fU_none {s : SA} {xs : List Nat} {w : World} (h : fU s xs w) (hs : s.A.isNone = true) : xs = [] := by
  cases xs with
  | nil => rfl
  | cons a r =>
    have := (h.2 0 (by simp)).1
    rw [this] at hs; cases hs
theorem slices_Clone_u32 (s : SA) (xs : List Nat) (hxl : xs.length ≤ 1099511627776) : Spec Tryz.prog 138 #[sl s xs.length] [fU s xs] (ι := SA) (fun y => sl y xs.length) (fun y => True) (fun y => [fU y xs]) := by
  refine Spec.of_body _ (fn := Tryz.f138) k_ rfl k_ (fun X w0 => ?_)
  refine J.fact (φ := xs.length ≤ 140737488355328) (fun w h => by have := (h _ (.head _)).1; omega) (fun hl1 => ?_)
  refine J.fact (φ := s.A.isNone = true → xs = []) (fun w h => fU_none (h _ (.head _))) (fun hnil => ?_)
  refine J.sreg ?_
  refine RN.bq (no 1) [0] [] (k' := 1) (l' := [(0, sl s xs.length)]) k_ ?_
  refine RN.done k_ ?_
  refine KN.next ?_
  refine J.seq ?_
  refine J.sreg ?_
  refine RN.bq (no 1) [0, 3] [] (k' := 1) (l' := [(0, sl s xs.length), (3, sl s xs.length)]) k_ ?_
  refine RN.val _ k_ k_ (q_nileq (T := 23) (T' := 23) (x := (.tmp 3)) (y := (.const (.slice none 0 0))) (A := s.A) (e := 82) (k := xs.length) (c := s.c) k_ k_ k_ k_) ?_
  refine RN.done k_ ?_
  refine KN.next ?_
  refine J.cond (s.A.isNone) k_ (fun c2 => ?_) (fun c2 => ?_)
  · skip
    refine J.sreg ?_
    refine RN.bq (no 1) [2] [] (k' := 1) (l' := [(2, .slice none 0 0)]) k_ ?_
    refine RN.done k_ ?_
    refine KN.next ?_
    have e_1 : xs = ([] : List Nat) := by rw [hnil ‹_›]
    refine J.also (fU saNil ([] : List Nat)) (fun w h => fU_nil w) ?_
    refine J.ret (KR.next (KR.ret (v := .slice none 0 0) (saNil) [none] [0] [] k_ v1_ (trivial) v1_))
  · skip
    refine J.skip ?_
    refine KN.next ?_
    refine J.sreg ?_
    refine RN.new (fun b => .slice (some ⟨b, 0, none⟩) 0 0) (.cells (encU ([] : List Nat)) 82 (0, 0)) k_ k_ (fun w => by kernel_rfl) (fun b3 => ?_)
    refine RN.bq (no 1) [5, 6] [] (k' := 2) (l' := [(5, .slice (some ⟨b3, 0, none⟩) 0 0), (6, sl s xs.length)]) k_ ?_
    refine RN.ot k_ k_ (ot_ucat (T := 23) (e := 82) (by_ := 4) (x := (.tmp 5)) (y := (.tmp 6)) (go := (some ⟨b3, 0, #[]⟩)) (zs := ([] : List Nat)) (xs := xs) (s := s) 0 [] ([]) rfl rfl k_ k_ k_ k_ k_ k_ (⟨Nat.le_refl _, Nat.le_refl _⟩) x_ x_) (fun g4 hg5 => ?_)
    refine RN.bq (no 1) [2] [] (k' := 4) (l' := [(2, sl (glS g4) xs.length)]) k_ ?_
    refine RN.done k_ ?_
    refine KN.next ?_
    refine J.shareG [] ([]) rfl (fU (glS g4) xs) (fun w hb h => fU_gl hb (by assumption) x_) ?_
    refine J.ret (KR.ret (v := sl (glS g4) xs.length) (glS g4) [none] [0] [] k_ rfl (trivial) rfl)
theorem toL_one {n : Nat} (h : (toL n).length = 1) : (toL n).getD 0 0 = n := by
  have := val_toL h
  rw [svl_succ, svl_zero] at this
  simpa using this
theorem toL_len_ne {n : Nat} (h : (toL n).length ≠ 0) : n ≠ 0 := fun e => h (by rw [e, toL_zero]; rfl)
theorem toL_len_eq {n : Nat} (h : (toL n).length = 0) : n = 0 := toL_nil.1 (List.length_eq_zero_iff.1 h)
theorem y_natural_Div {p : Prop} (h : p := by first | assumption | exact Lb_toL _ | omega | (simp; done) | (rw [h1] at *; omega)) : p := h
theorem natural_Div (s : SA) (xs : List Nat) (t : SA) (ys : List Nat) (hx : Lb xs) (hy : Lb ys) (hxl : xs.length ≤ 1099511627776) (hyl : ys.length ≤ 1099511627776) : Spec Tryz.prog 117 #[sl s xs.length, sl t ys.length] [fU s xs, fU t ys] (ι := SA × SA) (fun y => .tuple #[sl y.1 (toL (nv xs / nv ys)).length, sl y.2 (toL (if nv ys = 0 then 0 else nv xs % nv ys)).length, .bool (decide (nv ys ≠ 0))]) (fun y => True) (fun y => [fU y.1 (toL (nv xs / nv ys)), fU y.2 (toL (if nv ys = 0 then 0 else nv xs % nv ys))]) := by
  refine Spec.of_body _ (fn := Tryz.f117) k_ rfl k_ (fun X w0 => ?_)
  refine J.fact (φ := xs.length ≤ 140737488355328) (fun w h => by have := (h _ (.head _)).1; omega) (fun hl1 => ?_)
  refine J.fact (φ := ys.length ≤ 140737488355328) (fun w h => by have := (h _ (.tail _ ((.head _)))).1; omega) (fun hl2 => ?_)
  have hnx := toL_nv_len hx _ hxl
  have hny := toL_nv_len hy _ hyl
  refine J.sreg ?_
  refine RN.bq (no 3) [0, 1] [] (k' := 3) (l' := [(0, sl s xs.length), (1, sl t ys.length)]) k_ ?_
  refine RN.done k_ ?_
  refine KN.next ?_
  refine J.sreg ?_
  refine RN.bq (no 1) [1, 9] [] (k' := 1) (l' := [(1, sl t ys.length), (9, sl s xs.length)]) k_ ?_
  refine RN.call (natural_value s xs y_natural_Div) [0] k_ k_ k_ rfl (fun y3 _ => ?_)
  refine RN.bq (no 1) [10, 11] [] (k' := 3) (l' := [(10, sl y3 (toL (nv xs)).length), (11, sl t ys.length)]) k_ ?_
  refine RN.call (natural_value t ys y_natural_Div) [2] k_ k_ k_ rfl (fun y4 _ => ?_)
  refine RN.bq (no 2) [0, 1] [] (k' := 6) (l' := [(0, sl y3 (toL (nv xs)).length), (1, sl y4 (toL (nv ys)).length)]) k_ ?_
  refine RN.done k_ ?_
  refine KN.next ?_
  refine J.seq ?_
  refine J.block ?_
  refine J.sreg ?_
  refine RN.bq (no 4) [0, 1, 13] [] (k' := 4) (l' := [(0, sl y3 (toL (nv xs)).length), (1, sl y4 (toL (nv ys)).length), (13, .bool (((((toL (nv ys)).length : Nat) : Int) : Int) == 0))]) k_ ?_
  refine RN.done k_ ?_
  refine KN.next ?_
  refine J.cond (((((toL (nv ys)).length : Nat) : Int) : Int) == 0) k_ (fun c5 => ?_) (fun c5 => ?_)
  · skip
    replace c5 := eq_of_beq c5
    have h0 : nv ys = 0 := toL_len_eq (by omega)
    refine J.sreg ?_
    refine RN.bq (no 3) [4, 5, 6] [] (k' := 3) (l' := [(4, .slice none 0 0), (5, .slice none 0 0), (6, .bool false)]) k_ ?_
    refine RN.done k_ ?_
    refine KN.next ?_
    have e_1 : (toL (nv xs / nv ys)) = ([] : List Nat) := by simp [h0, toL_zero]
    have e_2 : (toL (if nv ys = 0 then 0 else nv xs % nv ys)) = ([] : List Nat) := by simp [h0, toL_zero]
    have e_3 : (decide (nv ys ≠ 0)) = false := by simp [h0, toL_zero]
    refine J.also (fU saNil ([] : List Nat)) (fun w h => fU_nil w) ?_
    refine J.ret (KR.blk (KR.next (KR.ret (v := .tuple #[.slice none 0 0, .slice none 0 0, .bool false]) (⟨saNil, saNil⟩) [none, none, none] [0, 0] [] k_ v3_ (trivial) v3_)))
  · skip
    replace c5 := ne_of_beq_false c5
    have h0 : nv ys ≠ 0 := toL_len_ne (by omega)
    refine J.sreg ?_
    refine RN.bq (no 2) [0, 1, 18, 19] [] (k' := 2) (l' := [(0, sl y3 (toL (nv xs)).length), (1, sl y4 (toL (nv ys)).length), (18, sl y3 (toL (nv xs)).length), (19, sl y4 (toL (nv ys)).length)]) k_ ?_
    refine RN.call (natural_Compare_c y3 (nv xs) y4 (nv ys)) [1, 0] k_ k_ k_ rfl (fun y6 _ => ?_)
    refine RN.bq (no 2) [0, 1, 17] [] (k' := 5) (l' := [(0, sl y3 (toL (nv xs)).length), (1, sl y4 (toL (nv ys)).length), (17, .bool (decide ((cmpN (nv xs) (nv ys)) < 0)))]) k_ ?_
    refine RN.done k_ ?_
    refine KN.next ?_
    refine J.cond (decide ((cmpN (nv xs) (nv ys)) < 0)) k_ (fun c7 => ?_) (fun c7 => ?_)
    · skip
      replace c7 := of_decide_eq_true c7
      have hlt := cmpN_neg.1 c7
      refine J.sreg ?_
      refine RN.bq (no 1) [22] [] (k' := 1) (l' := [(22, sl y3 (toL (nv xs)).length)]) k_ ?_
      refine RN.call (slices_Clone_u32 y3 (toL (nv xs)) y_natural_Div) [1] k_ k_ k_ rfl (fun y8 _ => ?_)
      refine RN.bq (no 3) [4, 5, 6] [] (k' := 5) (l' := [(4, .slice none 0 0), (5, sl y8 (toL (nv xs)).length), (6, .bool true)]) k_ ?_
      refine RN.done k_ ?_
      refine KN.next ?_
      have e_1 : (toL (nv xs / nv ys)) = ([] : List Nat) := by simp [h0, Nat.div_eq_of_lt hlt, Nat.mod_eq_of_lt hlt, toL_zero]
      have e_2 : (toL (if nv ys = 0 then 0 else nv xs % nv ys)) = (toL (nv xs)) := by simp [h0, Nat.div_eq_of_lt hlt, Nat.mod_eq_of_lt hlt, toL_zero]
      have e_3 : (decide (nv ys ≠ 0)) = true := by simp [h0, Nat.div_eq_of_lt hlt, Nat.mod_eq_of_lt hlt, toL_zero]
      refine J.also (fU saNil ([] : List Nat)) (fun w h => fU_nil w) ?_
      refine J.ret (KR.blk (KR.next (KR.ret (v := .tuple #[.slice none 0 0, sl y8 (toL (nv xs)).length, .bool true]) (⟨saNil, y8⟩) [none, none, none] [0, 1] [] k_ v3_ (trivial) v3_)))
    · skip
      replace c7 := of_decide_eq_false c7
      have hle := cmp_le c7
      refine J.sreg ?_
      refine RN.bq (no 4) [0, 1, 24] [] (k' := 4) (l' := [(0, sl y3 (toL (nv xs)).length), (1, sl y4 (toL (nv ys)).length), (24, .bool (((((toL (nv ys)).length : Nat) : Int) : Int) == 1))]) k_ ?_
      refine RN.done k_ ?_
      refine KN.next ?_
      refine J.cond (((((toL (nv ys)).length : Nat) : Int) : Int) == 1) k_ (fun c9 => ?_) (fun c9 => ?_)
      · skip
        replace c9 := eq_of_beq c9
        have h1 := toL_one (n := nv ys) (by omega)
        have hlt : (toL (nv ys)).getD 0 0 < 4294967296 := (Lb_toL _).getD 0
        have hmod := Nat.mod_lt (nv xs) (show 0 < (toL (nv ys)).getD 0 0 by rw [h1]; omega)
        refine J.sreg ?_
        refine RN.bq (no 2) [29, 30] [] (k' := 2) (l' := [(29, sl y3 (toL (nv xs)).length), (30, sl y4 (toL (nv ys)).length)]) k_ ?_
        refine RN.val _ k_ k_ (q_uidx (t := 23) (x := (.tmp 30)) (ix := (.const (.int .i64 0))) (K := .i64) (i0 := 0) (m := 0) (e := 82) 0 rfl k_ k_ k_ k_ k_ (by omega) x_) ?_
        refine RN.val _ k_ k_ (q_uload (T := 82) (x := (.tmp 31)) (m := 0) (s := y4) (xs := toL (nv ys)) 0 rfl k_ k_ k_ x_) ?_
        refine RN.call (natural_short y3 (nv xs) ((toL (nv ys)).getD 0 0) y_natural_Div y_natural_Div y_natural_Div) [1] k_ k_ k_ rfl (fun y10 _ => ?_)
        refine RN.bq (no 5) [7, 8] [] (k' := 10) (l' := [(7, sl y10 (toL ((nv xs) / ((toL (nv ys)).getD 0 0))).length), (8, .int .u32 (((nv xs) % ((toL (nv ys)).getD 0 0) : Nat) : Int))]) k_ ?_
        refine RN.done k_ ?_
        refine KN.next ?_
        refine J.sreg ?_
        refine RN.bq (no 3) [36, 38] [] (k' := 3) (l' := [(36, sl y10 (toL ((nv xs) / ((toL (nv ys)).getD 0 0))).length), (38, .int .u64 (IntKind.u64.wrap (((nv xs) % ((toL (nv ys)).getD 0 0) : Nat) : Int)))]) k_ ?_
        rw [show IntKind.u64.wrap (((nv xs) % ((toL (nv ys)).getD 0 0) : Nat) : Int) = (((nv xs) % ((toL (nv ys)).getD 0 0) : Nat) : Int) from uw64b ((nv xs) % ((toL (nv ys)).getD 0 0)) (by rfl) (by omega)]
        refine RN.call (natural_FromUint ((nv xs) % ((toL (nv ys)).getD 0 0)) y_natural_Div) [] k_ k_ k_ rfl (fun y11 _ => ?_)
        refine RN.bq (no 3) [4, 5, 6] [] (k' := 7) (l' := [(4, sl y10 (toL ((nv xs) / ((toL (nv ys)).getD 0 0))).length), (5, sl y11 (toL ((nv xs) % ((toL (nv ys)).getD 0 0))).length), (6, .bool true)]) k_ ?_
        refine RN.done k_ ?_
        refine KN.next ?_
        have e_1 : (toL (nv xs / nv ys)) = (toL ((nv xs) / ((toL (nv ys)).getD 0 0))) := by first | (rw [h1]; done) | (rw [h1, if_neg h0]; done) | simp [h0]
        have e_2 : (toL (if nv ys = 0 then 0 else nv xs % nv ys)) = (toL ((nv xs) % ((toL (nv ys)).getD 0 0))) := by first | (rw [h1]; done) | (rw [h1, if_neg h0]; done) | simp [h0]
        have e_3 : (decide (nv ys ≠ 0)) = true := by first | (rw [h1]; done) | (rw [h1, if_neg h0]; done) | simp [h0]
        refine J.ret (KR.blk (KR.next (KR.ret (v := .tuple #[sl y10 (toL ((nv xs) / ((toL (nv ys)).getD 0 0))).length, sl y11 (toL ((nv xs) % ((toL (nv ys)).getD 0 0))).length, .bool true]) (⟨y10, y11⟩) [none, none, none] [1, 0] [] k_ v3_ (trivial) v3_)))
      · skip
        replace c9 := ne_of_beq_false c9
        have hab := length_toL_mono hle
        refine J.skip ?_
        refine KN.blk ?_
        refine KN.next ?_
        refine J.sreg ?_
        refine RN.bq (no 2) [41, 42] [] (k' := 2) (l' := [(41, sl y3 (toL (nv xs)).length), (42, sl y4 (toL (nv ys)).length)]) k_ ?_
        refine RN.call (natural_divide y3 (nv xs) y4 (nv ys) y_natural_Div y_natural_Div y_natural_Div) [1, 0] k_ k_ k_ rfl (fun y12 _ => ?_)
        refine RN.bq (no 5) [4, 5] [] (k' := 8) (l' := [(4, sl y12.1 (toL ((nv xs) / (nv ys))).length), (5, sl y12.2 (toL ((nv xs) % (nv ys))).length)]) k_ ?_
        refine RN.done k_ ?_
        refine KN.next ?_
        refine J.sreg ?_
        refine RN.bq (no 5) [4, 5, 6] [] (k' := 5) (l' := [(4, sl y12.1 (toL ((nv xs) / (nv ys))).length), (5, sl y12.2 (toL ((nv xs) % (nv ys))).length), (6, .bool true)]) k_ ?_
        refine RN.done k_ ?_
        refine KN.next ?_
        have e_1 : (toL (nv xs / nv ys)) = (toL ((nv xs) / (nv ys))) := by simp [h0]
        have e_2 : (toL (if nv ys = 0 then 0 else nv xs % nv ys)) = (toL ((nv xs) % (nv ys))) := by simp [h0]
        have e_3 : (decide (nv ys ≠ 0)) = true := by simp [h0]
        refine J.ret (KR.ret (v := .tuple #[sl y12.1 (toL ((nv xs) / (nv ys))).length, sl y12.2 (toL ((nv xs) % (nv ys))).length, .bool true]) (⟨y12.1, y12.2⟩) [none, none, none] [0, 1] [] k_ v3_ (trivial) v3_)
theorem natural_Div_c (s : SA) (xs' : Nat) (t : SA) (ys' : Nat) (hxl : (toL xs').length ≤ 1099511627776) (hyl : (toL ys').length ≤ 1099511627776) : Spec Tryz.prog 117 #[sl s (toL xs').length, sl t (toL ys').length] [fU s (toL xs'), fU t (toL ys')] (ι := SA × SA) (fun y => .tuple #[sl y.1 (toL (xs' / ys')).length, sl y.2 (toL (if ys' = 0 then 0 else xs' % ys')).length, .bool (decide (ys' ≠ 0))]) (fun y => True) (fun y => [fU y.1 (toL (xs' / ys')), fU y.2 (toL (if ys' = 0 then 0 else xs' % ys'))]) := by
  have H := natural_Div s (toL xs') t (toL ys') (Lb_toL _) (Lb_toL _) (by first | exact hxl | simpa only [nv_toL, nv_toL] using hxl) (by first | exact hyl | simpa only [nv_toL, nv_toL] using hyl)
  first | exact H | (simp only [nv_toL, lv_toL, validU_toL] at H; exact H)
theorem natural_gcd (a : Nat) (b : Nat) (ha : a < 18446744073709551616) (hb : b < 18446744073709551616) : Spec Tryz.prog 137 #[.int .u64 ((a : Nat) : Int), .int .u64 ((b : Nat) : Int)] [] (ι := Unit) (fun y => .int .u64 ((Nat.gcd a b : Nat) : Int)) (fun y => True) (fun y => []) := by
  refine Spec.of_body _ (fn := Tryz.f137) k_ rfl k_ (fun X w0 => ?_)
  refine J.sreg ?_
  refine RN.bq (no 1) [0, 1] [] (k' := 1) (l' := [(0, .int .u64 ((a : Nat) : Int)), (1, .int .u64 ((b : Nat) : Int))]) k_ ?_
  refine RN.done k_ ?_
  refine KN.next ?_
  refine J.seq ?_
  refine J.block ?_
  refine J.loop (ι := (Nat) × (Nat)) (fun x => x.1 < 18446744073709551616 ∧ x.2 < 18446744073709551616 ∧ Nat.gcd x.1 x.2 = Nat.gcd a b) (fun x => x.2) (fun x => [(0, .int .u64 ((x.1 : Nat) : Int)), (1, .int .u64 ((x.2 : Nat) : Int))]) (fun x => []) (fun x => []) (a, b) [0, 1] [] (⟨ha, hb, rfl⟩) k_ (by first | rfl | (simp only [encQ_zero]; done) | (simp only [encQ_zero]; rfl)) (by rfl) (fun x1 hI => ?_)
  obtain ⟨c, d⟩ := x1
  replace hI : c < 18446744073709551616 ∧ d < 18446744073709551616 ∧ Nat.gcd c d = Nat.gcd a b := hI
  obtain ⟨hI1, hI2, hI3⟩ := hI
  refine J.seq ?_
  refine J.sreg ?_
  refine RN.bq (no 2) [0, 1, 6] [] (k' := 2) (l' := [(0, .int .u64 ((c : Nat) : Int)), (1, .int .u64 ((d : Nat) : Int)), (6, .bool ((((d : Nat) : Int) : Int) != 0))]) k_ ?_
  refine RN.done k_ ?_
  refine KN.next ?_
  refine J.cond ((((d : Nat) : Int) : Int) != 0) k_ (fun c2 => ?_) (fun c2 => ?_)
  · skip
    replace c2 := bne_iff_ne.1 c2
    refine J.skip ?_
    refine KN.next ?_
    refine J.block ?_
    refine J.regD k_ [] ?_
    refine RD.bat k_ [(0, none), (1, none), (2, none), (4, none)] [0, 8, 9] [] (L' := [4, 2, 1, 0]) (l' := [(0, .int .u64 ((d : Nat) : Int)), (8, .int .u64 ((c : Nat) : Int)), (9, .int .u64 ((d : Nat) : Int))]) k_ ?_
    refine RD.val (i := 3) _ k_ k_ k_ (q_rem (T := 91) (T' := 91) (x := (.tmp 8)) (y := (.tmp 9)) (k := .u64) (a := ((c : Nat) : Int)) (b := ((d : Nat) : Int)) k_ k_ k_ (by omega)) ?_
    rw [show Int.tmod ((c : Nat) : Int) ((d : Nat) : Int) = ((c % d : Nat) : Int) from by rw [show (((d : Nat) : Int) : Int) = ((d : Nat) : Int) from rfl, tmodn]]
    refine RD.bat k_ [(5, none)] [0, 1] [] (L' := [5, 3, 4, 2, 1, 0]) (l' := [(0, .int .u64 ((d : Nat) : Int)), (1, .int .u64 ((c % d : Nat) : Int))]) k_ ?_
    refine RD.done k_ ?_
    refine KN.blk ?_
    have hm := Nat.mod_lt c (show 0 < d by omega)
    refine KN.roundE (d, c % d) [0, 1] [] (l2 := [(0, .int .u64 ((d : Nat) : Int)), (1, .int .u64 ((c % d : Nat) : Int))]) (by (try dsimp only); exact hm) (by (try dsimp only); exact ⟨hI2, by omega, by rw [Nat.gcd_comm, ← Nat.gcd_rec, Nat.gcd_comm]; exact hI3⟩) k_ (by rfl) (by rfl) (by rfl)
  · skip
    replace c2 := bne_eq_false_iff_eq.1 c2
    refine J.exit (KX.next (KX.next (KX.hit ?_)))
    refine KN.next ?_
    refine J.sreg ?_
    refine RN.bq (no 2) [4] [] (k' := 2) (l' := [(4, .int .u64 ((c : Nat) : Int))]) k_ ?_
    refine RN.done k_ ?_
    refine KN.next ?_
    have hd : d = 0 := by omega
    subst hd
    have e_1 : (((Nat.gcd a b : Nat) : Int) : Int) = (((c : Nat) : Int) : Int) := by rw [← hI3]; simp
    refine J.ret (KR.ret (v := .int .u64 ((c : Nat) : Int)) (()) [none] [] [] k_ v1_ (trivial) v1_)
theorem y_natural_Gcd {p : Prop} (h : p := by first | assumption | exact Lb_toL _ | omega | (simp; done) | (split <;> omega)) : p := h
theorem natural_Gcd (s : SA) (xs : List Nat) (t : SA) (ys : List Nat) (hx : Lb xs) (hy : Lb ys) (hxl : xs.length ≤ 1099511627776) (hyl : ys.length ≤ 1099511627776) : Spec Tryz.prog 116 #[sl s xs.length, sl t ys.length] [fU s xs, fU t ys] (ι := SA) (fun y => sl y (toL (Nat.gcd (nv xs) (nv ys))).length) (fun y => True) (fun y => [fU y (toL (Nat.gcd (nv xs) (nv ys)))]) := by
  refine Spec.of_body _ (fn := Tryz.f116) k_ rfl k_ (fun X w0 => ?_)
  refine J.fact (φ := xs.length ≤ 140737488355328) (fun w h => by have := (h _ (.head _)).1; omega) (fun hl1 => ?_)
  refine J.fact (φ := ys.length ≤ 140737488355328) (fun w h => by have := (h _ (.tail _ ((.head _)))).1; omega) (fun hl2 => ?_)
  have hnx := toL_nv_len hx _ hxl
  have hny := toL_nv_len hy _ hyl
  refine J.sreg ?_
  refine RN.bq (no 1) [0, 1] [] (k' := 1) (l' := [(0, sl s xs.length), (1, sl t ys.length)]) k_ ?_
  refine RN.done k_ ?_
  refine KN.next ?_
  refine J.sreg ?_
  refine RN.bq (no 1) [1, 12] [] (k' := 1) (l' := [(1, sl t ys.length), (12, sl s xs.length)]) k_ ?_
  refine RN.call (natural_value s xs y_natural_Gcd) [0] k_ k_ k_ rfl (fun y3 _ => ?_)
  refine RN.bq (no 1) [13, 14] [] (k' := 3) (l' := [(13, sl y3 (toL (nv xs)).length), (14, sl t ys.length)]) k_ ?_
  refine RN.call (natural_value t ys y_natural_Gcd) [2] k_ k_ k_ rfl (fun y4 _ => ?_)
  refine RN.bq (no 2) [0, 1] [] (k' := 6) (l' := [(0, sl y3 (toL (nv xs)).length), (1, sl y4 (toL (nv ys)).length)]) k_ ?_
  refine RN.done k_ ?_
  refine KN.next ?_
  refine J.seq ?_
  refine J.block ?_
  refine J.loop (ι := (SA) × (Nat) × (SA) × (Nat)) (fun x => (toL x.2.1).length ≤ 1099511627776 ∧ (toL x.2.2.2).length ≤ 1099511627776 ∧ Nat.gcd x.2.1 x.2.2.2 = Nat.gcd (nv xs) (nv ys)) (fun x => x.2.2.2) (fun x => [(0, sl x.1 (toL x.2.1).length), (1, sl x.2.2.1 (toL x.2.2.2).length)]) (fun x => []) (fun x => [fU x.1 (toL x.2.1), fU x.2.2.1 (toL x.2.2.2), fU y4 (toL (nv ys)), fU y3 (toL (nv xs)), fU s xs, fU t ys]) (y3, nv xs, y4, nv ys) [0, 1] [1, 0, 0, 1, 2, 3] (⟨hnx, hny, rfl⟩) k_ (by first | rfl | (simp only [encQ_zero]; done) | (simp only [encQ_zero]; rfl)) (by rfl) (fun x5 hI => ?_)
  obtain ⟨sa, a, sb, b⟩ := x5
  replace hI : (toL a).length ≤ 1099511627776 ∧ (toL b).length ≤ 1099511627776 ∧ Nat.gcd a b = Nat.gcd (nv xs) (nv ys) := hI
  obtain ⟨hI1, hI2, hI3⟩ := hI
  refine J.seq ?_
  refine J.sreg ?_
  refine RN.bq (no 3) [0, 1, 18] [] (k' := 3) (l' := [(0, sl sa (toL a).length), (1, sl sb (toL b).length), (18, .bool (decide ((((toL b).length : Nat) : Int) > 0)))]) k_ ?_
  refine RN.done k_ ?_
  refine KN.next ?_
  refine J.cond (decide ((((toL b).length : Nat) : Int) > 0)) k_ (fun c6 => ?_) (fun c6 => ?_)
  · skip
    replace c6 := of_decide_eq_true c6
    have h0 : b ≠ 0 := toL_len_ne (by omega)
    refine J.skip ?_
    refine KN.next ?_
    refine J.block ?_
    refine J.sreg ?_
    refine RN.bq (no 1) [0, 1, 20] [] (k' := 1) (l' := [(0, sl sa (toL a).length), (1, sl sb (toL b).length), (20, sl sa (toL a).length)]) k_ ?_
    refine RN.call (natural_Uint_c sa a) [0] k_ k_ k_ rfl (fun y7 _ => ?_)
    refine RN.bq (no 5) [0, 1, 5, 6] [] (k' := 7) (l' := [(0, sl sa (toL a).length), (1, sl sb (toL b).length), (5, .int .u64 ((if a < 18446744073709551616 then a else 0 : Nat) : Int)), (6, .bool (decide (a < 18446744073709551616)))]) k_ ?_
    refine RN.done k_ ?_
    refine KN.next ?_
    refine J.seq ?_
    refine J.sreg ?_
    refine RN.bq (no 1) [0, 1, 5, 6, 25] [] (k' := 1) (l' := [(0, sl sa (toL a).length), (1, sl sb (toL b).length), (5, .int .u64 ((if a < 18446744073709551616 then a else 0 : Nat) : Int)), (6, .bool (decide (a < 18446744073709551616))), (25, sl sb (toL b).length)]) k_ ?_
    refine RN.call (natural_Uint_c sb b) [1] k_ k_ k_ rfl (fun y8 _ => ?_)
    refine RN.bq (no 5) [0, 1, 5, 6, 7, 8] [] (k' := 7) (l' := [(0, sl sa (toL a).length), (1, sl sb (toL b).length), (5, .int .u64 ((if a < 18446744073709551616 then a else 0 : Nat) : Int)), (6, .bool (decide (a < 18446744073709551616))), (7, .int .u64 ((if b < 18446744073709551616 then b else 0 : Nat) : Int)), (8, .bool (decide (b < 18446744073709551616)))]) k_ ?_
    refine RN.done k_ ?_
    refine KN.next ?_
    refine J.sreg ?_
    refine RN.bq (no 2) [0, 1, 5, 7, 8, 30] [] (k' := 2) (l' := [(0, sl sa (toL a).length), (1, sl sb (toL b).length), (5, .int .u64 ((if a < 18446744073709551616 then a else 0 : Nat) : Int)), (7, .int .u64 ((if b < 18446744073709551616 then b else 0 : Nat) : Int)), (8, .bool (decide (b < 18446744073709551616))), (30, .bool (decide (a < 18446744073709551616)))]) k_ ?_
    refine RN.split 30 (decide (a < 18446744073709551616)) k_ (fun c9 => ?_) (fun c9 => ?_)
    · skip
      replace c9 := of_decide_eq_true c9
      have ha64 : (if a < 18446744073709551616 then a else 0) = a := if_pos c9
      refine RN.bq (no 2) [0, 1, 5, 7, 32] [] (k' := 4) (l' := [(0, sl sa (toL a).length), (1, sl sb (toL b).length), (5, .int .u64 ((if a < 18446744073709551616 then a else 0 : Nat) : Int)), (7, .int .u64 ((if b < 18446744073709551616 then b else 0 : Nat) : Int)), (32, .bool (decide (b < 18446744073709551616)))]) k_ ?_
      refine RN.done k_ ?_
      refine KN.next ?_
      refine J.cond (decide (b < 18446744073709551616)) k_ (fun c10 => ?_) (fun c10 => ?_)
      · skip
        replace c10 := of_decide_eq_true c10
        have hb64 : (if b < 18446744073709551616 then b else 0) = b := if_pos c10
        have hgl : Nat.gcd a b < 18446744073709551616 := Nat.lt_of_le_of_lt (Nat.le_of_dvd (Nat.pos_of_ne_zero h0) (Nat.gcd_dvd_right a b)) c10
        refine J.sreg ?_
        refine RN.bq (no 2) [33, 34] [] (k' := 2) (l' := [(33, .int .u64 ((if a < 18446744073709551616 then a else 0 : Nat) : Int)), (34, .int .u64 ((if b < 18446744073709551616 then b else 0 : Nat) : Int))]) k_ ?_
        refine RN.call (natural_gcd (if a < 18446744073709551616 then a else 0) (if b < 18446744073709551616 then b else 0) y_natural_Gcd y_natural_Gcd) [] k_ k_ k_ rfl (fun y11 _ => ?_)
        rw [show (Nat.gcd (if a < 18446744073709551616 then a else 0) (if b < 18446744073709551616 then b else 0)) = Nat.gcd a b from by rw [ha64, hb64]]
        refine RN.call (natural_FromUint (Nat.gcd a b) y_natural_Gcd) [] k_ k_ k_ rfl (fun y12 _ => ?_)
        refine RN.bq (no 1) [4] [] (k' := 5) (l' := [(4, sl y12 (toL (Nat.gcd a b)).length)]) k_ ?_
        refine RN.done k_ ?_
        refine KN.next ?_
        have e_1 : (toL (Nat.gcd (nv xs) (nv ys))) = (toL (Nat.gcd a b)) := by simp [← hI3, h0]
        refine J.ret (KR.next (KR.blk (KR.next (KR.blk (KR.next (KR.ret (v := sl y12 (toL (Nat.gcd a b)).length) (y12) [none] [0] [] k_ v1_ (trivial) v1_))))))
      · skip
        replace c10 := of_decide_eq_false c10
        refine J.skip ?_
        refine KN.next ?_
        refine J.sreg ?_
        refine RN.bq (no 2) [1, 38, 39] [] (k' := 2) (l' := [(1, sl sb (toL b).length), (38, sl sa (toL a).length), (39, sl sb (toL b).length)]) k_ ?_
        refine RN.call (natural_Div_c sa a sb b y_natural_Gcd y_natural_Gcd) [0, 1] k_ k_ k_ rfl (fun y13 _ => ?_)
        rw [show (if b = 0 then 0 else a % b) = a % b from if_neg h0]
        refine RN.bq (no 7) [1, 10] [] (k' := 10) (l' := [(1, sl sb (toL b).length), (10, sl y13.2 (toL (a % b)).length)]) k_ ?_
        refine RN.done k_ ?_
        refine KN.next ?_
        refine J.regN ?_
        refine RN.bq (no 4) [0, 1] [] (k' := 4) (l' := [(0, sl sb (toL b).length), (1, sl y13.2 (toL (a % b)).length)]) k_ ?_
        refine RN.done k_ ?_
        refine KN.blk ?_
        have hm := Nat.mod_lt a (Nat.pos_of_ne_zero h0)
        refine KN.roundE (sb, b, y13.2, a % b) [0, 1] [3, 1, 4, 5, 6, 7] (l2 := [(0, sl sb (toL b).length), (1, sl y13.2 (toL (a % b)).length)]) (by (try dsimp only); exact hm) (by (try dsimp only); exact ⟨hI2, Nat.le_trans (length_toL_mono (Nat.le_of_lt hm)) hI2, by rw [Nat.gcd_comm, ← Nat.gcd_rec, Nat.gcd_comm]; exact hI3⟩) k_ (by rfl) (by rfl) (by rfl)
    · skip
      replace c9 := of_decide_eq_false c9
      refine RN.bq (no 2) [0, 1, 5, 7, 32] [] (k' := 4) (l' := [(0, sl sa (toL a).length), (1, sl sb (toL b).length), (5, .int .u64 ((if a < 18446744073709551616 then a else 0 : Nat) : Int)), (7, .int .u64 ((if b < 18446744073709551616 then b else 0 : Nat) : Int)), (32, .bool false)]) k_ ?_
      refine RN.done k_ ?_
      refine KN.next ?_
      refine J.condF k_ ?_
      refine J.skip ?_
      refine KN.next ?_
      refine J.sreg ?_
      refine RN.bq (no 2) [1, 38, 39] [] (k' := 2) (l' := [(1, sl sb (toL b).length), (38, sl sa (toL a).length), (39, sl sb (toL b).length)]) k_ ?_
      refine RN.call (natural_Div_c sa a sb b y_natural_Gcd y_natural_Gcd) [0, 1] k_ k_ k_ rfl (fun y14 _ => ?_)
      rw [show (if b = 0 then 0 else a % b) = a % b from if_neg h0]
      refine RN.bq (no 7) [1, 10] [] (k' := 10) (l' := [(1, sl sb (toL b).length), (10, sl y14.2 (toL (a % b)).length)]) k_ ?_
      refine RN.done k_ ?_
      refine KN.next ?_
      refine J.regN ?_
      refine RN.bq (no 4) [0, 1] [] (k' := 4) (l' := [(0, sl sb (toL b).length), (1, sl y14.2 (toL (a % b)).length)]) k_ ?_
      refine RN.done k_ ?_
      refine KN.blk ?_
      have hm := Nat.mod_lt a (Nat.pos_of_ne_zero h0)
      refine KN.roundE (sb, b, y14.2, a % b) [0, 1] [3, 1, 4, 5, 6, 7] (l2 := [(0, sl sb (toL b).length), (1, sl y14.2 (toL (a % b)).length)]) (by (try dsimp only); exact hm) (by (try dsimp only); exact ⟨hI2, Nat.le_trans (length_toL_mono (Nat.le_of_lt hm)) hI2, by rw [Nat.gcd_comm, ← Nat.gcd_rec, Nat.gcd_comm]; exact hI3⟩) k_ (by rfl) (by rfl) (by rfl)
  · skip
    replace c6 := of_decide_eq_false c6
    have h0 : b = 0 := toL_len_eq (by omega)
    refine J.exit (KX.next (KX.next (KX.hit ?_)))
    refine KN.next ?_
    refine J.sreg ?_
    refine RN.bq (no 1) [46] [] (k' := 1) (l' := [(46, sl sa (toL a).length)]) k_ ?_
    refine RN.call (slices_Clone_u32 sa (toL a) y_natural_Gcd) [0] k_ k_ k_ rfl (fun y15 _ => ?_)
    refine RN.bq (no 1) [4] [] (k' := 3) (l' := [(4, sl y15 (toL a).length)]) k_ ?_
    refine RN.done k_ ?_
    refine KN.next ?_
    have e_1 : (toL (Nat.gcd (nv xs) (nv ys))) = (toL a) := by simp [← hI3, h0]
    refine J.ret (KR.ret (v := sl y15 (toL a).length) (y15) [none] [0] [] k_ v1_ (trivial) v1_)
theorem natural_Gcd_c (s : SA) (xs' : Nat) (t : SA) (ys' : Nat) (hxl : (toL xs').length ≤ 1099511627776) (hyl : (toL ys').length ≤ 1099511627776) : Spec Tryz.prog 116 #[sl s (toL xs').length, sl t (toL ys').length] [fU s (toL xs'), fU t (toL ys')] (ι := SA) (fun y => sl y (toL (Nat.gcd xs' ys')).length) (fun y => True) (fun y => [fU y (toL (Nat.gcd xs' ys'))]) := by
  have H := natural_Gcd s (toL xs') t (toL ys') (Lb_toL _) (Lb_toL _) (by first | exact hxl | simpa only [nv_toL, nv_toL] using hxl) (by first | exact hyl | simpa only [nv_toL, nv_toL] using hyl)
  first | exact H | (simp only [nv_toL, lv_toL, validU_toL] at H; exact H)
end Go.Proofs.YtegnonhgildhoaaGreat.E
