/- Lemmas and contracts of functions on the way to the law, part 3. -/
import Derived.Test.YtbiifkfbkaejlaaGreatA2
namespace Go.Proofs.YtbiifkfbkaejlaaGreat.E
open Go Go.RowKit
set_option linter.unusedVariables false
set_option linter.unusedSimpArgs false
theorem fU_none {s : SA} {xs : List Nat} {w : World} (h : fU s xs w) (hs : s.A.isNone = true) : xs = [] := by
  cases xs with
  | nil => rfl
  | cons a r =>
    have := (h.2 0 (by simp)).1
    rw [this] at hs; cases hs
theorem slices_Clone_u32 (s : SA) (xs : List Nat) (hxl : xs.length ≤ 1099511627776) : Spec Tryz.prog 158 #[sl s xs.length] [fU s xs] (ι := SA) (fun y => sl y xs.length) (fun y => True) (fun y => [fU y xs]) := by
 refine Spec.of_body _ (fn := Tryz.f158) k_ rfl k_ (fun X w0 => ?_)
 refine J.fact (φ := xs.length ≤ 140737488355328) (fun w h => by have := (h _ (.head _)).1; omega) (fun hl1 => ?_)
 refine J.fact (φ := s.A.isNone = true → xs = []) (fun w h => fU_none (h _ (.head _))) (fun hnil => ?_)
 refine J.sreg ?_
 refine RN.bq (no 1) [0] [] 1 [(0, sl s xs.length)] k_ ?_
 refine RN.fin k_ ?_
 refine J.seq ?_
 refine J.sreg ?_
 refine RN.bq (no 1) [0, 3] [] 1 [(0, sl s xs.length), (3, sl s xs.length)] k_ ?_
 refine RN.val _ k_ k_ (q_nileq (T := 36) (T' := 36) (x := (.tmp 3)) (y := (.const (.slice none 0 0))) (A := s.A) (e := 107) (k := xs.length) (c := s.c) k_ k_ k_ k_) ?_
 refine RN.fin k_ ?_
 refine J.cond (s.A.isNone) k_ (fun c2 => ?_) (fun c2 => ?_)
 ·refine J.sreg ?_
  refine RN.bq (no 1) [2] [] 1 [(2, .slice none 0 0)] k_ ?_
  refine RN.fin k_ ?_
  have e_1 : xs = ([] : List Nat) := by rw [hnil ‹_›]
  refine J.also (fU saNil ([] : List Nat)) (fun w h => fU_nil w) ?_
  refine J.ret (KR.next (KR.ret (v := .slice none 0 0) (saNil) [none] [0] [] k_ v1_ (trivial) v1_))
 ·refine J.skip ?_
  refine KN.next ?_
  refine J.sreg ?_
  refine RN.new (fun b => .slice (some ⟨b, 0, none⟩) 0 0) (.cells (encU ([] : List Nat)) 107 (0, 0)) k_ k_ (fun w => by kernel_rfl) (fun b3 => ?_)
  refine RN.bq (no 1) [5, 6] [] 2 [(5, .slice (some ⟨b3, 0, none⟩) 0 0), (6, sl s xs.length)] k_ ?_
  refine RN.ot k_ k_ (ot_ucat (T := 36) (e := 107) (by_ := 4) (x := (.tmp 5)) (y := (.tmp 6)) (go := (some ⟨b3, 0, #[]⟩)) (zs := ([] : List Nat)) (xs := xs) (s := s) 0 [] ([]) rfl rfl k_ k_ k_ k_ k_ k_ (⟨Nat.le_refl _, Nat.le_refl _⟩) x_ x_) (fun g4 hg5 => ?_)
  refine RN.bq (no 1) [2] [] 4 [(2, sl (glS g4) xs.length)] k_ ?_
  refine RN.fin k_ ?_
  refine J.shareG [] ([]) rfl (fU (glS g4) xs) (fun w hb h => fU_gl hb (by assumption) x_) ?_
  refine J.ret (KR.ret (v := sl (glS g4) xs.length) (glS g4) [none] [0] [] k_ rfl (trivial) rfl)
theorem toL_one {n : Nat} (h : (toL n).length = 1) : (toL n).getD 0 0 = n := by
  have := val_toL h
  rw [svl_succ, svl_zero] at this
  simpa using this
theorem toL_len_ne {n : Nat} (h : (toL n).length ≠ 0) : n ≠ 0 := fun e => h (by rw [e, toL_zero]; rfl)
theorem toL_len_eq {n : Nat} (h : (toL n).length = 0) : n = 0 := toL_nil.1 (List.length_eq_zero_iff.1 h)
theorem y_natural_Div {p : Prop} (h : p := by first | assumption | exact Lb_toL _ | omega | (simp; done) | (rw [h1] at *; omega)) : p := h
theorem natural_Div (s : SA) (xs : List Nat) (t : SA) (ys : List Nat) (hx : Lb xs) (hy : Lb ys) (hxl : xs.length ≤ 1099511627776) (hyl : ys.length ≤ 1099511627776) : Spec Tryz.prog 142 #[sl s xs.length, sl t ys.length] [fU s xs, fU t ys] (ι := SA × SA) (fun y => .tuple #[sl y.1 (toL (nv xs / nv ys)).length, sl y.2 (toL (if nv ys = 0 then 0 else nv xs % nv ys)).length, .bool (decide (nv ys ≠ 0))]) (fun y => True) (fun y => [fU y.1 (toL (nv xs / nv ys)), fU y.2 (toL (if nv ys = 0 then 0 else nv xs % nv ys))]) := by
 refine Spec.of_body _ (fn := Tryz.f142) k_ rfl k_ (fun X w0 => ?_)
 refine J.fact (φ := xs.length ≤ 140737488355328) (fun w h => by have := (h _ (.head _)).1; omega) (fun hl1 => ?_)
 refine J.fact (φ := ys.length ≤ 140737488355328) (fun w h => by have := (h _ (.tail _ ((.head _)))).1; omega) (fun hl2 => ?_)
 have hnx := toL_nv_len hx _ hxl
 have hny := toL_nv_len hy _ hyl
 refine J.sreg ?_
 refine RN.bq (no 3) [0, 1] [] 3 [(0, sl s xs.length), (1, sl t ys.length)] k_ ?_
 refine RN.fs k_ ?_
 refine RN.bq (no 1) [1, 9] [] 1 [(1, sl t ys.length), (9, sl s xs.length)] k_ ?_
 refine RN.call (natural_value s xs y_natural_Div) [0] k_ k_ k_ rfl (fun y3 _ => ?_)
 refine RN.bq (no 1) [10, 11] [] 3 [(10, sl y3 (toL (nv xs)).length), (11, sl t ys.length)] k_ ?_
 refine RN.call (natural_value t ys y_natural_Div) [2] k_ k_ k_ rfl (fun y4 _ => ?_)
 refine RN.bq (no 2) [0, 1] [] 6 [(0, sl y3 (toL (nv xs)).length), (1, sl y4 (toL (nv ys)).length)] k_ ?_
 refine RN.fin k_ ?_
 refine J.seq ?_
 refine J.block ?_
 refine J.sreg ?_
 refine RN.bq (no 4) [0, 1, 13] [] 4 [(0, sl y3 (toL (nv xs)).length), (1, sl y4 (toL (nv ys)).length), (13, .bool (((((toL (nv ys)).length : Nat) : Int) : Int) == 0))] k_ ?_
 refine RN.fin k_ ?_
 refine J.cond (((((toL (nv ys)).length : Nat) : Int) : Int) == 0) k_ (fun c5 => ?_) (fun c5 => ?_)
 ·replace c5 := eq_of_beq c5
  have h0 : nv ys = 0 := toL_len_eq (by omega)
  refine J.sreg ?_
  refine RN.bq (no 3) [4, 5, 6] [] 3 [(4, .slice none 0 0), (5, .slice none 0 0), (6, .bool false)] k_ ?_
  refine RN.fin k_ ?_
  have e_1 : (toL (nv xs / nv ys)) = ([] : List Nat) := by simp [h0, toL_zero]
  have e_2 : (toL (if nv ys = 0 then 0 else nv xs % nv ys)) = ([] : List Nat) := by simp [h0, toL_zero]
  have e_3 : (decide (nv ys ≠ 0)) = false := by simp [h0, toL_zero]
  refine J.also (fU saNil ([] : List Nat)) (fun w h => fU_nil w) ?_
  refine J.ret (KR.blk (KR.next (KR.ret (v := .tuple #[.slice none 0 0, .slice none 0 0, .bool false]) (⟨saNil, saNil⟩) [none, none, none] [0, 0] [] k_ v3_ (trivial) v3_)))
 ·replace c5 := ne_of_beq_false c5
  have h0 : nv ys ≠ 0 := toL_len_ne (by omega)
  refine J.sreg ?_
  refine RN.bq (no 2) [0, 1, 18, 19] [] 2 [(0, sl y3 (toL (nv xs)).length), (1, sl y4 (toL (nv ys)).length), (18, sl y3 (toL (nv xs)).length), (19, sl y4 (toL (nv ys)).length)] k_ ?_
  refine RN.call (natural_Compare_c y3 (nv xs) y4 (nv ys)) [1, 0] k_ k_ k_ rfl (fun y6 _ => ?_)
  refine RN.bq (no 2) [0, 1, 17] [] 5 [(0, sl y3 (toL (nv xs)).length), (1, sl y4 (toL (nv ys)).length), (17, .bool (decide ((cmpN (nv xs) (nv ys)) < 0)))] k_ ?_
  refine RN.fin k_ ?_
  refine J.cond (decide ((cmpN (nv xs) (nv ys)) < 0)) k_ (fun c7 => ?_) (fun c7 => ?_)
  ·replace c7 := of_decide_eq_true c7
   have hlt := cmpN_neg.1 c7
   refine J.sreg ?_
   refine RN.bq (no 1) [22] [] 1 [(22, sl y3 (toL (nv xs)).length)] k_ ?_
   refine RN.call (slices_Clone_u32 y3 (toL (nv xs)) y_natural_Div) [1] k_ k_ k_ rfl (fun y8 _ => ?_)
   refine RN.bq (no 3) [4, 5, 6] [] 5 [(4, .slice none 0 0), (5, sl y8 (toL (nv xs)).length), (6, .bool true)] k_ ?_
   refine RN.fin k_ ?_
   have e_1 : (toL (nv xs / nv ys)) = ([] : List Nat) := by simp [h0, Nat.div_eq_of_lt hlt, Nat.mod_eq_of_lt hlt, toL_zero]
   have e_2 : (toL (if nv ys = 0 then 0 else nv xs % nv ys)) = (toL (nv xs)) := by simp [h0, Nat.div_eq_of_lt hlt, Nat.mod_eq_of_lt hlt, toL_zero]
   have e_3 : (decide (nv ys ≠ 0)) = true := by simp [h0, Nat.div_eq_of_lt hlt, Nat.mod_eq_of_lt hlt, toL_zero]
   refine J.also (fU saNil ([] : List Nat)) (fun w h => fU_nil w) ?_
   refine J.ret (KR.blk (KR.next (KR.ret (v := .tuple #[.slice none 0 0, sl y8 (toL (nv xs)).length, .bool true]) (⟨saNil, y8⟩) [none, none, none] [0, 1] [] k_ v3_ (trivial) v3_)))
  ·replace c7 := of_decide_eq_false c7
   have hle := cmp_le c7
   refine J.sreg ?_
   refine RN.bq (no 4) [0, 1, 24] [] 4 [(0, sl y3 (toL (nv xs)).length), (1, sl y4 (toL (nv ys)).length), (24, .bool (((((toL (nv ys)).length : Nat) : Int) : Int) == 1))] k_ ?_
   refine RN.fin k_ ?_
   refine J.cond (((((toL (nv ys)).length : Nat) : Int) : Int) == 1) k_ (fun c9 => ?_) (fun c9 => ?_)
   ·replace c9 := eq_of_beq c9
    have h1 := toL_one (n := nv ys) (by omega)
    have hlt : (toL (nv ys)).getD 0 0 < 4294967296 := (Lb_toL _).getD 0
    have hmod := Nat.mod_lt (nv xs) (show 0 < (toL (nv ys)).getD 0 0 by rw [h1]; omega)
    refine J.sreg ?_
    refine RN.bq (no 2) [29, 30] [] 2 [(29, sl y3 (toL (nv xs)).length), (30, sl y4 (toL (nv ys)).length)] k_ ?_
    refine RN.val _ k_ k_ (q_uidx (t := 36) (x := (.tmp 30)) (ix := (.const (.int .i64 0))) (K := .i64) (i0 := 0) (m := 0) (e := 107) 0 rfl k_ k_ k_ k_ k_ (by omega) x_) ?_
    refine RN.val _ k_ k_ (q_uload (T := 107) (x := (.tmp 31)) (m := 0) (s := y4) (xs := toL (nv ys)) 0 rfl k_ k_ k_ x_) ?_
    refine RN.call (natural_short y3 (nv xs) ((toL (nv ys)).getD 0 0) y_natural_Div y_natural_Div y_natural_Div) [1] k_ k_ k_ rfl (fun y10 _ => ?_)
    refine RN.bq (no 5) [7, 8] [] 10 [(7, sl y10 (toL ((nv xs) / ((toL (nv ys)).getD 0 0))).length), (8, .int .u32 (((nv xs) % ((toL (nv ys)).getD 0 0) : Nat) : Int))] k_ ?_
    refine RN.fs k_ ?_
    refine RN.bq (no 3) [36, 38] [] 3 [(36, sl y10 (toL ((nv xs) / ((toL (nv ys)).getD 0 0))).length), (38, .int .u64 (IntKind.u64.wrap (((nv xs) % ((toL (nv ys)).getD 0 0) : Nat) : Int)))] k_ ?_
    rw [show IntKind.u64.wrap (((nv xs) % ((toL (nv ys)).getD 0 0) : Nat) : Int) = (((nv xs) % ((toL (nv ys)).getD 0 0) : Nat) : Int) from uw64b ((nv xs) % ((toL (nv ys)).getD 0 0)) (by rfl) (by omega)]
    refine RN.call (natural_FromUint ((nv xs) % ((toL (nv ys)).getD 0 0)) y_natural_Div) [] k_ k_ k_ rfl (fun y11 _ => ?_)
    refine RN.bq (no 3) [4, 5, 6] [] 7 [(4, sl y10 (toL ((nv xs) / ((toL (nv ys)).getD 0 0))).length), (5, sl y11 (toL ((nv xs) % ((toL (nv ys)).getD 0 0))).length), (6, .bool true)] k_ ?_
    refine RN.fin k_ ?_
    have e_1 : (toL (nv xs / nv ys)) = (toL ((nv xs) / ((toL (nv ys)).getD 0 0))) := by first | (rw [h1]; done) | (rw [h1, if_neg h0]; done) | simp [h0]
    have e_2 : (toL (if nv ys = 0 then 0 else nv xs % nv ys)) = (toL ((nv xs) % ((toL (nv ys)).getD 0 0))) := by first | (rw [h1]; done) | (rw [h1, if_neg h0]; done) | simp [h0]
    have e_3 : (decide (nv ys ≠ 0)) = true := by first | (rw [h1]; done) | (rw [h1, if_neg h0]; done) | simp [h0]
    refine J.ret (KR.blk (KR.next (KR.ret (v := .tuple #[sl y10 (toL ((nv xs) / ((toL (nv ys)).getD 0 0))).length, sl y11 (toL ((nv xs) % ((toL (nv ys)).getD 0 0))).length, .bool true]) (⟨y10, y11⟩) [none, none, none] [1, 0] [] k_ v3_ (trivial) v3_)))
   ·replace c9 := ne_of_beq_false c9
    have hab := length_toL_mono hle
    refine J.skip ?_
    refine KN.blk ?_
    refine KN.next ?_
    refine J.sreg ?_
    refine RN.bq (no 2) [41, 42] [] 2 [(41, sl y3 (toL (nv xs)).length), (42, sl y4 (toL (nv ys)).length)] k_ ?_
    refine RN.call (natural_divide y3 (nv xs) y4 (nv ys) y_natural_Div y_natural_Div y_natural_Div) [1, 0] k_ k_ k_ rfl (fun y12 _ => ?_)
    refine RN.bq (no 5) [4, 5] [] 8 [(4, sl y12.1 (toL ((nv xs) / (nv ys))).length), (5, sl y12.2 (toL ((nv xs) % (nv ys))).length)] k_ ?_
    refine RN.fs k_ ?_
    refine RN.bq (no 5) [4, 5, 6] [] 5 [(4, sl y12.1 (toL ((nv xs) / (nv ys))).length), (5, sl y12.2 (toL ((nv xs) % (nv ys))).length), (6, .bool true)] k_ ?_
    refine RN.fin k_ ?_
    have e_1 : (toL (nv xs / nv ys)) = (toL ((nv xs) / (nv ys))) := by simp [h0]
    have e_2 : (toL (if nv ys = 0 then 0 else nv xs % nv ys)) = (toL ((nv xs) % (nv ys))) := by simp [h0]
    have e_3 : (decide (nv ys ≠ 0)) = true := by simp [h0]
    refine J.ret (KR.ret (v := .tuple #[sl y12.1 (toL ((nv xs) / (nv ys))).length, sl y12.2 (toL ((nv xs) % (nv ys))).length, .bool true]) (⟨y12.1, y12.2⟩) [none, none, none] [0, 1] [] k_ v3_ (trivial) v3_)
theorem natural_Div_c (s : SA) (xs' : Nat) (t : SA) (ys' : Nat) (hxl : (toL xs').length ≤ 1099511627776) (hyl : (toL ys').length ≤ 1099511627776) : Spec Tryz.prog 142 #[sl s (toL xs').length, sl t (toL ys').length] [fU s (toL xs'), fU t (toL ys')] (ι := SA × SA) (fun y => .tuple #[sl y.1 (toL (xs' / ys')).length, sl y.2 (toL (if ys' = 0 then 0 else xs' % ys')).length, .bool (decide (ys' ≠ 0))]) (fun y => True) (fun y => [fU y.1 (toL (xs' / ys')), fU y.2 (toL (if ys' = 0 then 0 else xs' % ys'))]) := by
  have H := natural_Div s (toL xs') t (toL ys') (Lb_toL _) (Lb_toL _) (by first | exact hxl | simpa only [nv_toL, nv_toL] using hxl) (by first | exact hyl | simpa only [nv_toL, nv_toL] using hyl)
  first | exact H | (simp only [nv_toL, lv_toL, validU_toL] at H; exact H)
theorem natural_gcd (a : Nat) (b : Nat) (ha : a < 18446744073709551616) (hb : b < 18446744073709551616) : Spec Tryz.prog 157 #[.int .u64 ((a : Nat) : Int), .int .u64 ((b : Nat) : Int)] [] (ι := Unit) (fun y => .int .u64 ((Nat.gcd a b : Nat) : Int)) (fun y => True) (fun y => []) := by
 refine Spec.of_body _ (fn := Tryz.f157) k_ rfl k_ (fun X w0 => ?_)
 refine J.sreg ?_
 refine RN.bq (no 1) [0, 1] [] 1 [(0, .int .u64 ((a : Nat) : Int)), (1, .int .u64 ((b : Nat) : Int))] k_ ?_
 refine RN.fin k_ ?_
 refine J.seq ?_
 refine J.block ?_
 refine J.loop (ι := (Nat) × (Nat)) (fun x => x.1 < 18446744073709551616 ∧ x.2 < 18446744073709551616 ∧ Nat.gcd x.1 x.2 = Nat.gcd a b) (fun x => x.2) (fun x => [(0, .int .u64 ((x.1 : Nat) : Int)), (1, .int .u64 ((x.2 : Nat) : Int))]) (fun x => []) (fun x => []) (a, b) [0, 1] [] (⟨ha, hb, rfl⟩) k_ (by first | rfl | (simp only [encQ_zero]; done) | (simp only [encQ_zero]; rfl)) (by rfl) (fun x1 hI => ?_)
 obtain ⟨c, d⟩ := x1
 replace hI : c < 18446744073709551616 ∧ d < 18446744073709551616 ∧ Nat.gcd c d = Nat.gcd a b := hI
 obtain ⟨hI1, hI2, hI3⟩ := hI
 refine J.seq ?_
 refine J.sreg ?_
 refine RN.bq (no 2) [0, 1, 6] [] 2 [(0, .int .u64 ((c : Nat) : Int)), (1, .int .u64 ((d : Nat) : Int)), (6, .bool ((((d : Nat) : Int) : Int) != 0))] k_ ?_
 refine RN.fin k_ ?_
 refine J.cond ((((d : Nat) : Int) : Int) != 0) k_ (fun c2 => ?_) (fun c2 => ?_)
 ·replace c2 := bne_iff_ne.1 c2
  refine J.skip ?_
  refine KN.next ?_
  refine J.block ?_
  refine J.regD k_ [] ?_
  refine RD.bq (nl [0, 1, 2, 4]) [0, 8, 9] [] [(0, .int .u64 ((d : Nat) : Int)), (8, .int .u64 ((c : Nat) : Int)), (9, .int .u64 ((d : Nat) : Int))] k_ k_ ?_
  refine RD.val (i := 3) _ k_ k_ k_ (q_rem (T := 109) (T' := 109) (x := (.tmp 8)) (y := (.tmp 9)) (k := .u64) (a := ((c : Nat) : Int)) (b := ((d : Nat) : Int)) k_ k_ k_ (by omega)) ?_
  rw [show Int.tmod ((c : Nat) : Int) ((d : Nat) : Int) = ((c % d : Nat) : Int) from by rw [show (((d : Nat) : Int) : Int) = ((d : Nat) : Int) from rfl, tmodn]]
  refine RD.bq (nl [5]) [0, 1] [] [(0, .int .u64 ((d : Nat) : Int)), (1, .int .u64 ((c % d : Nat) : Int))] k_ k_ ?_
  refine RD.done k_ ?_
  refine KN.blk ?_
  have hm := Nat.mod_lt c (show 0 < d by omega)
  refine KN.roundE (d, c % d) [0, 1] [] (l2 := [(0, .int .u64 ((d : Nat) : Int)), (1, .int .u64 ((c % d : Nat) : Int))]) (by (try dsimp only); exact hm) (by (try dsimp only); exact ⟨hI2, by omega, by rw [Nat.gcd_comm, ← Nat.gcd_rec, Nat.gcd_comm]; exact hI3⟩) k_ (by rfl) (by rfl) (by rfl)
 ·replace c2 := bne_eq_false_iff_eq.1 c2
  refine J.exit (KX.next (KX.next (KX.hit ?_)))
  refine KN.next ?_
  refine J.sreg ?_
  refine RN.bq (no 2) [4] [] 2 [(4, .int .u64 ((c : Nat) : Int))] k_ ?_
  refine RN.fin k_ ?_
  have hd : d = 0 := by omega
  subst hd
  have e_1 : (((Nat.gcd a b : Nat) : Int) : Int) = (((c : Nat) : Int) : Int) := by rw [← hI3]; simp
  refine J.ret (KR.ret (v := .int .u64 ((c : Nat) : Int)) (()) [none] [] [] k_ v1_ (trivial) v1_)
theorem y_natural_Gcd {p : Prop} (h : p := by first | assumption | exact Lb_toL _ | omega | (simp; done) | (split <;> omega)) : p := h
theorem natural_Gcd (s : SA) (xs : List Nat) (t : SA) (ys : List Nat) (hx : Lb xs) (hy : Lb ys) (hxl : xs.length ≤ 1099511627776) (hyl : ys.length ≤ 1099511627776) : Spec Tryz.prog 141 #[sl s xs.length, sl t ys.length] [fU s xs, fU t ys] (ι := SA) (fun y => sl y (toL (Nat.gcd (nv xs) (nv ys))).length) (fun y => True) (fun y => [fU y (toL (Nat.gcd (nv xs) (nv ys)))]) := by
 refine Spec.of_body _ (fn := Tryz.f141) k_ rfl k_ (fun X w0 => ?_)
 refine J.fact (φ := xs.length ≤ 140737488355328) (fun w h => by have := (h _ (.head _)).1; omega) (fun hl1 => ?_)
 refine J.fact (φ := ys.length ≤ 140737488355328) (fun w h => by have := (h _ (.tail _ ((.head _)))).1; omega) (fun hl2 => ?_)
 have hnx := toL_nv_len hx _ hxl
 have hny := toL_nv_len hy _ hyl
 refine J.sreg ?_
 refine RN.bq (no 1) [0, 1] [] 1 [(0, sl s xs.length), (1, sl t ys.length)] k_ ?_
 refine RN.fs k_ ?_
 refine RN.bq (no 1) [1, 12] [] 1 [(1, sl t ys.length), (12, sl s xs.length)] k_ ?_
 refine RN.call (natural_value s xs y_natural_Gcd) [0] k_ k_ k_ rfl (fun y3 _ => ?_)
 refine RN.bq (no 1) [13, 14] [] 3 [(13, sl y3 (toL (nv xs)).length), (14, sl t ys.length)] k_ ?_
 refine RN.call (natural_value t ys y_natural_Gcd) [2] k_ k_ k_ rfl (fun y4 _ => ?_)
 refine RN.bq (no 2) [0, 1] [] 6 [(0, sl y3 (toL (nv xs)).length), (1, sl y4 (toL (nv ys)).length)] k_ ?_
 refine RN.fin k_ ?_
 refine J.seq ?_
 refine J.block ?_
 refine J.loop (ι := (SA) × (Nat) × (SA) × (Nat)) (fun x => (toL x.2.1).length ≤ 1099511627776 ∧ (toL x.2.2.2).length ≤ 1099511627776 ∧ Nat.gcd x.2.1 x.2.2.2 = Nat.gcd (nv xs) (nv ys)) (fun x => x.2.2.2) (fun x => [(0, sl x.1 (toL x.2.1).length), (1, sl x.2.2.1 (toL x.2.2.2).length)]) (fun x => []) (fun x => [fU x.1 (toL x.2.1), fU x.2.2.1 (toL x.2.2.2), fU y4 (toL (nv ys)), fU y3 (toL (nv xs)), fU s xs, fU t ys]) (y3, nv xs, y4, nv ys) [0, 1] [1, 0, 0, 1, 2, 3] (⟨hnx, hny, rfl⟩) k_ (by first | rfl | (simp only [encQ_zero]; done) | (simp only [encQ_zero]; rfl)) (by rfl) (fun x5 hI => ?_)
 obtain ⟨sa, a, sb, b⟩ := x5
 replace hI : (toL a).length ≤ 1099511627776 ∧ (toL b).length ≤ 1099511627776 ∧ Nat.gcd a b = Nat.gcd (nv xs) (nv ys) := hI
 obtain ⟨hI1, hI2, hI3⟩ := hI
 refine J.seq ?_
 refine J.sreg ?_
 refine RN.bq (no 3) [0, 1, 18] [] 3 [(0, sl sa (toL a).length), (1, sl sb (toL b).length), (18, .bool (decide ((((toL b).length : Nat) : Int) > 0)))] k_ ?_
 refine RN.fin k_ ?_
 refine J.cond (decide ((((toL b).length : Nat) : Int) > 0)) k_ (fun c6 => ?_) (fun c6 => ?_)
 ·replace c6 := of_decide_eq_true c6
  have h0 : b ≠ 0 := toL_len_ne (by omega)
  refine J.skip ?_
  refine KN.next ?_
  refine J.block ?_
  refine J.sreg ?_
  refine RN.bq (no 1) [0, 1, 20] [] 1 [(0, sl sa (toL a).length), (1, sl sb (toL b).length), (20, sl sa (toL a).length)] k_ ?_
  refine RN.call (natural_Uint_c sa a) [0] k_ k_ k_ rfl (fun y7 _ => ?_)
  refine RN.bq (no 5) [0, 1, 5, 6] [] 7 [(0, sl sa (toL a).length), (1, sl sb (toL b).length), (5, .int .u64 ((if a < 18446744073709551616 then a else 0 : Nat) : Int)), (6, .bool (decide (a < 18446744073709551616)))] k_ ?_
  refine RN.fin k_ ?_
  refine J.seq ?_
  refine J.sreg ?_
  refine RN.bq (no 1) [0, 1, 5, 6, 25] [] 1 [(0, sl sa (toL a).length), (1, sl sb (toL b).length), (5, .int .u64 ((if a < 18446744073709551616 then a else 0 : Nat) : Int)), (6, .bool (decide (a < 18446744073709551616))), (25, sl sb (toL b).length)] k_ ?_
  refine RN.call (natural_Uint_c sb b) [1] k_ k_ k_ rfl (fun y8 _ => ?_)
  refine RN.bq (no 5) [0, 1, 5, 6, 7, 8] [] 7 [(0, sl sa (toL a).length), (1, sl sb (toL b).length), (5, .int .u64 ((if a < 18446744073709551616 then a else 0 : Nat) : Int)), (6, .bool (decide (a < 18446744073709551616))), (7, .int .u64 ((if b < 18446744073709551616 then b else 0 : Nat) : Int)), (8, .bool (decide (b < 18446744073709551616)))] k_ ?_
  refine RN.fs k_ ?_
  refine RN.bq (no 2) [0, 1, 5, 7, 8, 30] [] 2 [(0, sl sa (toL a).length), (1, sl sb (toL b).length), (5, .int .u64 ((if a < 18446744073709551616 then a else 0 : Nat) : Int)), (7, .int .u64 ((if b < 18446744073709551616 then b else 0 : Nat) : Int)), (8, .bool (decide (b < 18446744073709551616))), (30, .bool (decide (a < 18446744073709551616)))] k_ ?_
  refine RN.split 30 (decide (a < 18446744073709551616)) k_ (fun c9 => ?_) (fun c9 => ?_)
  ·replace c9 := of_decide_eq_true c9
   have ha64 : (if a < 18446744073709551616 then a else 0) = a := if_pos c9
   refine RN.bq (no 2) [0, 1, 5, 7, 32] [] 4 [(0, sl sa (toL a).length), (1, sl sb (toL b).length), (5, .int .u64 ((if a < 18446744073709551616 then a else 0 : Nat) : Int)), (7, .int .u64 ((if b < 18446744073709551616 then b else 0 : Nat) : Int)), (32, .bool (decide (b < 18446744073709551616)))] k_ ?_
   refine RN.fin k_ ?_
   refine J.cond (decide (b < 18446744073709551616)) k_ (fun c10 => ?_) (fun c10 => ?_)
   ·replace c10 := of_decide_eq_true c10
    have hb64 : (if b < 18446744073709551616 then b else 0) = b := if_pos c10
    have hgl : Nat.gcd a b < 18446744073709551616 := Nat.lt_of_le_of_lt (Nat.le_of_dvd (Nat.pos_of_ne_zero h0) (Nat.gcd_dvd_right a b)) c10
    refine J.sreg ?_
    refine RN.bq (no 2) [33, 34] [] 2 [(33, .int .u64 ((if a < 18446744073709551616 then a else 0 : Nat) : Int)), (34, .int .u64 ((if b < 18446744073709551616 then b else 0 : Nat) : Int))] k_ ?_
    refine RN.call (natural_gcd (if a < 18446744073709551616 then a else 0) (if b < 18446744073709551616 then b else 0) y_natural_Gcd y_natural_Gcd) [] k_ k_ k_ rfl (fun y11 _ => ?_)
    rw [show (Nat.gcd (if a < 18446744073709551616 then a else 0) (if b < 18446744073709551616 then b else 0)) = Nat.gcd a b from by rw [ha64, hb64]]
    refine RN.call (natural_FromUint (Nat.gcd a b) y_natural_Gcd) [] k_ k_ k_ rfl (fun y12 _ => ?_)
    refine RN.bq (no 1) [4] [] 5 [(4, sl y12 (toL (Nat.gcd a b)).length)] k_ ?_
    refine RN.fin k_ ?_
    have e_1 : (toL (Nat.gcd (nv xs) (nv ys))) = (toL (Nat.gcd a b)) := by simp [← hI3, h0]
    refine J.ret (KR.next (KR.blk (KR.next (KR.blk (KR.next (KR.ret (v := sl y12 (toL (Nat.gcd a b)).length) (y12) [none] [0] [] k_ v1_ (trivial) v1_))))))
   ·replace c10 := of_decide_eq_false c10
    refine J.skip ?_
    refine KN.next ?_
    refine J.sreg ?_
    refine RN.bq (no 2) [1, 38, 39] [] 2 [(1, sl sb (toL b).length), (38, sl sa (toL a).length), (39, sl sb (toL b).length)] k_ ?_
    refine RN.call (natural_Div_c sa a sb b y_natural_Gcd y_natural_Gcd) [0, 1] k_ k_ k_ rfl (fun y13 _ => ?_)
    rw [show (if b = 0 then 0 else a % b) = a % b from if_neg h0]
    refine RN.bq (no 7) [1, 10] [] 10 [(1, sl sb (toL b).length), (10, sl y13.2 (toL (a % b)).length)] k_ ?_
    refine RN.fin k_ ?_
    refine J.regN ?_
    refine RN.bq (no 4) [0, 1] [] 4 [(0, sl sb (toL b).length), (1, sl y13.2 (toL (a % b)).length)] k_ ?_
    refine RN.done k_ ?_
    refine KN.blk ?_
    have hm := Nat.mod_lt a (Nat.pos_of_ne_zero h0)
    refine KN.roundE (sb, b, y13.2, a % b) [0, 1] [3, 1, 4, 5, 6, 7] (l2 := [(0, sl sb (toL b).length), (1, sl y13.2 (toL (a % b)).length)]) (by (try dsimp only); exact hm) (by (try dsimp only); exact ⟨hI2, Nat.le_trans (length_toL_mono (Nat.le_of_lt hm)) hI2, by rw [Nat.gcd_comm, ← Nat.gcd_rec, Nat.gcd_comm]; exact hI3⟩) k_ (by rfl) (by rfl) (by rfl)
  ·replace c9 := of_decide_eq_false c9
   refine RN.bq (no 2) [0, 1, 5, 7, 32] [] 4 [(0, sl sa (toL a).length), (1, sl sb (toL b).length), (5, .int .u64 ((if a < 18446744073709551616 then a else 0 : Nat) : Int)), (7, .int .u64 ((if b < 18446744073709551616 then b else 0 : Nat) : Int)), (32, .bool false)] k_ ?_
   refine RN.fin k_ ?_
   refine J.condF k_ ?_
   refine J.skip ?_
   refine KN.next ?_
   refine J.sreg ?_
   refine RN.bq (no 2) [1, 38, 39] [] 2 [(1, sl sb (toL b).length), (38, sl sa (toL a).length), (39, sl sb (toL b).length)] k_ ?_
   refine RN.call (natural_Div_c sa a sb b y_natural_Gcd y_natural_Gcd) [0, 1] k_ k_ k_ rfl (fun y14 _ => ?_)
   rw [show (if b = 0 then 0 else a % b) = a % b from if_neg h0]
   refine RN.bq (no 7) [1, 10] [] 10 [(1, sl sb (toL b).length), (10, sl y14.2 (toL (a % b)).length)] k_ ?_
   refine RN.fin k_ ?_
   refine J.regN ?_
   refine RN.bq (no 4) [0, 1] [] 4 [(0, sl sb (toL b).length), (1, sl y14.2 (toL (a % b)).length)] k_ ?_
   refine RN.done k_ ?_
   refine KN.blk ?_
   have hm := Nat.mod_lt a (Nat.pos_of_ne_zero h0)
   refine KN.roundE (sb, b, y14.2, a % b) [0, 1] [3, 1, 4, 5, 6, 7] (l2 := [(0, sl sb (toL b).length), (1, sl y14.2 (toL (a % b)).length)]) (by (try dsimp only); exact hm) (by (try dsimp only); exact ⟨hI2, Nat.le_trans (length_toL_mono (Nat.le_of_lt hm)) hI2, by rw [Nat.gcd_comm, ← Nat.gcd_rec, Nat.gcd_comm]; exact hI3⟩) k_ (by rfl) (by rfl) (by rfl)
 ·replace c6 := of_decide_eq_false c6
  have h0 : b = 0 := toL_len_eq (by omega)
  refine J.exit (KX.next (KX.next (KX.hit ?_)))
  refine KN.next ?_
  refine J.sreg ?_
  refine RN.bq (no 1) [46] [] 1 [(46, sl sa (toL a).length)] k_ ?_
  refine RN.call (slices_Clone_u32 sa (toL a) y_natural_Gcd) [0] k_ k_ k_ rfl (fun y15 _ => ?_)
  refine RN.bq (no 1) [4] [] 3 [(4, sl y15 (toL a).length)] k_ ?_
  refine RN.fin k_ ?_
  have e_1 : (toL (Nat.gcd (nv xs) (nv ys))) = (toL a) := by simp [← hI3, h0]
  refine J.ret (KR.ret (v := sl y15 (toL a).length) (y15) [none] [0] [] k_ v1_ (trivial) v1_)
theorem natural_Gcd_c (s : SA) (xs' : Nat) (t : SA) (ys' : Nat) (hxl : (toL xs').length ≤ 1099511627776) (hyl : (toL ys').length ≤ 1099511627776) : Spec Tryz.prog 141 #[sl s (toL xs').length, sl t (toL ys').length] [fU s (toL xs'), fU t (toL ys')] (ι := SA) (fun y => sl y (toL (Nat.gcd xs' ys')).length) (fun y => True) (fun y => [fU y (toL (Nat.gcd xs' ys'))]) := by
  have H := natural_Gcd s (toL xs') t (toL ys') (Lb_toL _) (Lb_toL _) (by first | exact hxl | simpa only [nv_toL, nv_toL] using hxl) (by first | exact hyl | simpa only [nv_toL, nv_toL] using hyl)
  first | exact H | (simp only [nv_toL, lv_toL, validU_toL] at H; exact H)
end Go.Proofs.YtbiifkfbkaejlaaGreat.E
/- Integers by sign and limbs. -/
namespace Go.Proofs.YtbiifkfbkaejlaaGreat.E
open Go Go.RowKit
set_option linter.unusedVariables false
set_option linter.unusedSimpArgs false
def encZ (n : Int) : RawI := ⟨decide (n < 0), toL n.natAbs⟩
def validZ (z : RawI) : Bool := validU z.mag && (!z.mag.isEmpty || !z.neg)
def zv (z : RawI) : Int := if validZ z then (if z.neg then -((lv z.mag : Nat) : Int) else (lv z.mag : Nat)) else 0
def sgn (b : Bool) (m : Nat) : Int := if b then -(m : Int) else m
theorem toL_isEmpty (n : Nat) : (toL n).isEmpty = decide (n = 0) := by
  rw [Bool.eq_iff_iff, List.isEmpty_iff, toL_nil]; simp
theorem toL_len0 {n : Nat} : (toL n).length = 0 ↔ n = 0 := by rw [List.length_eq_zero_iff, toL_nil]
theorem toL_len_pos {n : Nat} : 0 < (toL n).length ↔ n ≠ 0 := by have := toL_len0 (n := n); omega
theorem validZ_encZ (n : Int) : validZ (encZ n) = true := by
  simp only [validZ, encZ, validU_toL, toL_isEmpty, Bool.true_and]
  by_cases h : n < 0 <;> simp [h] <;> omega
theorem zv_encZ (n : Int) : zv (encZ n) = n := by
  rw [zv, if_pos (validZ_encZ n)]
  simp only [encZ, lv_toL]
  by_cases h : n < 0 <;> simp [h] <;> omega
theorem zv_nil : zv ⟨false, []⟩ = 0 := by simp [zv, lv]
theorem encZ_zero : encZ 0 = ⟨false, []⟩ := by simp [encZ, toL_zero]
theorem encZ_zv {z : RawI} (hb : Lb z.mag) (h : validZ z = true) : encZ (zv z) = z := by
  rw [zv, if_pos h]
  simp only [validZ, Bool.and_eq_true, Bool.or_eq_true] at h
  obtain ⟨n, m⟩ := z
  simp only at *
  have e := toL_lv hb h.1
  cases n with
  | false => simp [encZ, e]
  | true =>
    have hne : m ≠ [] := by simpa [List.isEmpty_iff] using h.2
    have hp := lv_pos h.1 hne
    simp [encZ, e]; omega
theorem encZ_zv_f {z : RawI} (h : validZ z = false) : encZ (zv z) = ⟨false, []⟩ := by
  rw [zv, if_neg (by simp [h]), encZ_zero]
theorem zv_len {z : RawI} (hb : Lb z.mag) : (toL (zv z).natAbs).length ≤ z.mag.length := by
  cases h : validZ z with
  | true =>
    have e := encZ_zv hb h
    have : (encZ (zv z)).mag = z.mag := by rw [e]
    rw [← this]; exact Nat.le_refl _
  | false => rw [zv, if_neg (by simp [h])]; simp [toL_zero]
theorem encZ_sgn (b : Bool) (m : Nat) : encZ (sgn b m) = ⟨b && decide (m ≠ 0), toL m⟩ := by
  cases b with
  | false => simp [encZ, sgn] <;> omega
  | true => simp [encZ, sgn]; by_cases h : m = 0 <;> simp [h] <;> omega
theorem sgn_self (n : Int) : sgn (decide (n < 0)) n.natAbs = n := by
  by_cases h : n < 0 <;> simp [sgn, h] <;> omega
theorem sgn_not (n : Int) : sgn (!decide (n < 0)) n.natAbs = -n := by
  by_cases h : n < 0 <;> simp [sgn, h] <;> omega
theorem sgn_add {a b : Int} (h : (decide (a < 0) == decide (b < 0)) = true) : sgn (decide (a < 0)) (a.natAbs + b.natAbs) = a + b := by
  by_cases ha : a < 0 <;> by_cases hb : b < 0 <;> simp [sgn, ha, hb] at h ⊢ <;> omega
theorem sgn_sub {a b : Int} (h : (decide (a < 0) == decide (b < 0)) = false) (hl : b.natAbs ≤ a.natAbs) : sgn (decide (a < 0)) (a.natAbs - b.natAbs) = a + b := by
  by_cases ha : a < 0 <;> by_cases hb : b < 0 <;> simp [sgn, ha, hb] at h ⊢ <;> omega
theorem sgn_sub' {a b : Int} (h : (decide (a < 0) == decide (b < 0)) = false) (hl : ¬ b.natAbs ≤ a.natAbs) : sgn (decide (b < 0)) (b.natAbs - a.natAbs) = a + b := by
  by_cases ha : a < 0 <;> by_cases hb : b < 0 <;> simp [sgn, ha, hb] at h ⊢ <;> omega
theorem sgn_mul (a b : Int) : sgn (decide (a < 0) != decide (b < 0)) (a.natAbs * b.natAbs) = a * b := by
  have key : ∀ (p q : Nat) (s t : Bool), sgn (s != t) (p * q) = sgn s p * sgn t q := fun p q s t => by
    cases s <;> cases t <;> simp [sgn, Int.neg_mul, Int.mul_neg]
  have hz : ∀ (p q : Nat) , True := fun _ _ => trivial
  rw [key, sgn_self, sgn_self]
def cmpI (a b : Int) : Int := if a < b then -1 else if a > b then 1 else 0
theorem cmpI_wrap (a b : Int) : IntKind.i64.wrap (cmpI a b) = cmpI a b := by
  unfold cmpI; split
  · rfl
  · split <;> rfl
theorem cmpI_of_sign_lt {a b : Int} (h : Int.sign a < Int.sign b) : cmpI a b = -1 := by
  unfold cmpI
  rw [if_pos]
  rcases Int.lt_trichotomy a 0 with ha | ha | ha <;> rcases Int.lt_trichotomy b 0 with hb | hb | hb <;>
    simp [Int.sign_eq_neg_one_of_neg, Int.sign_eq_one_of_pos, ha, hb] at h <;> omega
theorem cmpI_of_sign_gt {a b : Int} (h : Int.sign a > Int.sign b) : cmpI a b = 1 := by
  have : b < a := by
    rcases Int.lt_trichotomy a 0 with ha | ha | ha <;> rcases Int.lt_trichotomy b 0 with hb | hb | hb <;>
      simp [Int.sign_eq_neg_one_of_neg, Int.sign_eq_one_of_pos, ha, hb] at h <;> omega
  unfold cmpI
  rw [if_neg (by omega), if_pos this]
theorem cmpN_cases (a b : Nat) : (a < b ∧ cmpN a b = -1) ∨ (a = b ∧ cmpN a b = 0) ∨ (b < a ∧ cmpN a b = 1) := by
  unfold cmpN; rcases Nat.lt_trichotomy a b with h | h | h
  · left; simp [h]
  · right; left; simp [h]
  · right; right; refine ⟨h, ?_⟩; rw [if_neg (by omega)]; simp [h]
theorem cmpI_same {a b : Int} (h1 : ¬ Int.sign a < Int.sign b) (h2 : ¬ Int.sign a > Int.sign b) : Int.sign a * cmpN a.natAbs b.natAbs = cmpI a b := by
  have h : Int.sign a = Int.sign b := by omega
  unfold cmpI
  rcases cmpN_cases a.natAbs b.natAbs with ⟨h3, h4⟩ | ⟨h3, h4⟩ | ⟨h3, h4⟩ <;> rw [h4] <;>
  rcases Int.lt_trichotomy a 0 with ha | ha | ha <;> rcases Int.lt_trichotomy b 0 with hb | hb | hb <;>
    simp [Int.sign_eq_neg_one_of_neg, Int.sign_eq_one_of_pos, ha, hb] at h ⊢ <;> (try split) <;> (try split) <;> omega
end Go.Proofs.YtbiifkfbkaejlaaGreat.E
namespace Go.Proofs.YtbiifkfbkaejlaaGreat.E
open Go Go.RowKit
set_option linter.unusedVariables false
set_option linter.unusedSimpArgs false
theorem nv_nil : nv [] = 0 := rfl
theorem natural_Add_nil (s : SA) (a : Nat) (hl : (toL a).length ≤ 1099511627776) : Spec Tryz.prog 139 #[sl s (toL a).length, .slice none 0 0] [fU s (toL a), fU saNil ([] : List Nat)] (ι := SA) (fun y => sl y (toL a).length) (fun y => True) (fun y => [fU y (toL a)]) := by
  have H := natural_Add s (toL a) saNil [] (Lb_toL _) Lb_nil hl (by simp)
  simp only [nv_toL, nv_nil, Nat.add_zero] at H
  exact H
theorem integer_Valid (s : SA) (z : RawI) : Spec Tryz.prog 150 #[intV s z] [fU s z.mag] (ι := Unit) (fun y => .bool (validZ z)) (fun y => True) (fun y => []) := by
 refine Spec.of_body _ (fn := Tryz.f150) k_ rfl k_ (fun X w0 => ?_)
 refine J.fact (φ := z.mag.length ≤ 140737488355328) (fun w h => by have := (h _ (.head _)).1; omega) (fun hl1 => ?_)
 refine J.sreg ?_
 refine RN.new (fun b => pt b) (.cells #[.bool z.neg, sl s z.mag.length] 38 (0, 0)) k_ k_ (fun w => by kernel_rfl) (fun b2 => ?_)
 refine RN.bq (no 1) [1] [] 2 [(1, pt b2)] k_ ?_
 refine RN.fs k_ ?_
 refine RN.bq [none, some 0] [1, 4] [b2] 2 [(1, pt b2), (4, sl s z.mag.length)] k_ ?_
 refine RN.call (natural_Valid s z.mag) [0] k_ k_ k_ rfl (fun y3 _ => ?_)
 refine RN.bq (no 1) [1, 6] [] 4 [(1, pt b2), (6, .bool (validU z.mag))] k_ ?_
 refine RN.split 6 (validU z.mag) k_ (fun c4 => ?_) (fun c4 => ?_)
 ·refine RN.bq [none, some 0, none, none, none] [1, 6, 11] [b2] 9 [(1, pt b2), (6, .bool true), (11, .bool (decide (((z.mag.length : Nat) : Int) > 0)))] k_ ?_
  refine RN.split 11 (decide (((z.mag.length : Nat) : Int) > 0)) k_ (fun c5 => ?_) (fun c5 => ?_)
  ·replace c5 := of_decide_eq_true c5
   refine RN.bq (no 6) [2] [] 15 [(2, .bool true)] k_ ?_
   refine RN.fin k_ ?_
   have e_1 : (validZ z) = true := by rcases z with ⟨neg, mag⟩; cases mag <;> simp_all [validZ]
   refine J.ret (KR.ret (v := .bool true) (()) [none] [] [] k_ v1_ (trivial) v1_)
  ·replace c5 := of_decide_eq_false c5
   refine RN.bq [none, some 0, none, none, none, none] [2] [b2] 15 [(2, .bool (!z.neg))] k_ ?_
   refine RN.fin k_ ?_
   have e_1 : (validZ z) = (!z.neg) := by rcases z with ⟨neg, mag⟩; cases mag <;> simp_all [validZ]
   refine J.ret (KR.ret (v := .bool (!z.neg)) (()) [none] [] [] k_ v1_ (trivial) v1_)
 ·refine RN.bq (no 11) [2] [] 15 [(2, .bool false)] k_ ?_
  refine RN.fin k_ ?_
  have e_1 : (validZ z) = false := by rcases z with ⟨neg, mag⟩; cases mag <;> simp_all [validZ]
  refine J.ret (KR.ret (v := .bool false) (()) [none] [] [] k_ v1_ (trivial) v1_)
theorem integer_value (s : SA) (z : RawI) (hz : Lb z.mag) : Spec Tryz.prog 134 #[intV s z] [fU s z.mag] (ι := SA) (fun y => intV y (encZ (zv z))) (fun y => True) (fun y => [fU y (toL ((zv z).natAbs))]) := by
 refine Spec.of_body _ (fn := Tryz.f134) k_ rfl k_ (fun X w0 => ?_)
 refine J.fact (φ := z.mag.length ≤ 140737488355328) (fun w h => by have := (h _ (.head _)).1; omega) (fun hl1 => ?_)
 refine J.sreg ?_
 refine RN.new (fun b => pt b) (.cells #[.bool z.neg, sl s z.mag.length] 38 (0, 0)) k_ k_ (fun w => by kernel_rfl) (fun b2 => ?_)
 refine RN.new (fun b => pt b) (.cells #[.bool false, sl saNil ([] : List Nat).length] 38 (0, 0)) k_ k_ (fun w => by kernel_rfl) (fun b3 => ?_)
 refine RN.fin k_ ?_
 refine J.seq ?_
 refine J.sreg ?_
 refine RN.bq [some 1] [1, 2, 3] [b2, b2] 1 [(1, pt b2), (2, pt b3), (3, intV s z)] k_ ?_
 refine RN.call (integer_Valid s z) [0] k_ k_ k_ rfl (fun y4 _ => ?_)
 refine RN.fin k_ ?_
 refine J.cond (validZ z) k_ (fun c5 => ?_) (fun c5 => ?_)
 ·refine J.sreg ?_
  refine RN.bs [some 1, some 0] [2] [b3, b3, b2, b2] 2 [(2, pt b3)] ([(b3, .cells #[.bool z.neg, sl s z.mag.length] 38 (0, 0)), (b2, .cells #[.bool z.neg, sl s z.mag.length] 38 (0, 0))]) k_ ?_
  refine RN.fin k_ ?_
  have e_1 : (encZ (zv z)) = z := by exact encZ_zv hz ‹_›
  have e_2 : (toL ((zv z).natAbs)) = z.mag := congrArg RawI.mag e_1
  refine J.ret (KR.next (KR.ret (v := intV s z) (s) [some 0] [0] [b3, b3] k_ (by first | rfl | (rw [e_1]; done) | (simp only [e_1]; done) | (rw [e_2]; done) | (rw [e_1, e_2]; rfl) | (simp only [e_1, e_2]; done) | (simp only [e_1, e_2]; rfl)) (trivial) (by first | rfl | (rw [e_1]; done) | (simp only [e_1]; done) | (rw [e_2]; done) | (rw [e_1, e_2]; rfl) | (simp only [e_1, e_2]; done) | (simp only [e_1, e_2]; rfl))))
 ·refine J.skip ?_
  refine KN.next ?_
  refine J.sreg ?_
  refine RN.bs [none, some 0] [2] [b3, b3] 2 [(2, pt b3)] ([(b3, .cells #[.bool false, sl saNil ([] : List Nat).length] 38 (0, 0)), (b2, .cells #[.bool z.neg, sl s z.mag.length] 38 (0, 0))]) k_ ?_
  refine RN.fin k_ ?_
  have e_1 : (encZ (zv z)) = (⟨false, ([] : List Nat)⟩ : RawI) := by exact encZ_zv_f ‹_›
  have e_2 : (toL ((zv z).natAbs)) = ([] : List Nat) := congrArg RawI.mag e_1
  refine J.also (fU saNil ([] : List Nat)) (fun w h => fU_nil w) ?_
  refine J.ret (KR.ret (v := intV saNil (⟨false, ([] : List Nat)⟩ : RawI)) (saNil) [some 0] [0] [b3, b3] k_ (by first | rfl | (rw [e_1]; done) | (simp only [e_1]; done) | (rw [e_2]; done) | (rw [e_1, e_2]; rfl) | (simp only [e_1, e_2]; done) | (simp only [e_1, e_2]; rfl)) (trivial) (by first | rfl | (rw [e_1]; done) | (simp only [e_1]; done) | (rw [e_2]; done) | (rw [e_1, e_2]; rfl) | (simp only [e_1, e_2]; done) | (simp only [e_1, e_2]; rfl)))
theorem sgn_true (n : Nat) : encZ (sgn true n) = ⟨decide (((toL n).length : Int) > 0), toL n⟩ := by
  have := toL_len_pos (n := n)
  rw [encZ_sgn]; congr 1
  by_cases h : n = 0
  · subst h; simp [toL_zero]
  · simp [h]; omega
theorem sgn_false (n : Nat) : encZ (sgn false n) = ⟨false, toL n⟩ := by rw [encZ_sgn]; rfl
theorem integer_signed (b : Bool) (s : SA) (n : Nat) : Spec Tryz.prog 138 #[.bool b, sl s (toL n).length] [fU s (toL n)] (ι := SA) (fun y => intV y (encZ (sgn b n))) (fun y => True) (fun y => [fU y (toL ((sgn b n).natAbs))]) := by
 refine Spec.of_body _ (fn := Tryz.f138) k_ rfl k_ (fun X w0 => ?_)
 refine J.fact (φ := (toL n).length ≤ 140737488355328) (fun w h => by have := (h _ (.head _)).1; omega) (fun hl1 => ?_)
 refine J.sreg ?_
 refine RN.new (fun b => pt b) (.cells #[.bool false, sl saNil ([] : List Nat).length] 38 (0, 0)) k_ k_ (fun w => by kernel_rfl) (fun b2 => ?_)
 refine RN.fs k_ ?_
 refine RN.bq (no 2) [1, 4, 6] [] 2 [(1, sl s (toL n).length), (4, pt b2), (6, .bool b)] k_ ?_
 refine RN.split 6 (b) k_ (fun c3 => ?_) (fun c3 => ?_)
 ·refine RN.bs [none, none, none, none, none, none, some 0] [4] [b2, b2] 9 [(4, pt b2)] ([(b2, .cells #[.bool (decide ((((toL n).length : Nat) : Int) > 0)), sl s (toL n).length] 38 (0, 0))]) k_ ?_
  refine RN.fin k_ ?_
  have e_1 : (encZ (sgn b n)) = (⟨decide ((((toL n).length : Nat) : Int) > 0), toL n⟩ : RawI) := by first | (rw [‹b = true›]; exact sgn_true _) | (rw [‹b = false›]; exact sgn_false _) | (rw [‹b = false›]; rfl)
  have e_2 : (toL ((sgn b n).natAbs)) = (toL n) := congrArg RawI.mag e_1
  refine J.ret (KR.ret (v := intV s (⟨decide ((((toL n).length : Nat) : Int) > 0), toL n⟩ : RawI)) (s) [some 0] [0] [b2, b2] k_ (by first | rfl | (rw [e_1]; done) | (simp only [e_1]; done) | (rw [e_2]; done) | (rw [e_1, e_2]; rfl) | (simp only [e_1, e_2]; done) | (simp only [e_1, e_2]; rfl)) (trivial) (by first | rfl | (rw [e_1]; done) | (simp only [e_1]; done) | (rw [e_2]; done) | (rw [e_1, e_2]; rfl) | (simp only [e_1, e_2]; done) | (simp only [e_1, e_2]; rfl)))
 ·refine RN.bs [none, none, none, none, none, none, some 0] [4] [b2, b2] 9 [(4, pt b2)] ([(b2, .cells #[.bool false, sl s (toL n).length] 38 (0, 0))]) k_ ?_
  refine RN.fin k_ ?_
  have e_1 : (sgn b n) = ((n : Nat) : Int) := by first | (rw [‹b = true›]; exact sgn_true _) | (rw [‹b = false›]; exact sgn_false _) | (rw [‹b = false›]; rfl)
  refine J.ret (KR.ret (v := intV s (encZ ((n : Nat) : Int))) (s) [some 0] [0] [b2, b2] k_ v1_ (trivial) v1_)
theorem integer_copied (s : SA) (n : Int) (hl : (toL n.natAbs).length ≤ 1099511627776) : Spec Tryz.prog 161 #[intV s (encZ n)] [fU s (toL (n.natAbs))] (ι := SA) (fun y => intV y (encZ n)) (fun y => True) (fun y => [fU y (toL (n.natAbs))]) := by
 refine Spec.of_body _ (fn := Tryz.f161) k_ rfl k_ (fun X w0 => ?_)
 refine J.fact (φ := (toL (n.natAbs)).length ≤ 140737488355328) (fun w h => by have := (h _ (.head _)).1; omega) (fun hl1 => ?_)
 refine J.sreg ?_
 refine RN.new (fun b => pt b) (.cells #[.bool (decide (n < 0)), sl s (toL (n.natAbs)).length] 38 (0, 0)) k_ k_ (fun w => by kernel_rfl) (fun b2 => ?_)
 refine RN.new (fun b => pt b) (.cells #[.bool false, sl saNil ([] : List Nat).length] 38 (0, 0)) k_ k_ (fun w => by kernel_rfl) (fun b3 => ?_)
 refine RN.fin k_ ?_
 refine J.seq ?_
 refine J.regD k_ [6] ?_
 refine RD.bq [(0, none), (1, some 1), (2, none), (3, some 1)] [2, 4, 6] [b2, b2] [(2, pt b3), (4, .bool (decide (n < 0))), (6, sl s (toL (n.natAbs)).length)] k_ k_ ?_
 refine RD.also (fU saNil ([] : List Nat)) (fun w h => fU_nil w) k_ ?_
 refine RD.call (i := 4) (natural_Add_nil s (n.natAbs) y_) [1, 0] k_ k_ k_ k_ k_ rfl (fun y4 _ => ?_)
 refine RD.call (i := 5) (integer_signed (decide (n < 0)) y4 (n.natAbs)) [0] k_ k_ k_ k_ k_ rfl (fun y5 _ => ?_)
 refine RD.last (i := 6) (some 0) [2] [b3, b3] k_ k_ k_ (l' := [(2, pt b3)]) (M' := [(b3, .cells #[.bool (decide ((sgn (decide (n < 0)) (n.natAbs)) < 0)), sl y5 (toL ((sgn (decide (n < 0)) (n.natAbs)).natAbs)).length] 38 (0, 0)), (b2, .cells #[.bool (decide (n < 0)), sl s (toL (n.natAbs)).length] 38 (0, 0))]) k_ ?_
 refine RD.done k_ ?_
 refine KN.next ?_
 have e_1 : n = (sgn (decide (n < 0)) (n.natAbs)) := by rw [sgn_self]
 refine J.ret (KR.ret (v := intV y5 (encZ (sgn (decide (n < 0)) (n.natAbs)))) (y5) [some 0] [0] [b3, b3] k_ v1_ (trivial) v1_)
theorem u64_pos {v : Int} (h : 0 ≤ v) (h2 : v < 9223372036854775808) : IntKind.u64.wrap v = (v.natAbs : Nat) := by
  simp [IntKind.wrap, IntKind.signed, IntKind.bits]; omega
theorem u64_neg {v : Int} (h : v < 0) (h2 : -9223372036854775808 ≤ v) : IntKind.u64.wrap (0 - IntKind.u64.wrap v) = (v.natAbs : Nat) := by
  simp [IntKind.wrap, IntKind.signed, IntKind.bits]; omega
theorem integer_FromInt (v : Int) (h1 : -9223372036854775808 ≤ v) (h2 : v < 9223372036854775808) : Spec Tryz.prog 149 #[.int .i64 v] [] (ι := SA) (fun y => intV y (encZ v)) (fun y => True) (fun y => [fU y (toL (v.natAbs))]) := by
 refine Spec.of_body _ (fn := Tryz.f149) k_ rfl k_ (fun X w0 => ?_)
 refine J.sreg ?_
 refine RN.new (fun b => pt b) (.cells #[.bool false, sl saNil ([] : List Nat).length] 38 (0, 0)) k_ k_ (fun w => by kernel_rfl) (fun b1 => ?_)
 refine RN.fin k_ ?_
 refine J.seq ?_
 refine J.sreg ?_
 refine RN.bq (no 2) [0, 2, 4] [] 2 [(0, .int .i64 v), (2, pt b1), (4, .bool (decide (v < 0)))] k_ ?_
 refine RN.fin k_ ?_
 refine J.cond (decide (v < 0)) k_ (fun c2 => ?_) (fun c2 => ?_)
 ·replace c2 := of_decide_eq_true c2
  refine J.sreg ?_
  refine RN.bq (no 3) [2, 7] [] 3 [(2, pt b1), (7, .int .u64 (IntKind.u64.wrap (0 - (IntKind.u64.wrap v))))] k_ ?_
  rw [show (IntKind.u64.wrap (0 - (IntKind.u64.wrap v))) = ((v.natAbs : Nat) : Int) from by exact u64_neg (by omega) (by omega)]
  refine RN.call (natural_FromUint (v.natAbs) y_) [] k_ k_ k_ rfl (fun y3 _ => ?_)
  refine RN.call (integer_signed true y3 (v.natAbs)) [0] k_ k_ k_ rfl (fun y4 _ => ?_)
  refine RN.bs [some 0] [2] [b1, b1] 6 [(2, pt b1)] ([(b1, .cells #[.bool (decide ((sgn true (v.natAbs)) < 0)), sl y4 (toL ((sgn true (v.natAbs)).natAbs)).length] 38 (0, 0))]) k_ ?_
  refine RN.fin k_ ?_
  have e_1 : v = (sgn true (v.natAbs)) := by simp [sgn]; omega
  refine J.ret (KR.next (KR.ret (v := intV y4 (encZ (sgn true (v.natAbs)))) (y4) [some 0] [0] [b1, b1] k_ v1_ (trivial) v1_))
 ·replace c2 := of_decide_eq_false c2
  refine J.skip ?_
  refine KN.next ?_
  refine J.sreg ?_
  refine RN.bq (no 2) [2, 11] [] 2 [(2, pt b1), (11, .int .u64 (IntKind.u64.wrap v))] k_ ?_
  rw [show (IntKind.u64.wrap v) = ((v.natAbs : Nat) : Int) from by exact u64_pos (by omega) (by omega)]
  refine RN.call (natural_FromUint (v.natAbs) y_) [] k_ k_ k_ rfl (fun y5 _ => ?_)
  refine RN.call (integer_signed false y5 (v.natAbs)) [0] k_ k_ k_ rfl (fun y6 _ => ?_)
  refine RN.bs [some 0] [2] [b1, b1] 5 [(2, pt b1)] ([(b1, .cells #[.bool (decide ((sgn false (v.natAbs)) < 0)), sl y6 (toL ((sgn false (v.natAbs)).natAbs)).length] 38 (0, 0))]) k_ ?_
  refine RN.fin k_ ?_
  have e_1 : v = (sgn false (v.natAbs)) := by simp [sgn]; omega
  refine J.ret (KR.ret (v := intV y6 (encZ (sgn false (v.natAbs)))) (y6) [some 0] [0] [b1, b1] k_ v1_ (trivial) v1_)
theorem integer_Sign (s : SA) (z : RawI) (hz : Lb z.mag) : Spec Tryz.prog 135 #[intV s z] [fU s z.mag] (ι := Unit) (fun y => .int .i64 (Int.sign (zv z))) (fun y => True) (fun y => []) := by
 refine Spec.of_body _ (fn := Tryz.f135) k_ rfl k_ (fun X w0 => ?_)
 refine J.fact (φ := z.mag.length ≤ 140737488355328) (fun w h => by have := (h _ (.head _)).1; omega) (fun hl1 => ?_)
 refine J.sreg ?_
 refine RN.new (fun b => pt b) (.cells #[.bool z.neg, sl s z.mag.length] 38 (0, 0)) k_ k_ (fun w => by kernel_rfl) (fun b2 => ?_)
 refine RN.bq (no 1) [1] [] 2 [(1, pt b2)] k_ ?_
 refine RN.fin k_ ?_
 refine J.seq ?_
 refine J.sreg ?_
 refine RN.bq [some 0] [1, 3] [b2, b2] 1 [(1, pt b2), (3, intV s z)] k_ ?_
 refine RN.call (integer_value s z y_) [0] k_ k_ k_ rfl (fun y3 _ => ?_)
 refine RN.bs [some 0] [1] [b2, b2] 3 [(1, pt b2)] ([(b2, .cells #[.bool (decide ((zv z) < 0)), sl y3 (toL ((zv z).natAbs)).length] 38 (0, 0))]) k_ ?_
 refine RN.fin k_ ?_
 refine J.block ?_
 refine J.sreg ?_
 refine RN.bq [none, some 0, none, none, none] [1, 5] [b2] 5 [(1, pt b2), (5, .bool (((((toL ((zv z).natAbs)).length : Nat) : Int) : Int) == 0))] k_ ?_
 refine RN.fin k_ ?_
 refine J.cond (((((toL ((zv z).natAbs)).length : Nat) : Int) : Int) == 0) k_ (fun c4 => ?_) (fun c4 => ?_)
 ·replace c4 := eq_of_beq c4
  refine J.sreg ?_
  refine RN.bq (no 1) [2] [] 1 [(2, .int .i64 0)] k_ ?_
  refine RN.fin k_ ?_
  have e_1 : (Int.sign (zv z) : Int) = (0 : Int) := by rw [show zv z = 0 from by have := toL_len0.1 (by omega : (toL ((zv z).natAbs)).length = 0); omega]; rfl
  refine J.ret (KR.blk (KR.next (KR.ret (v := .int .i64 0) (()) [none] [] [] k_ v1_ (trivial) v1_)))
 ·replace c4 := ne_of_beq_false c4
  refine J.sreg ?_
  refine RN.bq [none, some 0, none] [10] [b2] 3 [(10, .bool (decide ((zv z) < 0)))] k_ ?_
  refine RN.fin k_ ?_
  refine J.cond (decide ((zv z) < 0)) k_ (fun c5 => ?_) (fun c5 => ?_)
  ·replace c5 := of_decide_eq_true c5
   refine J.sreg ?_
   refine RN.bq (no 1) [2] [] 1 [(2, .int .i64 (-1))] k_ ?_
   refine RN.fin k_ ?_
   have e_1 : (Int.sign (zv z) : Int) = ((-1) : Int) := by exact Int.sign_eq_neg_one_of_neg (by simpa using ‹_›)
   refine J.ret (KR.blk (KR.next (KR.ret (v := .int .i64 (-1)) (()) [none] [] [] k_ v1_ (trivial) v1_)))
  ·replace c5 := of_decide_eq_false c5
   refine J.skip ?_
   refine KN.blk ?_
   refine KN.next ?_
   refine J.sreg ?_
   refine RN.bq (no 1) [2] [] 1 [(2, .int .i64 1)] k_ ?_
   refine RN.fin k_ ?_
   have e_1 : (Int.sign (zv z) : Int) = (1 : Int) := by exact Int.sign_eq_one_of_pos (by have h1 := mt toL_len0.2 (by omega : ¬ (toL ((zv z).natAbs)).length = 0); simp at *; omega)
   refine J.ret (KR.ret (v := .int .i64 1) (()) [none] [] [] k_ v1_ (trivial) v1_)
theorem integer_Sign_c (s : SA) (z' : Int) : Spec Tryz.prog 135 #[intV s (encZ z')] [fU s (toL (z'.natAbs))] (ι := Unit) (fun y => .int .i64 (Int.sign z')) (fun y => True) (fun y => []) := by
  have H := integer_Sign s (encZ z') (Lb_toL _)
  first | exact H | (simp only [zv_encZ, validZ_encZ] at H; exact H)
theorem integer_Neg (s : SA) (z : RawI) (hz : Lb z.mag) (hzl : z.mag.length ≤ 1099511627776) : Spec Tryz.prog 145 #[intV s z] [fU s z.mag] (ι := SA) (fun y => intV y (encZ (-zv z))) (fun y => True) (fun y => [fU y (toL ((-zv z).natAbs))]) := by
 refine Spec.of_body _ (fn := Tryz.f145) k_ rfl k_ (fun X w0 => ?_)
 refine J.fact (φ := z.mag.length ≤ 140737488355328) (fun w h => by have := (h _ (.head _)).1; omega) (fun hl1 => ?_)
 have hzv := Nat.le_trans (zv_len hz) hzl
 refine J.sreg ?_
 refine RN.new (fun b => pt b) (.cells #[.bool z.neg, sl s z.mag.length] 38 (0, 0)) k_ k_ (fun w => by kernel_rfl) (fun b2 => ?_)
 refine RN.new (fun b => pt b) (.cells #[.bool false, sl saNil ([] : List Nat).length] 38 (0, 0)) k_ k_ (fun w => by kernel_rfl) (fun b3 => ?_)
 refine RN.fs k_ ?_
 refine RN.bq [some 1] [1, 2, 3] [b2, b2] 1 [(1, pt b2), (2, pt b3), (3, intV s z)] k_ ?_
 refine RN.call (integer_value s z y_) [0] k_ k_ k_ rfl (fun y4 _ => ?_)
 refine RN.call (integer_copied y4 (zv z) y_) [0] k_ k_ k_ rfl (fun y5 _ => ?_)
 refine RN.bs [some 1] [1, 2] [b2, b2] 4 [(1, pt b2), (2, pt b3)] ([(b3, .cells #[.bool false, sl saNil ([] : List Nat).length] 38 (0, 0)), (b2, .cells #[.bool (decide ((zv z) < 0)), sl y5 (toL ((zv z).natAbs)).length] 38 (0, 0))]) k_ ?_
 refine RN.fs k_ ?_
 refine RN.bq [none, some 1, none, none, some 1] [2, 8, 10] [b2, b2] 5 [(2, pt b3), (8, .bool (!(decide ((zv z) < 0)))), (10, sl y5 (toL ((zv z).natAbs)).length)] k_ ?_
 refine RN.call (integer_signed (!(decide ((zv z) < 0))) y5 ((zv z).natAbs)) [0] k_ k_ k_ rfl (fun y6 _ => ?_)
 refine RN.bs [some 0] [2] [b3, b3] 7 [(2, pt b3)] ([(b3, .cells #[.bool (decide ((sgn (!(decide ((zv z) < 0))) ((zv z).natAbs)) < 0)), sl y6 (toL ((sgn (!(decide ((zv z) < 0))) ((zv z).natAbs)).natAbs)).length] 38 (0, 0)), (b2, .cells #[.bool (decide ((zv z) < 0)), sl y5 (toL ((zv z).natAbs)).length] 38 (0, 0))]) k_ ?_
 refine RN.fin k_ ?_
 have e_1 : (-zv z) = (sgn (!(decide ((zv z) < 0))) ((zv z).natAbs)) := by rw [sgn_not]
 refine J.ret (KR.ret (v := intV y6 (encZ (sgn (!(decide ((zv z) < 0))) ((zv z).natAbs)))) (y6) [some 0] [0] [b3, b3] k_ v1_ (trivial) v1_)
theorem integer_Neg_c (s : SA) (z' : Int) (hzl : (toL (z'.natAbs)).length ≤ 1099511627776) : Spec Tryz.prog 145 #[intV s (encZ z')] [fU s (toL (z'.natAbs))] (ι := SA) (fun y => intV y (encZ (-z'))) (fun y => True) (fun y => [fU y (toL ((-z').natAbs))]) := by
  have H := integer_Neg s (encZ z') (Lb_toL _) (by first | exact hzl | simpa only [zv_encZ] using hzl)
  first | exact H | (simp only [zv_encZ, validZ_encZ] at H; exact H)
theorem integer_Compare (s : SA) (x : RawI) (t : SA) (z : RawI) (hx : Lb x.mag) (hz : Lb z.mag) : Spec Tryz.prog 103 #[intV s x, intV t z] [fU s x.mag, fU t z.mag] (ι := Unit) (fun y => .int .i64 (cmpI (zv x) (zv z))) (fun y => True) (fun y => []) := by
 refine Spec.of_body _ (fn := Tryz.f103) k_ rfl k_ (fun X w0 => ?_)
 refine J.fact (φ := x.mag.length ≤ 140737488355328) (fun w h => by have := (h _ (.head _)).1; omega) (fun hl1 => ?_)
 refine J.fact (φ := z.mag.length ≤ 140737488355328) (fun w h => by have := (h _ (.tail _ ((.head _)))).1; omega) (fun hl2 => ?_)
 refine J.sreg ?_
 refine RN.new (fun b => pt b) (.cells #[.bool x.neg, sl s x.mag.length] 38 (0, 0)) k_ k_ (fun w => by kernel_rfl) (fun b3 => ?_)
 refine RN.new (fun b => pt b) (.cells #[.bool z.neg, sl t z.mag.length] 38 (0, 0)) k_ k_ (fun w => by kernel_rfl) (fun b4 => ?_)
 refine RN.bq (no 1) [2, 3] [] 3 [(2, pt b3), (3, pt b4)] k_ ?_
 refine RN.fin k_ ?_
 refine J.seq ?_
 refine J.regD k_ [4, 5] ?_
 refine RD.bq [(0, some 1), (2, some 0)] [2, 3, 7, 9] [b4, b4, b3, b3] [(2, pt b3), (3, pt b4), (7, intV s x), (9, intV t z)] k_ k_ ?_
 refine RD.call (i := 1) (integer_value s x y_) [0] k_ k_ k_ k_ k_ rfl (fun y5 _ => ?_)
 refine RD.call (i := 3) (integer_value t z y_) [2] k_ k_ k_ k_ k_ rfl (fun y6 _ => ?_)
 refine RD.last (i := 4) (some 1) [2, 3, 10] [b3, b3] k_ k_ k_ (l' := [(2, pt b3), (3, pt b4), (10, intV y6 (encZ (zv z)))]) (M' := [(b4, .cells #[.bool z.neg, sl t z.mag.length] 38 (0, 0)), (b3, .cells #[.bool (decide ((zv x) < 0)), sl y5 (toL ((zv x).natAbs)).length] 38 (0, 0))]) k_ ?_
 refine RD.last (i := 5) (some 0) [2, 3] [b4, b4] k_ k_ k_ (l' := [(2, pt b3), (3, pt b4)]) (M' := [(b4, .cells #[.bool (decide ((zv z) < 0)), sl y6 (toL ((zv z).natAbs)).length] 38 (0, 0)), (b3, .cells #[.bool (decide ((zv x) < 0)), sl y5 (toL ((zv x).natAbs)).length] 38 (0, 0))]) k_ ?_
 refine RD.done k_ ?_
 refine KN.next ?_
 refine J.seq ?_
 refine J.regD k_ [] ?_
 refine RD.bq [(0, some 1), (2, some 0)] [2, 3, 11, 13] [b4, b4, b3, b3] [(2, pt b3), (3, pt b4), (11, intV y5 (encZ (zv x))), (13, intV y6 (encZ (zv z)))] k_ k_ ?_
 refine RD.call (i := 1) (integer_Sign_c y5 (zv x)) [1] k_ k_ k_ k_ k_ rfl (fun y7 _ => ?_)
 refine RD.call (i := 3) (integer_Sign_c y6 (zv z)) [0] k_ k_ k_ k_ k_ rfl (fun y8 _ => ?_)
 refine RD.bq (nl [4, 5]) [2, 3, 5, 6] [] [(2, pt b3), (3, pt b4), (5, .int .i64 (Int.sign (zv x))), (6, .int .i64 (Int.sign (zv z)))] k_ k_ ?_
 refine RD.done k_ ?_
 refine KN.next ?_
 refine J.seq ?_
 refine J.block ?_
 refine J.sreg ?_
 refine RN.bq (no 4) [2, 3, 5, 6, 15] [] 4 [(2, pt b3), (3, pt b4), (5, .int .i64 (Int.sign (zv x))), (6, .int .i64 (Int.sign (zv z))), (15, .bool (decide ((Int.sign (zv x)) < (Int.sign (zv z)))))] k_ ?_
 refine RN.fin k_ ?_
 refine J.cond (decide ((Int.sign (zv x)) < (Int.sign (zv z)))) k_ (fun c9 => ?_) (fun c9 => ?_)
 ·replace c9 := of_decide_eq_true c9
  refine J.sreg ?_
  refine RN.bq (no 1) [4] [] 1 [(4, .int .i64 (-1))] k_ ?_
  refine RN.fin k_ ?_
  have e_1 : (cmpI (zv x) (zv z) : Int) = ((-1) : Int) := by exact cmpI_of_sign_lt ‹_›
  refine J.ret (KR.blk (KR.next (KR.ret (v := .int .i64 (-1)) (()) [none] [] [] k_ v1_ (trivial) v1_)))
 ·replace c9 := of_decide_eq_false c9
  refine J.sreg ?_
  refine RN.bq (no 4) [2, 3, 5, 19] [] 4 [(2, pt b3), (3, pt b4), (5, .int .i64 (Int.sign (zv x))), (19, .bool (decide ((Int.sign (zv x)) > (Int.sign (zv z)))))] k_ ?_
  refine RN.fin k_ ?_
  refine J.cond (decide ((Int.sign (zv x)) > (Int.sign (zv z)))) k_ (fun c10 => ?_) (fun c10 => ?_)
  ·replace c10 := of_decide_eq_true c10
   refine J.sreg ?_
   refine RN.bq (no 1) [4] [] 1 [(4, .int .i64 1)] k_ ?_
   refine RN.fin k_ ?_
   have e_1 : (cmpI (zv x) (zv z) : Int) = (1 : Int) := by exact cmpI_of_sign_gt ‹_›
   refine J.ret (KR.blk (KR.next (KR.ret (v := .int .i64 1) (()) [none] [] [] k_ v1_ (trivial) v1_)))
  ·replace c10 := of_decide_eq_false c10
   refine J.skip ?_
   refine KN.blk ?_
   refine KN.next ?_
   refine J.sreg ?_
   refine RN.bq [none, none, some 1, none, some 0] [23, 25, 27] [b4, b3] 5 [(23, .int .i64 (Int.sign (zv x))), (25, sl y5 (toL ((zv x).natAbs)).length), (27, sl y6 (toL ((zv z).natAbs)).length)] k_ ?_
   refine RN.call (natural_Compare_c y5 ((zv x).natAbs) y6 ((zv z).natAbs)) [1, 0] k_ k_ k_ rfl (fun y11 _ => ?_)
   refine RN.bq (no 1) [29] [] 7 [(29, .int .i64 (IntKind.i64.wrap ((Int.sign (zv x)) * (cmpN ((zv x).natAbs) ((zv z).natAbs)))))] k_ ?_
   rw [show (IntKind.i64.wrap ((Int.sign (zv x)) * (cmpN ((zv x).natAbs) ((zv z).natAbs)))) = cmpI (zv x) (zv z) from by rw [cmpI_same ‹_› ‹_›]; exact cmpI_wrap _ _]
   refine RN.bq (no 1) [4] [] 8 [(4, .int .i64 (cmpI (zv x) (zv z)))] k_ ?_
   refine RN.fin k_ ?_
   refine J.ret (KR.ret (v := .int .i64 (cmpI (zv x) (zv z))) (()) [none] [] [] k_ rfl (trivial) rfl)
theorem integer_Compare_c (s : SA) (x' : Int) (t : SA) (z' : Int) : Spec Tryz.prog 103 #[intV s (encZ x'), intV t (encZ z')] [fU s (toL (x'.natAbs)), fU t (toL (z'.natAbs))] (ι := Unit) (fun y => .int .i64 (cmpI x' z')) (fun y => True) (fun y => []) := by
  have H := integer_Compare s (encZ x') t (encZ z') (Lb_toL _) (Lb_toL _)
  first | exact H | (simp only [zv_encZ, validZ_encZ] at H; exact H)
theorem integer_Add (s : SA) (x : RawI) (t : SA) (z : RawI) (hx : Lb x.mag) (hxl : x.mag.length ≤ 1099511627776) (hz : Lb z.mag) (hzl : z.mag.length ≤ 1099511627776) : Spec Tryz.prog 106 #[intV s x, intV t z] [fU s x.mag, fU t z.mag] (ι := SA) (fun y => intV y (encZ (zv x + zv z))) (fun y => True) (fun y => [fU y (toL ((zv x + zv z).natAbs))]) := by
 refine Spec.of_body _ (fn := Tryz.f106) k_ rfl k_ (fun X w0 => ?_)
 refine J.fact (φ := x.mag.length ≤ 140737488355328) (fun w h => by have := (h _ (.head _)).1; omega) (fun hl1 => ?_)
 refine J.fact (φ := z.mag.length ≤ 140737488355328) (fun w h => by have := (h _ (.tail _ ((.head _)))).1; omega) (fun hl2 => ?_)
 have hxv := Nat.le_trans (zv_len hx) hxl
 have hzv := Nat.le_trans (zv_len hz) hzl
 refine J.sreg ?_
 refine RN.new (fun b => pt b) (.cells #[.bool x.neg, sl s x.mag.length] 38 (0, 0)) k_ k_ (fun w => by kernel_rfl) (fun b3 => ?_)
 refine RN.new (fun b => pt b) (.cells #[.bool z.neg, sl t z.mag.length] 38 (0, 0)) k_ k_ (fun w => by kernel_rfl) (fun b4 => ?_)
 refine RN.new (fun b => pt b) (.cells #[.bool false, sl saNil ([] : List Nat).length] 38 (0, 0)) k_ k_ (fun w => by kernel_rfl) (fun b5 => ?_)
 refine RN.fin k_ ?_
 refine J.seq ?_
 refine J.regD k_ [4, 5] ?_
 refine RD.bq [(0, some 2), (2, some 1)] [2, 3, 4, 9, 11] [b4, b4, b3, b3] [(2, pt b3), (3, pt b4), (4, pt b5), (9, intV s x), (11, intV t z)] k_ k_ ?_
 refine RD.call (i := 1) (integer_value s x y_) [0] k_ k_ k_ k_ k_ rfl (fun y6 _ => ?_)
 refine RD.call (i := 3) (integer_value t z y_) [2] k_ k_ k_ k_ k_ rfl (fun y7 _ => ?_)
 refine RD.last (i := 4) (some 2) [2, 3, 4, 12] [b3, b3] k_ k_ k_ (l' := [(2, pt b3), (3, pt b4), (4, pt b5), (12, intV y7 (encZ (zv z)))]) (M' := [(b5, .cells #[.bool false, sl saNil ([] : List Nat).length] 38 (0, 0)), (b4, .cells #[.bool z.neg, sl t z.mag.length] 38 (0, 0)), (b3, .cells #[.bool (decide ((zv x) < 0)), sl y6 (toL ((zv x).natAbs)).length] 38 (0, 0))]) k_ ?_
 refine RD.last (i := 5) (some 1) [2, 3, 4] [b4, b4] k_ k_ k_ (l' := [(2, pt b3), (3, pt b4), (4, pt b5)]) (M' := [(b5, .cells #[.bool false, sl saNil ([] : List Nat).length] 38 (0, 0)), (b4, .cells #[.bool (decide ((zv z) < 0)), sl y7 (toL ((zv z).natAbs)).length] 38 (0, 0)), (b3, .cells #[.bool (decide ((zv x) < 0)), sl y6 (toL ((zv x).natAbs)).length] 38 (0, 0))]) k_ ?_
 refine RD.done k_ ?_
 refine KN.next ?_
 refine J.seq ?_
 refine J.sreg ?_
 refine RN.bq [none, some 2, none, some 1, none] [2, 3, 4, 17] [b4, b3] 5 [(2, pt b3), (3, pt b4), (4, pt b5), (17, .bool ((decide ((zv x) < 0)) == (decide ((zv z) < 0))))] k_ ?_
 refine RN.fin k_ ?_
 refine J.cond ((decide ((zv x) < 0)) == (decide ((zv z) < 0))) k_ (fun c8 => ?_) (fun c8 => ?_)
 ·refine J.seq ?_
  refine J.regD k_ [8] ?_
  refine RD.bq [(0, none), (1, some 2), (2, none), (3, some 2), (4, none), (5, some 1)] [4, 19, 21, 23] [b4, b3, b3] [(4, pt b5), (19, .bool (decide ((zv x) < 0))), (21, sl y6 (toL ((zv x).natAbs)).length), (23, sl y7 (toL ((zv z).natAbs)).length)] k_ k_ ?_
  refine RD.call (i := 6) (natural_Add_c y6 ((zv x).natAbs) y7 ((zv z).natAbs) y_ y_) [1, 0] k_ k_ k_ k_ k_ rfl (fun y9 _ => ?_)
  refine RD.call (i := 7) (integer_signed (decide ((zv x) < 0)) y9 (((zv x).natAbs) + ((zv z).natAbs))) [0] k_ k_ k_ k_ k_ rfl (fun y10 _ => ?_)
  refine RD.last (i := 8) (some 0) [4] [b5, b5] k_ k_ k_ (l' := [(4, pt b5)]) (M' := [(b5, .cells #[.bool (decide ((sgn (decide ((zv x) < 0)) (((zv x).natAbs) + ((zv z).natAbs))) < 0)), sl y10 (toL ((sgn (decide ((zv x) < 0)) (((zv x).natAbs) + ((zv z).natAbs))).natAbs)).length] 38 (0, 0)), (b4, .cells #[.bool (decide ((zv z) < 0)), sl y7 (toL ((zv z).natAbs)).length] 38 (0, 0)), (b3, .cells #[.bool (decide ((zv x) < 0)), sl y6 (toL ((zv x).natAbs)).length] 38 (0, 0))]) k_ ?_
  refine RD.done k_ ?_
  refine KN.next ?_
  have e_1 : (zv x + zv z) = (sgn (decide ((zv x) < 0)) (((zv x).natAbs) + ((zv z).natAbs))) := by rw [sgn_add ‹_›]
  refine J.ret (KR.next (KR.ret (v := intV y10 (encZ (sgn (decide ((zv x) < 0)) (((zv x).natAbs) + ((zv z).natAbs))))) (y10) [some 0] [0] [b5, b5] k_ v1_ (trivial) v1_))
 ·refine J.skip ?_
  refine KN.next ?_
  refine J.seq ?_
  refine J.sreg ?_
  refine RN.bq [none, some 2, none, some 1] [2, 3, 4, 28, 30] [b4, b3] 4 [(2, pt b3), (3, pt b4), (4, pt b5), (28, sl y6 (toL ((zv x).natAbs)).length), (30, sl y7 (toL ((zv z).natAbs)).length)] k_ ?_
  refine RN.call (natural_Sub_c y6 ((zv x).natAbs) y7 ((zv z).natAbs) y_ y_) [1, 0] k_ k_ k_ rfl (fun y11 _ => ?_)
  refine RN.bq (no 5) [2, 3, 4, 5, 6] [] 10 [(2, pt b3), (3, pt b4), (4, pt b5), (5, sl y11 (toL (((zv x).natAbs) - ((zv z).natAbs))).length), (6, .bool (decide (((zv z).natAbs) ≤ ((zv x).natAbs))))] k_ ?_
  refine RN.fs k_ ?_
  refine RN.bq (no 1) [2, 3, 4, 5, 34] [] 1 [(2, pt b3), (3, pt b4), (4, pt b5), (5, sl y11 (toL (((zv x).natAbs) - ((zv z).natAbs))).length), (34, .bool (decide (((zv z).natAbs) ≤ ((zv x).natAbs))))] k_ ?_
  refine RN.fin k_ ?_
  refine J.cond (decide (((zv z).natAbs) ≤ ((zv x).natAbs))) k_ (fun c12 => ?_) (fun c12 => ?_)
  ·replace c12 := of_decide_eq_true c12
   refine J.sreg ?_
   refine RN.bq [none, some 2, none] [4, 36, 37] [b3] 3 [(4, pt b5), (36, .bool (decide ((zv x) < 0))), (37, sl y11 (toL (((zv x).natAbs) - ((zv z).natAbs))).length)] k_ ?_
   refine RN.call (integer_signed (decide ((zv x) < 0)) y11 (((zv x).natAbs) - ((zv z).natAbs))) [0] k_ k_ k_ rfl (fun y13 _ => ?_)
   refine RN.bs [some 0] [4] [b5, b5] 5 [(4, pt b5)] ([(b5, .cells #[.bool (decide ((sgn (decide ((zv x) < 0)) (((zv x).natAbs) - ((zv z).natAbs))) < 0)), sl y13 (toL ((sgn (decide ((zv x) < 0)) (((zv x).natAbs) - ((zv z).natAbs))).natAbs)).length] 38 (0, 0)), (b4, .cells #[.bool (decide ((zv z) < 0)), sl y7 (toL ((zv z).natAbs)).length] 38 (0, 0)), (b3, .cells #[.bool (decide ((zv x) < 0)), sl y6 (toL ((zv x).natAbs)).length] 38 (0, 0))]) k_ ?_
   refine RN.fin k_ ?_
   have e_1 : (zv x + zv z) = (sgn (decide ((zv x) < 0)) (((zv x).natAbs) - ((zv z).natAbs))) := by rw [sgn_sub ‹_› ‹_›]
   refine J.ret (KR.next (KR.ret (v := intV y13 (encZ (sgn (decide ((zv x) < 0)) (((zv x).natAbs) - ((zv z).natAbs))))) (y13) [some 0] [0] [b5, b5] k_ v1_ (trivial) v1_))
  ·replace c12 := of_decide_eq_false c12
   refine J.skip ?_
   refine KN.next ?_
   refine J.sreg ?_
   refine RN.bq [none, some 1, none, some 2] [3, 4, 41, 43] [b3, b4] 4 [(3, pt b4), (4, pt b5), (41, sl y7 (toL ((zv z).natAbs)).length), (43, sl y6 (toL ((zv x).natAbs)).length)] k_ ?_
   refine RN.call (natural_Sub_c y7 ((zv z).natAbs) y6 ((zv x).natAbs) y_ y_) [1, 2] k_ k_ k_ rfl (fun y14 _ => ?_)
   refine RN.bq (no 5) [3, 4, 7] [] 10 [(3, pt b4), (4, pt b5), (7, sl y14 (toL (((zv z).natAbs) - ((zv x).natAbs))).length)] k_ ?_
   refine RN.fs k_ ?_
   refine RN.bq [none, some 1, none] [4, 48, 49] [b4] 3 [(4, pt b5), (48, .bool (decide ((zv z) < 0))), (49, sl y14 (toL (((zv z).natAbs) - ((zv x).natAbs))).length)] k_ ?_
   refine RN.call (integer_signed (decide ((zv z) < 0)) y14 (((zv z).natAbs) - ((zv x).natAbs))) [0] k_ k_ k_ rfl (fun y15 _ => ?_)
   refine RN.bs [some 0] [4] [b5, b5] 5 [(4, pt b5)] ([(b5, .cells #[.bool (decide ((sgn (decide ((zv z) < 0)) (((zv z).natAbs) - ((zv x).natAbs))) < 0)), sl y15 (toL ((sgn (decide ((zv z) < 0)) (((zv z).natAbs) - ((zv x).natAbs))).natAbs)).length] 38 (0, 0)), (b4, .cells #[.bool (decide ((zv z) < 0)), sl y7 (toL ((zv z).natAbs)).length] 38 (0, 0)), (b3, .cells #[.bool (decide ((zv x) < 0)), sl y6 (toL ((zv x).natAbs)).length] 38 (0, 0))]) k_ ?_
   refine RN.fin k_ ?_
   have e_1 : (zv x + zv z) = (sgn (decide ((zv z) < 0)) (((zv z).natAbs) - ((zv x).natAbs))) := by rw [sgn_sub' ‹_› ‹_›]
   refine J.ret (KR.ret (v := intV y15 (encZ (sgn (decide ((zv z) < 0)) (((zv z).natAbs) - ((zv x).natAbs))))) (y15) [some 0] [0] [b5, b5] k_ v1_ (trivial) v1_)
theorem integer_Add_c (s : SA) (x' : Int) (t : SA) (z' : Int) (hxl : (toL (x'.natAbs)).length ≤ 1099511627776) (hzl : (toL (z'.natAbs)).length ≤ 1099511627776) : Spec Tryz.prog 106 #[intV s (encZ x'), intV t (encZ z')] [fU s (toL (x'.natAbs)), fU t (toL (z'.natAbs))] (ι := SA) (fun y => intV y (encZ (x' + z'))) (fun y => True) (fun y => [fU y (toL ((x' + z').natAbs))]) := by
  have H := integer_Add s (encZ x') t (encZ z') (Lb_toL _) (by first | exact hxl | simpa only [zv_encZ, zv_encZ] using hxl) (Lb_toL _) (by first | exact hzl | simpa only [zv_encZ, zv_encZ] using hzl)
  first | exact H | (simp only [zv_encZ, validZ_encZ] at H; exact H)
theorem integer_Mul (s : SA) (x : RawI) (t : SA) (z : RawI) (hx : Lb x.mag) (hxl : x.mag.length ≤ 1099511627776) (hz : Lb z.mag) (hzl : z.mag.length ≤ 1099511627776) : Spec Tryz.prog 133 #[intV s x, intV t z] [fU s x.mag, fU t z.mag] (ι := SA) (fun y => intV y (encZ (zv x * zv z))) (fun y => True) (fun y => [fU y (toL ((zv x * zv z).natAbs))]) := by
 refine Spec.of_body _ (fn := Tryz.f133) k_ rfl k_ (fun X w0 => ?_)
 refine J.fact (φ := x.mag.length ≤ 140737488355328) (fun w h => by have := (h _ (.head _)).1; omega) (fun hl1 => ?_)
 refine J.fact (φ := z.mag.length ≤ 140737488355328) (fun w h => by have := (h _ (.tail _ ((.head _)))).1; omega) (fun hl2 => ?_)
 have hxv := Nat.le_trans (zv_len hx) hxl
 have hzv := Nat.le_trans (zv_len hz) hzl
 refine J.sreg ?_
 refine RN.new (fun b => pt b) (.cells #[.bool x.neg, sl s x.mag.length] 38 (0, 0)) k_ k_ (fun w => by kernel_rfl) (fun b3 => ?_)
 refine RN.new (fun b => pt b) (.cells #[.bool z.neg, sl t z.mag.length] 38 (0, 0)) k_ k_ (fun w => by kernel_rfl) (fun b4 => ?_)
 refine RN.new (fun b => pt b) (.cells #[.bool false, sl saNil ([] : List Nat).length] 38 (0, 0)) k_ k_ (fun w => by kernel_rfl) (fun b5 => ?_)
 refine RN.fin k_ ?_
 refine J.seq ?_
 refine J.regD k_ [4, 5] ?_
 refine RD.bq [(0, some 2), (2, some 1)] [2, 3, 4, 5, 7] [b4, b4, b3, b3] [(2, pt b3), (3, pt b4), (4, pt b5), (5, intV s x), (7, intV t z)] k_ k_ ?_
 refine RD.call (i := 1) (integer_value s x y_) [0] k_ k_ k_ k_ k_ rfl (fun y6 _ => ?_)
 refine RD.call (i := 3) (integer_value t z y_) [2] k_ k_ k_ k_ k_ rfl (fun y7 _ => ?_)
 refine RD.last (i := 4) (some 2) [2, 3, 4, 8] [b3, b3] k_ k_ k_ (l' := [(2, pt b3), (3, pt b4), (4, pt b5), (8, intV y7 (encZ (zv z)))]) (M' := [(b5, .cells #[.bool false, sl saNil ([] : List Nat).length] 38 (0, 0)), (b4, .cells #[.bool z.neg, sl t z.mag.length] 38 (0, 0)), (b3, .cells #[.bool (decide ((zv x) < 0)), sl y6 (toL ((zv x).natAbs)).length] 38 (0, 0))]) k_ ?_
 refine RD.last (i := 5) (some 1) [2, 3, 4] [b4, b4] k_ k_ k_ (l' := [(2, pt b3), (3, pt b4), (4, pt b5)]) (M' := [(b5, .cells #[.bool false, sl saNil ([] : List Nat).length] 38 (0, 0)), (b4, .cells #[.bool (decide ((zv z) < 0)), sl y7 (toL ((zv z).natAbs)).length] 38 (0, 0)), (b3, .cells #[.bool (decide ((zv x) < 0)), sl y6 (toL ((zv x).natAbs)).length] 38 (0, 0))]) k_ ?_
 refine RD.done k_ ?_
 refine KN.next ?_
 refine J.seq ?_
 refine J.regD k_ [11] ?_
 refine RD.bq [(0, none), (1, some 2), (2, none), (3, some 1), (4, none), (5, none), (6, some 2), (7, none), (8, some 1)] [4, 13, 15, 17] [b4, b3, b4, b3] [(4, pt b5), (13, .bool ((decide ((zv x) < 0)) != (decide ((zv z) < 0)))), (15, sl y6 (toL ((zv x).natAbs)).length), (17, sl y7 (toL ((zv z).natAbs)).length)] k_ k_ ?_
 refine RD.call (i := 9) (natural_Mul_c y6 ((zv x).natAbs) y7 ((zv z).natAbs) y_ y_) [1, 0] k_ k_ k_ k_ k_ rfl (fun y8 _ => ?_)
 refine RD.call (i := 10) (integer_signed ((decide ((zv x) < 0)) != (decide ((zv z) < 0))) y8 (((zv x).natAbs) * ((zv z).natAbs))) [0] k_ k_ k_ k_ k_ rfl (fun y9 _ => ?_)
 refine RD.last (i := 11) (some 0) [4] [b5, b5] k_ k_ k_ (l' := [(4, pt b5)]) (M' := [(b5, .cells #[.bool (decide ((sgn ((decide ((zv x) < 0)) != (decide ((zv z) < 0))) (((zv x).natAbs) * ((zv z).natAbs))) < 0)), sl y9 (toL ((sgn ((decide ((zv x) < 0)) != (decide ((zv z) < 0))) (((zv x).natAbs) * ((zv z).natAbs))).natAbs)).length] 38 (0, 0)), (b4, .cells #[.bool (decide ((zv z) < 0)), sl y7 (toL ((zv z).natAbs)).length] 38 (0, 0)), (b3, .cells #[.bool (decide ((zv x) < 0)), sl y6 (toL ((zv x).natAbs)).length] 38 (0, 0))]) k_ ?_
 refine RD.done k_ ?_
 refine KN.next ?_
 have e_1 : (zv x * zv z) = (sgn ((decide ((zv x) < 0)) != (decide ((zv z) < 0))) (((zv x).natAbs) * ((zv z).natAbs))) := by rw [sgn_mul]
 refine J.ret (KR.ret (v := intV y9 (encZ (sgn ((decide ((zv x) < 0)) != (decide ((zv z) < 0))) (((zv x).natAbs) * ((zv z).natAbs))))) (y9) [some 0] [0] [b5, b5] k_ v1_ (trivial) v1_)
theorem integer_Mul_c (s : SA) (x' : Int) (t : SA) (z' : Int) (hxl : (toL (x'.natAbs)).length ≤ 1099511627776) (hzl : (toL (z'.natAbs)).length ≤ 1099511627776) : Spec Tryz.prog 133 #[intV s (encZ x'), intV t (encZ z')] [fU s (toL (x'.natAbs)), fU t (toL (z'.natAbs))] (ι := SA) (fun y => intV y (encZ (x' * z'))) (fun y => True) (fun y => [fU y (toL ((x' * z').natAbs))]) := by
  have H := integer_Mul s (encZ x') t (encZ z') (Lb_toL _) (by first | exact hxl | simpa only [zv_encZ, zv_encZ] using hxl) (Lb_toL _) (by first | exact hzl | simpa only [zv_encZ, zv_encZ] using hzl)
  first | exact H | (simp only [zv_encZ, validZ_encZ] at H; exact H)
end Go.Proofs.YtbiifkfbkaejlaaGreat.E
/- Rational numbers by their limbs, and their sizes. -/
namespace Go.Proofs.YtbiifkfbkaejlaaGreat.E
open Go Go.RowKit
set_option linter.unusedVariables false
set_option linter.unusedSimpArgs false
def toD (d : Nat) : List Nat := if d = 1 then [] else toL d
def encQ (q : Rat) : Raw := ⟨decide (q.num < 0), toL q.num.natAbs, toD q.den⟩
def validQ (r : Raw) : Bool := validZ ⟨r.neg, r.mag⟩ && validU r.den && (decide (r.den.length = 0) || (!decide (r.mag.length = 0) && !decide (lv r.den = 1) && decide (Nat.gcd (lv r.mag) (lv r.den) = 1)))
def dlv (d : List Nat) : Nat := if d.length = 0 then 1 else lv d
def qv (r : Raw) : Rat := if validQ r then mkRat (zv ⟨r.neg, r.mag⟩) (dlv r.den) else 0
theorem Lb_toD (d : Nat) : Lb (toD d) := by unfold toD; split; exact Lb_nil; exact Lb_toL d
theorem toD_len {d : Nat} (hd : d ≠ 0) : (toD d).length = 0 ↔ d = 1 := by
  unfold toD; split
  · simp [*]
  · rw [toL_len0]; omega
theorem toD_one : toD 1 = [] := rfl
theorem toD_ne {d : Nat} (h : d ≠ 1) : toD d = toL d := if_neg h
theorem toD_valid (d : Nat) : validU (toD d) = true := by unfold toD; split; rfl; exact validU_toL d
theorem dlv_toD {d : Nat} (hd : d ≠ 0) : dlv (toD d) = d := by
  unfold dlv
  by_cases h : d = 1
  · subst h; rfl
  · rw [if_neg (by rw [toD_len hd]; exact h), toD_ne h, lv_toL]
theorem toD_le (d : Nat) : (toD d).length ≤ (toL d).length := by unfold toD; split; exact Nat.zero_le _; exact Nat.le_refl _
theorem validQ_encQ (q : Rat) : validQ (encQ q) = true := by
  have hz : validZ ⟨(encQ q).neg, (encQ q).mag⟩ = true := validZ_encZ q.num
  have hd := q.den_nz
  unfold validQ
  rw [hz]
  show (true && validU (toD q.den) && (decide ((toD q.den).length = 0) || _)) = true
  rw [toD_valid]
  by_cases h : q.den = 1
  · rw [h]; rfl
  · have h0 : ¬ (toD q.den).length = 0 := by rw [toD_len hd]; exact h
    have hn : q.num.natAbs ≠ 0 := by
      intro hn
      have := q.reduced
      rw [hn] at this
      exact h (by simpa [Nat.Coprime] using this)
    have hm : ¬ (toL q.num.natAbs).length = 0 := by rw [toL_len0]; exact hn
    have hc : Nat.gcd (lv (toL q.num.natAbs)) (lv (toD q.den)) = 1 := by rw [lv_toL, toD_ne h, lv_toL]; exact q.reduced
    have hl : ¬ lv (toD q.den) = 1 := by rw [toD_ne h, lv_toL]; exact h
    show (true && true && (decide ((toD q.den).length = 0) || (!decide ((toL q.num.natAbs).length = 0) && !decide (lv (toD q.den) = 1) && decide (Nat.gcd (lv (toL q.num.natAbs)) (lv (toD q.den)) = 1)))) = true
    simp [h0, hm, hc, hl]
theorem qv_encQ (q : Rat) : qv (encQ q) = q := by
  rw [qv, if_pos (validQ_encQ q)]
  show mkRat (zv (encZ q.num)) (dlv (toD q.den)) = q
  rw [zv_encZ, dlv_toD q.den_nz, Rat.mkRat_self]
theorem encQ_zero : encQ 0 = ⟨false, [], []⟩ := by
  show (⟨decide ((0 : Rat).num < 0), toL (0 : Rat).num.natAbs, toD (0 : Rat).den⟩ : Raw) = _
  have h1 : (0 : Rat).num = 0 := rfl
  have h2 : (0 : Rat).den = 1 := rfl
  rw [h1, h2]
  show (⟨decide ((0 : Int) < 0), toL 0, []⟩ : Raw) = _
  rw [toL_zero]; rfl
theorem encQ_qv_f {r : Raw} (h : validQ r = false) : encQ (qv r) = ⟨false, [], []⟩ := by rw [qv, if_neg (by simp [h]), encQ_zero]
theorem mk_num_den {n : Int} {d : Nat} (hd : d ≠ 0) (hc : Nat.gcd n.natAbs d = 1) : (mkRat n d).num = n ∧ (mkRat n d).den = d := by
  rw [← Rat.mk_eq_mkRat n d hd hc]; exact ⟨rfl, rfl⟩
theorem encQ_qv {r : Raw} (h1 : Lb r.mag) (h2 : Lb r.den) (h : validQ r = true) : encQ (qv r) = r := by
  have h' := h
  unfold validQ at h
  simp only [Bool.and_eq_true, Bool.or_eq_true, decide_eq_true_eq] at h
  obtain ⟨⟨hz, hd⟩, hr⟩ := h
  rw [qv, if_pos h']
  obtain ⟨ng, mg, dn⟩ := r
  simp only at *
  have ez := encZ_zv (z := ⟨ng, mg⟩) h1 hz
  have ez1 : decide (zv ⟨ng, mg⟩ < 0) = ng := congrArg RawI.neg ez
  have ez2 : toL (zv ⟨ng, mg⟩).natAbs = mg := congrArg RawI.mag ez
  have key : dlv dn ≠ 0 ∧ Nat.gcd (zv ⟨ng, mg⟩).natAbs (dlv dn) = 1 ∧ toD (dlv dn) = dn := by
    by_cases h0 : dn.length = 0
    · have : dn = [] := List.length_eq_zero_iff.1 h0
      subst this
      exact ⟨by decide, by simp [dlv], rfl⟩
    · rcases hr with hr | hr
      · exact absurd hr h0
      · have hne : dn ≠ [] := fun e => h0 (by rw [e]; rfl)
        have hp := lv_pos hd hne
        have h1' : lv dn ≠ 1 := by simpa using hr.1.2
        have hg := hr.2
        have el : dlv dn = lv dn := if_neg h0
        have em : lv mg = (zv ⟨ng, mg⟩).natAbs := by rw [← ez2, lv_toL]; rw [ez2]
        rw [el]
        exact ⟨hp, by rw [← em]; exact hg, by rw [toD_ne h1', toL_lv h2 hd]⟩
  obtain ⟨k1, k2, k3⟩ := key
  obtain ⟨e1, e2⟩ := mk_num_den k1 k2
  show (⟨decide ((mkRat (zv ⟨ng, mg⟩) (dlv dn)).num < 0), toL (mkRat (zv ⟨ng, mg⟩) (dlv dn)).num.natAbs, toD (mkRat (zv ⟨ng, mg⟩) (dlv dn)).den⟩ : Raw) = _
  rw [e1, e2, ez1, ez2, k3]
/-- A number in lowest terms. -/
theorem low_num {n : Int} {d : Nat} (hd : d ≠ 0) : (mkRat n d).num = n / ((Nat.gcd n.natAbs d : Nat) : Int) ∧ (mkRat n d).den = d / Nat.gcd n.natAbs d := by
  rw [Rat.mkRat_def, dif_neg hd, Rat.normalize_eq hd]; exact ⟨rfl, rfl⟩
theorem low_enc {n : Int} {d : Nat} (hd : d ≠ 0) : encQ (mkRat n d) = ⟨decide (n < 0), toL (n.natAbs / Nat.gcd n.natAbs d), toD (d / Nat.gcd n.natAbs d)⟩ := by
  obtain ⟨e1, e2⟩ := low_num (n := n) hd
  have hg : 0 < Nat.gcd n.natAbs d := Nat.gcd_pos_of_pos_right _ (Nat.pos_of_ne_zero hd)
  have hdv : ((Nat.gcd n.natAbs d : Nat) : Int) ∣ n := Int.ofNat_dvd_left.2 (Nat.gcd_dvd_left _ _)
  have hn : (n / ((Nat.gcd n.natAbs d : Nat) : Int)).natAbs = n.natAbs / Nat.gcd n.natAbs d := by
    rw [Int.natAbs_ediv_of_dvd hdv]; rfl
  have hs : decide (n / ((Nat.gcd n.natAbs d : Nat) : Int) < 0) = decide (n < 0) := by
    obtain ⟨k, hk⟩ := hdv
    generalize Nat.gcd n.natAbs d = g at *
    have hg' : (0 : Int) < (g : Int) := by omega
    have e : n / (g : Int) = k := by rw [hk, Int.mul_ediv_cancel_left _ (by omega)]
    rw [e, decide_eq_decide, hk]
    constructor
    · intro h; exact Int.mul_neg_of_pos_of_neg hg' h
    · intro h
      apply Int.lt_of_not_ge
      intro h0
      have := Int.mul_nonneg (Int.le_of_lt hg') h0
      omega
  show (⟨decide ((mkRat n d).num < 0), toL (mkRat n d).num.natAbs, toD (mkRat n d).den⟩ : Raw) = _
  rw [e1, e2, hn, hs]
/-! sizes -/
def Q (k : Nat) (q : Rat) : Prop := (toL q.num.natAbs).length ≤ k ∧ (toL q.den).length ≤ k
def RQ (k : Nat) (r : Raw) : Prop := Lb r.mag ∧ Lb r.den ∧ r.mag.length ≤ k ∧ r.den.length ≤ k ∧ Q k (qv r)
theorem Q.le {a b : Nat} {q : Rat} (h : Q a q) (hab : a ≤ b) : Q b q := ⟨Nat.le_trans h.1 hab, Nat.le_trans h.2 hab⟩
theorem RQ_enc {k : Nat} {q : Rat} (h : Q k q) : RQ k (encQ q) := ⟨Lb_toL _, Lb_toD _, h.1, Nat.le_trans (toD_le _) h.2, by rw [qv_encQ]; exact h⟩
theorem Q_iff {k : Nat} {q : Rat} : Q k q ↔ q.num.natAbs < W ^ k ∧ q.den < W ^ k :=
  ⟨fun h => ⟨lt_of_length h.1, lt_of_length h.2⟩, fun h => ⟨length_toL h.1, length_toL h.2⟩⟩
theorem Q_mk {n : Int} {d k : Nat} (hd : d ≠ 0) (h1 : n.natAbs < W ^ k) (h2 : d < W ^ k) : Q k (mkRat n d) := by
  obtain ⟨e1, e2⟩ := low_num (n := n) hd
  have hdv : ((Nat.gcd n.natAbs d : Nat) : Int) ∣ n := Int.ofNat_dvd_left.2 (Nat.gcd_dvd_left _ _)
  refine Q_iff.2 ⟨?_, ?_⟩
  · rw [e1, Int.natAbs_ediv_of_dvd hdv]
    exact Nat.lt_of_le_of_lt (Nat.div_le_self _ _) h1
  · rw [e2]; exact Nat.lt_of_le_of_lt (Nat.div_le_self _ _) h2
theorem den_mul_ne (p q : Rat) : p.den * q.den ≠ 0 := Nat.mul_ne_zero p.den_nz q.den_nz
theorem mul_lt_pow {a b k l : Nat} (ha : a < W ^ k) (hb : b < W ^ l) : a * b < W ^ (k + l) := by
  rw [Nat.pow_add]
  exact Nat.mul_lt_mul_of_lt_of_le ha (Nat.le_of_lt hb) (Wpos l)
theorem Q.neg {k : Nat} {q : Rat} (h : Q k q) : Q k (-q) := by
  unfold Q at *
  rw [Rat.neg_num, Int.natAbs_neg]; exact h
theorem Q.mul {k l : Nat} {p q : Rat} (hp : Q k p) (hq : Q l q) : Q (k + l) (p * q) := by
  rw [Rat.mul_def']
  obtain ⟨a, b⟩ := Q_iff.1 hp
  obtain ⟨c, d⟩ := Q_iff.1 hq
  exact Q_mk (den_mul_ne p q) (by rw [Int.natAbs_mul]; exact mul_lt_pow a c) (mul_lt_pow b d)
theorem add_lt_pow {a b k : Nat} (ha : a < W ^ k) (hb : b < W ^ k) : a + b < W ^ (k + 1) := by
  rw [Nat.pow_succ, W_eq] at *; omega
theorem Q.add {k l : Nat} {p q : Rat} (hp : Q k p) (hq : Q l q) : Q (k + l + 1) (p + q) := by
  rw [Rat.add_def']
  obtain ⟨a, b⟩ := Q_iff.1 hp
  obtain ⟨c, d⟩ := Q_iff.1 hq
  refine Q_mk (den_mul_ne p q) (Nat.lt_of_le_of_lt (Int.natAbs_add_le _ _) (add_lt_pow ?_ ?_)) (Nat.lt_of_lt_of_le (mul_lt_pow b d) (Nat.pow_le_pow_right (by decide) (Nat.le_succ _)))
  · rw [Int.natAbs_mul]; exact mul_lt_pow a d
  · rw [Int.natAbs_mul, Nat.add_comm]; exact mul_lt_pow c b
theorem Q.sub {k l : Nat} {p q : Rat} (hp : Q k p) (hq : Q l q) : Q (k + l + 1) (p - q) := by
  rw [Rat.sub_eq_add_neg]; exact hp.add hq.neg
theorem zlen_mulN (a : Int) (d : Nat) : (toL (a * (d : Int)).natAbs).length ≤ (toL a.natAbs).length + (toL d).length := by
  rw [Int.natAbs_mul, Int.natAbs_natCast]
  exact length_toL (mul_lt_pow (lt_of_length (Nat.le_refl _)) (lt_of_length (Nat.le_refl _)))
theorem zlen_mul (a b : Int) : (toL (a * b).natAbs).length ≤ (toL a.natAbs).length + (toL b.natAbs).length := by
  rw [Int.natAbs_mul]
  exact length_toL (mul_lt_pow (lt_of_length (Nat.le_refl _)) (lt_of_length (Nat.le_refl _)))
theorem nlen_mul (a b : Nat) : (toL (a * b)).length ≤ (toL a).length + (toL b).length :=
  length_toL (mul_lt_pow (lt_of_length (Nat.le_refl _)) (lt_of_length (Nat.le_refl _)))
theorem zlen_add {a b : Int} {k : Nat} (ha : (toL a.natAbs).length ≤ k) (hb : (toL b.natAbs).length ≤ k) : (toL (a + b).natAbs).length ≤ k + 1 :=
  length_toL (Nat.lt_of_le_of_lt (Int.natAbs_add_le _ _) (add_lt_pow (lt_of_length ha) (lt_of_length hb)))
theorem encQ_neg (q : Rat) : encQ (-q) = ⟨decide (-q.num < 0), toL (-q.num).natAbs, toD q.den⟩ := by
  show (⟨decide ((-q).num < 0), toL (-q).num.natAbs, toD (-q).den⟩ : Raw) = _
  rw [Rat.neg_num]; rfl
theorem encQ_int (v : Int) : encQ (v : Rat) = ⟨decide (v < 0), toL v.natAbs, []⟩ := rfl
theorem int_of_den {q : Rat} (h : q.den = 1) : q = (q.num : Rat) := Rat.ext rfl h
theorem encQ_addI {x y : Rat} (hx : x.den = 1) (hy : y.den = 1) : encQ (x + y) = ⟨decide (x.num + y.num < 0), toL (x.num + y.num).natAbs, []⟩ := by
  have e : x + y = ((x.num + y.num : Int) : Rat) := by rw [Rat.intCast_add, ← int_of_den hx, ← int_of_den hy]
  rw [e, encQ_int]
theorem encQ_mulI {x y : Rat} (hx : x.den = 1) (hy : y.den = 1) : encQ (x * y) = ⟨decide (x.num * y.num < 0), toL (x.num * y.num).natAbs, []⟩ := by
  have e : x * y = ((x.num * y.num : Int) : Rat) := by rw [Rat.intCast_mul, ← int_of_den hx, ← int_of_den hy]
  rw [e, encQ_int]
theorem mk_pos {n d : Int} (h : 0 < d) : mkRat n d.natAbs = (n : Rat) / (d : Rat) := by
  rw [Rat.mkRat_eq_div]
  congr 1
  have : ((d.natAbs : Nat) : Int) = d := by omega
  rw [← this]; rfl
theorem mk_neg {n d : Int} (h : d < 0) : mkRat (-n) d.natAbs = (n : Rat) / (d : Rat) := by
  rw [← Rat.divInt_eq_div]
  cases d with
  | ofNat k => exact absurd h (by simp)
  | negSucc k =>
    show mkRat (-n) (k + 1) = Rat.normalize (-n) (k + 1) (Nat.succ_ne_zero k)
    rw [Rat.mkRat_def, dif_neg (Nat.succ_ne_zero k)]
theorem div_parts (x y : Rat) : ((x.num * (y.den : Int) : Int) : Rat) / ((y.num * (x.den : Int) : Int) : Rat) = x / y := by
  have hx := Rat.num_divInt_den x
  have hy := Rat.num_divInt_den y
  rw [← Rat.divInt_eq_div, Rat.div_def]
  have e : x * y⁻¹ = (Rat.divInt x.num x.den) * (Rat.divInt y.num y.den)⁻¹ := by rw [hx, hy]
  rw [e, Rat.inv_divInt, Rat.divInt_mul_divInt, Int.mul_comm (x.den : Int)]
def cmpQ (x y : Rat) : Int := cmpI (x.num * (y.den : Int)) (y.num * (x.den : Int))
theorem cmpQ_lt {x y : Rat} : cmpQ x y < 0 ↔ x < y := by
  unfold cmpQ cmpI; rw [Rat.lt_iff]
  split
  · simp [*]
  · split <;> simp [*]
theorem cmpQ_gt {x y : Rat} : cmpQ x y > 0 ↔ y < x := by
  unfold cmpQ cmpI; rw [Rat.lt_iff]
  split
  · simp; omega
  · split
    · simp; omega
    · simp; omega
theorem cmpN_zero {a b : Nat} : cmpN a b = 0 ↔ a = b := by
  rcases cmpN_cases a b with ⟨h, e⟩ | ⟨h, e⟩ | ⟨h, e⟩ <;> rw [e] <;> constructor <;> intro h' <;> omega
theorem toL_1 : toL 1 = [1] := by rw [toL_pos (by decide), show 1 / W = 0 from rfl, toL_zero]; rfl
end Go.Proofs.YtbiifkfbkaejlaaGreat.E
namespace Go.Proofs.YtbiifkfbkaejlaaGreat.E
open Go Go.RowKit
set_option linter.unusedVariables false
set_option linter.unusedSimpArgs false
theorem integer_Add_nil (s : SA) (n : Int) (hl : (toL (n.natAbs)).length ≤ 1099511627776) : Spec Tryz.prog 106 #[intV s (encZ n), intV saNil (⟨false, ([] : List Nat)⟩ : RawI)] [fU s (toL (n.natAbs)), fU saNil ([] : List Nat)] (ι := SA) (fun y => intV y (encZ n)) (fun y => True) (fun y => [fU y (toL (n.natAbs))]) := by
  have H := integer_Add s (encZ n) saNil ⟨false, []⟩ (Lb_toL _) hl Lb_nil (by simp)
  simp only [zv_encZ, zv_nil, Int.add_zero] at H
  exact H
theorem natural_AddD_nil (s : SA) (d : Nat) (hl : (toD d).length ≤ 1099511627776) : Spec Tryz.prog 139 #[sl s (toD d).length, .slice none 0 0] [fU s (toD d), fU saNil ([] : List Nat)] (ι := SA) (fun y => sl y (toD d).length) (fun y => True) (fun y => [fU y (toD d)]) := by
  have H := natural_Add s (toD d) saNil [] (Lb_toD _) Lb_nil hl (by simp)
  have e : toL (nv (toD d) + nv []) = toD d := by
    rw [nv_nil, Nat.add_zero, nv_of_valid (toD_valid d), toL_lv (Lb_toD d) (toD_valid d)]
  rw [e] at H
  exact H
theorem sign_lt0 {d : Int} (h : Int.sign d < 0) : d < 0 := by
  rcases Int.lt_trichotomy d 0 with h1 | h1 | h1
  · exact h1
  · subst h1; simp at h
  · rw [Int.sign_eq_one_of_pos h1] at h; omega
theorem sign_nlt0 {d : Int} (h : ¬ Int.sign d < 0) (h0 : d ≠ 0) : 0 < d := by
  rcases Int.lt_trichotomy d 0 with h1 | h1 | h1
  · rw [Int.sign_eq_neg_one_of_neg h1] at h; omega
  · exact absurd h1 h0
  · exact h1
theorem rational_one : Spec Tryz.prog 137 #[] [] (ι := SA) (fun y => sl y (toL 1).length) (fun y => True) (fun y => [fU y (toL 1)]) := by
 refine Spec.of_body _ (fn := Tryz.f137) k_ rfl k_ (fun X w0 => ?_)
 refine J.sreg ?_
 refine RN.bq (no 1) [] [] 1 [] k_ ?_
 refine RN.fs k_ ?_
 refine RN.new (fun b => .slice (some ⟨b, 0, none⟩) 1 1) (.cells (encU ([1] : List Nat)) 107 (0, 0)) k_ k_ (fun w => by kernel_rfl) (fun b1 => ?_)
 refine RN.bq (no 1) [0] [] 2 [(0, .slice (some ⟨b1, 0, none⟩) 1 1)] k_ ?_
 refine RN.fin k_ ?_
 refine J.share 0 rfl rfl ?_
 refine J.also (fU (⟨some ⟨b1, 0, none⟩, 1⟩ : SA) ([1] : List Nat)) (fun w h => fU_own (h _ (.head _)) x_ x_) ?_
 refine J.turn 0 (v := .slice (some ⟨b1, 0, none⟩) 1 1) (v' := sl (⟨some ⟨b1, 0, none⟩, 1⟩ : SA) ([1] : List Nat).length) k_ (sl_eq x_) ?_
 have e_1 : (toL 1) = ([1] : List Nat) := by exact toL_1
 refine J.ret (KR.ret (v := sl (⟨some ⟨b1, 0, none⟩, 1⟩ : SA) ([1] : List Nat).length) ((⟨some ⟨b1, 0, none⟩, 1⟩ : SA)) [none] [0] [] k_ v1_ (trivial) v1_)
theorem rational_den (p : RA) (q : Rat) : Spec Tryz.prog 105 #[ratV p (encQ q)] [fRat p (encQ q)] (ι := SA) (fun y => sl y (toL (q.den)).length) (fun y => True) (fun y => [fU y (toL (q.den))]) := by
 refine Spec.of_body _ (fn := Tryz.f105) k_ rfl k_ (fun X w0 => ?_)
 refine J.fact (φ := (encQ q).mag.length ≤ 140737488355328 ∧ (encQ q).den.length ≤ 140737488355328) (fun w h => by have h1 := (h _ (.head _)).1.1; have h2 := (h _ (.head _)).2.1; omega) (fun hl1 => ?_)
 refine J.sreg ?_
 refine RN.new (fun b => pt b) (.cells (ratC p (encQ q)) 40 (0, 0)) k_ k_ (fun w => by kernel_rfl) (fun b2 => ?_)
 refine RN.bq (no 1) [1] [] 2 [(1, pt b2)] k_ ?_
 refine RN.fin k_ ?_
 refine J.seq ?_
 refine J.sreg ?_
 refine RN.bq [none, some 0, none, none] [1, 6] [b2] 4 [(1, pt b2), (6, .bool (((((toD (q.den)).length : Nat) : Int) : Int) == 0))] k_ ?_
 refine RN.fin k_ ?_
 refine J.cond (((((toD (q.den)).length : Nat) : Int) : Int) == 0) k_ (fun c3 => ?_) (fun c3 => ?_)
 ·replace c3 := eq_of_beq c3
  refine J.sreg ?_
  refine RN.call (rational_one) [] k_ k_ k_ rfl (fun y4 _ => ?_)
  refine RN.bq (no 1) [2] [] 2 [(2, sl y4 (toL 1).length)] k_ ?_
  refine RN.fin k_ ?_
  have e_1 : (toL (q.den)) = (toL 1) := by rw [(toD_len q.den_nz).1 (by omega)]
  refine J.ret (KR.next (KR.ret (v := sl y4 (toL 1).length) (y4) [none] [0] [] k_ v1_ (trivial) v1_))
 ·replace c3 := ne_of_beq_false c3
  refine J.skip ?_
  refine KN.next ?_
  refine J.sreg ?_
  refine RN.bq [none, some 0, none] [2] [b2] 3 [(2, sl (p.den) (toD (q.den)).length)] k_ ?_
  refine RN.fin k_ ?_
  have e_1 : (toL (q.den)) = (toD (q.den)) := by rw [toD_ne (fun h => by have := (toD_len q.den_nz).2 h; omega)]
  refine J.also (fU (p.den) (toD (q.den))) (fun w h => (h _ (.head _)).2) ?_
  refine J.ret (KR.ret (v := sl (p.den) (toD (q.den)).length) (p.den) [none] [0] [] k_ v1_ (trivial) v1_)
theorem y_rational_lowest {p : Prop} (h : p := by first | assumption | exact Lb_toL _ | omega | (simp; done) | exact Nat.le_trans (length_toL_mono (Nat.div_le_self _ _)) hld) : p := h
theorem rational_lowest (s : SA) (n : Int) (t : SA) (d : Nat) (hd : d ≠ 0) (hln : (toL (n.natAbs)).length ≤ 1099511627776) (hld : (toL d).length ≤ 1099511627776) : Spec Tryz.prog 107 #[intV s (encZ n), sl t (toL d).length] [fU s (toL (n.natAbs)), fU t (toL d)] (ι := RA) (fun y => ratV y (encQ (mkRat n d))) (fun y => True) (fun y => [fRat y (encQ (mkRat n d))]) := by
 refine Spec.of_body _ (fn := Tryz.f107) k_ rfl k_ (fun X w0 => ?_)
 refine J.fact (φ := (toL (n.natAbs)).length ≤ 140737488355328) (fun w h => by have := (h _ (.head _)).1; omega) (fun hl1 => ?_)
 refine J.fact (φ := (toL d).length ≤ 140737488355328) (fun w h => by have := (h _ (.tail _ ((.head _)))).1; omega) (fun hl2 => ?_)
 have hg := length_toL_mono (Nat.gcd_le_right n.natAbs (Nat.pos_of_ne_zero hd))
 refine J.sreg ?_
 refine RN.new (fun b => pt b) (.cells #[.bool (decide (n < 0)), sl s (toL (n.natAbs)).length] 38 (0, 0)) k_ k_ (fun w => by kernel_rfl) (fun b3 => ?_)
 refine RN.new (fun b => pt b) (.cells (ratC (⟨saNil, saNil⟩ : RA) (⟨false, ([] : List Nat), ([] : List Nat)⟩ : Raw)) 40 (0, 0)) k_ k_ (fun w => by kernel_rfl) (fun b4 => ?_)
 refine RN.fs k_ ?_
 refine RN.bq [none, some 1, none] [1, 2, 4, 10, 11] [b3] 3 [(1, sl t (toL d).length), (2, pt b3), (4, pt b4), (10, sl s (toL (n.natAbs)).length), (11, sl t (toL d).length)] k_ ?_
 refine RN.call (natural_Gcd_c s (n.natAbs) t d y_rational_lowest y_rational_lowest) [0, 1] k_ k_ k_ rfl (fun y5 _ => ?_)
 refine RN.bq (no 1) [1, 2, 4, 5] [] 5 [(1, sl t (toL d).length), (2, pt b3), (4, pt b4), (5, sl y5 (toL (Nat.gcd (n.natAbs) d)).length)] k_ ?_
 refine RN.fs k_ ?_
 refine RN.bq [none, some 1, none] [1, 2, 4, 5, 15, 16] [b3] 3 [(1, sl t (toL d).length), (2, pt b3), (4, pt b4), (5, sl y5 (toL (Nat.gcd (n.natAbs) d)).length), (15, sl s (toL (n.natAbs)).length), (16, sl y5 (toL (Nat.gcd (n.natAbs) d)).length)] k_ ?_
 refine RN.call (natural_Div_c s (n.natAbs) y5 (Nat.gcd (n.natAbs) d) y_rational_lowest y_rational_lowest) [1, 0] k_ k_ k_ rfl (fun y6 _ => ?_)
 refine RN.bq (no 7) [1, 2, 4, 5, 6] [] 11 [(1, sl t (toL d).length), (2, pt b3), (4, pt b4), (5, sl y5 (toL (Nat.gcd (n.natAbs) d)).length), (6, sl y6.1 (toL ((n.natAbs) / (Nat.gcd (n.natAbs) d))).length)] k_ ?_
 refine RN.fs k_ ?_
 refine RN.bq (no 2) [2, 4, 6, 22, 23] [] 2 [(2, pt b3), (4, pt b4), (6, sl y6.1 (toL ((n.natAbs) / (Nat.gcd (n.natAbs) d))).length), (22, sl t (toL d).length), (23, sl y5 (toL (Nat.gcd (n.natAbs) d)).length)] k_ ?_
 refine RN.call (natural_Div_c t d y5 (Nat.gcd (n.natAbs) d) y_rational_lowest y_rational_lowest) [4, 2] k_ k_ k_ rfl (fun y7 _ => ?_)
 refine RN.bq (no 5) [1, 2, 4, 6] [] 8 [(1, sl y7.1 (toL (d / (Nat.gcd (n.natAbs) d))).length), (2, pt b3), (4, pt b4), (6, sl y6.1 (toL ((n.natAbs) / (Nat.gcd (n.natAbs) d))).length)] k_ ?_
 refine RN.fin k_ ?_
 refine J.seq ?_
 refine J.sreg ?_
 refine RN.bq (no 1) [1, 2, 4, 6, 28] [] 1 [(1, sl y7.1 (toL (d / (Nat.gcd (n.natAbs) d))).length), (2, pt b3), (4, pt b4), (6, sl y6.1 (toL ((n.natAbs) / (Nat.gcd (n.natAbs) d))).length), (28, sl y7.1 (toL (d / (Nat.gcd (n.natAbs) d))).length)] k_ ?_
 refine RN.call (rational_one) [] k_ k_ k_ rfl (fun y8 _ => ?_)
 refine RN.call (natural_Compare_c y7.1 (d / (Nat.gcd (n.natAbs) d)) y8 1) [1, 0] k_ k_ k_ rfl (fun y9 _ => ?_)
 refine RN.bq (no 1) [1, 2, 4, 6, 31] [] 4 [(1, sl y7.1 (toL (d / (Nat.gcd (n.natAbs) d))).length), (2, pt b3), (4, pt b4), (6, sl y6.1 (toL ((n.natAbs) / (Nat.gcd (n.natAbs) d))).length), (31, .bool (((cmpN (d / (Nat.gcd (n.natAbs) d)) 1) : Int) == 0))] k_ ?_
 refine RN.fin k_ ?_
 refine J.cond (((cmpN (d / (Nat.gcd (n.natAbs) d)) 1) : Int) == 0) k_ (fun c10 => ?_) (fun c10 => ?_)
 ·replace c10 := eq_of_beq c10
  have h1 := cmpN_zero.1 c10
  refine J.regN ?_
  refine RN.bq (no 1) [1, 2, 4, 6] [] 1 [(1, .slice none 0 0), (2, pt b3), (4, pt b4), (6, sl y6.1 (toL ((n.natAbs) / (Nat.gcd (n.natAbs) d))).length)] k_ ?_
  refine RN.fs k_ ?_
  refine RN.bs [none, some 1, none, none, none, none, some 0] [4] [b4, b4, b4, b3] 7 [(4, pt b4)] ([(b4, .cells (ratC (⟨y6.1, saNil⟩ : RA) (⟨decide (n < 0), toL ((n.natAbs) / (Nat.gcd (n.natAbs) d)), ([] : List Nat)⟩ : Raw)) 40 (0, 0)), (b3, .cells #[.bool (decide (n < 0)), sl s (toL (n.natAbs)).length] 38 (0, 0))]) k_ ?_
  refine RN.fin k_ ?_
  have e_1 : (encQ (mkRat n d)) = (⟨decide (n < 0), toL ((n.natAbs) / (Nat.gcd (n.natAbs) d)), ([] : List Nat)⟩ : Raw) := by rw [low_enc hd, h1, toD_one]
  have e_2 : (toL (((mkRat n d).num).natAbs)) = (toL ((n.natAbs) / (Nat.gcd (n.natAbs) d))) := congrArg Raw.mag e_1
  have e_3 : (toD ((mkRat n d).den)) = ([] : List Nat) := congrArg Raw.den e_1
  refine J.also (fRat (⟨y6.1, saNil⟩ : RA) (⟨decide (n < 0), toL ((n.natAbs) / (Nat.gcd (n.natAbs) d)), ([] : List Nat)⟩ : Raw)) (fun w h => ⟨(h _ (.tail _ ((.tail _ ((.tail _ ((.head _)))))))), fU_nil w⟩) ?_
  refine J.ret (KR.ret (v := ratV (⟨y6.1, saNil⟩ : RA) (⟨decide (n < 0), toL ((n.natAbs) / (Nat.gcd (n.natAbs) d)), ([] : List Nat)⟩ : Raw)) (⟨y6.1, saNil⟩) [some 0] [0] [b4, b4, b4] k_ (by first | rfl | (rw [e_1]; done) | (simp only [e_1]; done) | (rw [e_2, e_3]; done) | (rw [e_1, e_2, e_3]; rfl) | (simp only [e_1, e_2, e_3]; done) | (simp only [e_1, e_2, e_3]; rfl)) (trivial) (by first | rfl | (rw [e_1]; done) | (simp only [e_1]; done) | (rw [e_2, e_3]; done) | (rw [e_1, e_2, e_3]; rfl) | (simp only [e_1, e_2, e_3]; done) | (simp only [e_1, e_2, e_3]; rfl)))
 ·replace c10 := ne_of_beq_false c10
  have h1 := mt cmpN_zero.2 c10
  refine J.skip ?_
  refine KN.next ?_
  refine J.sreg ?_
  refine RN.bs [none, some 1, none, none, none, none, some 0] [4] [b4, b4, b4, b3] 7 [(4, pt b4)] ([(b4, .cells (ratC (⟨y6.1, y7.1⟩ : RA) (⟨decide (n < 0), toL ((n.natAbs) / (Nat.gcd (n.natAbs) d)), toL (d / (Nat.gcd (n.natAbs) d))⟩ : Raw)) 40 (0, 0)), (b3, .cells #[.bool (decide (n < 0)), sl s (toL (n.natAbs)).length] 38 (0, 0))]) k_ ?_
  refine RN.fin k_ ?_
  have e_1 : (encQ (mkRat n d)) = (⟨decide (n < 0), toL ((n.natAbs) / (Nat.gcd (n.natAbs) d)), toL (d / (Nat.gcd (n.natAbs) d))⟩ : Raw) := by rw [low_enc hd, toD_ne h1]
  have e_2 : (toL (((mkRat n d).num).natAbs)) = (toL ((n.natAbs) / (Nat.gcd (n.natAbs) d))) := congrArg Raw.mag e_1
  have e_3 : (toD ((mkRat n d).den)) = (toL (d / (Nat.gcd (n.natAbs) d))) := congrArg Raw.den e_1
  refine J.also (fRat (⟨y6.1, y7.1⟩ : RA) (⟨decide (n < 0), toL ((n.natAbs) / (Nat.gcd (n.natAbs) d)), toL (d / (Nat.gcd (n.natAbs) d))⟩ : Raw)) (fun w h => ⟨(h _ (.tail _ ((.tail _ ((.tail _ ((.head _)))))))), (h _ (.tail _ ((.head _))))⟩) ?_
  refine J.ret (KR.ret (v := ratV (⟨y6.1, y7.1⟩ : RA) (⟨decide (n < 0), toL ((n.natAbs) / (Nat.gcd (n.natAbs) d)), toL (d / (Nat.gcd (n.natAbs) d))⟩ : Raw)) (⟨y6.1, y7.1⟩) [some 0] [0] [b4, b4, b4] k_ (by first | rfl | (rw [e_1]; done) | (simp only [e_1]; done) | (rw [e_2, e_3]; done) | (rw [e_1, e_2, e_3]; rfl) | (simp only [e_1, e_2, e_3]; done) | (simp only [e_1, e_2, e_3]; rfl)) (trivial) (by first | rfl | (rw [e_1]; done) | (simp only [e_1]; done) | (rw [e_2, e_3]; done) | (rw [e_1, e_2, e_3]; rfl) | (simp only [e_1, e_2, e_3]; done) | (simp only [e_1, e_2, e_3]; rfl)))
theorem rational_times (s : SA) (n : Int) (t : SA) (d : Nat) (hln : (toL (n.natAbs)).length ≤ 549755813888) (hld : (toL d).length ≤ 549755813888) : Spec Tryz.prog 104 #[intV s (encZ n), sl t (toL d).length] [fU s (toL (n.natAbs)), fU t (toL d)] (ι := SA) (fun y => intV y (encZ (n * ((d : Nat) : Int)))) (fun y => True) (fun y => [fU y (toL ((n * ((d : Nat) : Int)).natAbs))]) := by
 refine Spec.of_body _ (fn := Tryz.f104) k_ rfl k_ (fun X w0 => ?_)
 refine J.fact (φ := (toL (n.natAbs)).length ≤ 140737488355328) (fun w h => by have := (h _ (.head _)).1; omega) (fun hl1 => ?_)
 refine J.fact (φ := (toL d).length ≤ 140737488355328) (fun w h => by have := (h _ (.tail _ ((.head _)))).1; omega) (fun hl2 => ?_)
 refine J.sreg ?_
 refine RN.new (fun b => pt b) (.cells #[.bool (decide (n < 0)), sl s (toL (n.natAbs)).length] 38 (0, 0)) k_ k_ (fun w => by kernel_rfl) (fun b3 => ?_)
 refine RN.new (fun b => pt b) (.cells #[.bool false, sl saNil ([] : List Nat).length] 38 (0, 0)) k_ k_ (fun w => by kernel_rfl) (fun b4 => ?_)
 refine RN.fs k_ ?_
 refine RN.bq [some 1, none, none] [4, 5, 7] [b3, b3] 3 [(4, pt b4), (5, intV s (encZ n)), (7, intV t (encZ ((d : Nat) : Int)))] k_ ?_
 refine RN.call (integer_Mul_c s n t ((d : Nat) : Int) y_ y_) [0, 1] k_ k_ k_ rfl (fun y5 _ => ?_)
 refine RN.bs [some 0] [4] [b4, b4] 5 [(4, pt b4)] ([(b4, .cells #[.bool (decide ((n * ((d : Nat) : Int)) < 0)), sl y5 (toL ((n * ((d : Nat) : Int)).natAbs)).length] 38 (0, 0)), (b3, .cells #[.bool (decide (n < 0)), sl s (toL (n.natAbs)).length] 38 (0, 0))]) k_ ?_
 refine RN.fin k_ ?_
 refine J.ret (KR.ret (v := intV y5 (encZ (n * ((d : Nat) : Int)))) (y5) [some 0] [0] [b4, b4] k_ rfl (trivial) rfl)
theorem y_rational_Make {p : Prop} (h : p := by first | assumption | exact Lb_toL _ | omega | (simp; done) | first | (rw [Int.natAbs_neg]; assumption) | omega) : p := h
theorem rational_Make (s : SA) (n : Int) (t : SA) (d : Int) (hln : (toL (n.natAbs)).length ≤ 1099511627776) (hld : (toL (d.natAbs)).length ≤ 1099511627776) : Spec Tryz.prog 148 #[intV s (encZ n), intV t (encZ d)] [fU s (toL (n.natAbs)), fU t (toL (d.natAbs))] (ι := RA) (fun y => .tuple #[ratV y (encQ (((n : Int) : Rat) / ((d : Int) : Rat))), .int .i64 (if d = 0 then 5 else 0)]) (fun y => True) (fun y => [fRat y (encQ (((n : Int) : Rat) / ((d : Int) : Rat)))]) := by
 refine Spec.of_body _ (fn := Tryz.f148) k_ rfl k_ (fun X w0 => ?_)
 refine J.fact (φ := (toL (n.natAbs)).length ≤ 140737488355328) (fun w h => by have := (h _ (.head _)).1; omega) (fun hl1 => ?_)
 refine J.fact (φ := (toL (d.natAbs)).length ≤ 140737488355328) (fun w h => by have := (h _ (.tail _ ((.head _)))).1; omega) (fun hl2 => ?_)
 refine J.sreg ?_
 refine RN.new (fun b => pt b) (.cells #[.bool (decide (n < 0)), sl s (toL (n.natAbs)).length] 38 (0, 0)) k_ k_ (fun w => by kernel_rfl) (fun b3 => ?_)
 refine RN.new (fun b => pt b) (.cells #[.bool (decide (d < 0)), sl t (toL (d.natAbs)).length] 38 (0, 0)) k_ k_ (fun w => by kernel_rfl) (fun b4 => ?_)
 refine RN.new (fun b => pt b) (.cells (ratC (⟨saNil, saNil⟩ : RA) (⟨false, ([] : List Nat), ([] : List Nat)⟩ : Raw)) 40 (0, 0)) k_ k_ (fun w => by kernel_rfl) (fun b5 => ?_)
 refine RN.bq (no 1) [2, 3, 4] [] 4 [(2, pt b3), (3, pt b4), (4, pt b5)] k_ ?_
 refine RN.fin k_ ?_
 refine J.seq ?_
 refine J.sreg ?_
 refine RN.bq [some 1] [2, 3, 4, 6] [b4, b4] 1 [(2, pt b3), (3, pt b4), (4, pt b5), (6, intV t (encZ d))] k_ ?_
 refine RN.call (integer_Sign_c t d) [1] k_ k_ k_ rfl (fun y6 _ => ?_)
 refine RN.bq (no 1) [2, 3, 4, 8] [] 3 [(2, pt b3), (3, pt b4), (4, pt b5), (8, .bool (((Int.sign d) : Int) == 0))] k_ ?_
 refine RN.fin k_ ?_
 refine J.cond (((Int.sign d) : Int) == 0) k_ (fun c7 => ?_) (fun c7 => ?_)
 ·replace c7 := eq_of_beq c7
  have h0 := Int.sign_eq_zero_iff_zero.1 c7
  refine J.sreg ?_
  refine RN.bs [none, some 0, none] [4, 5] [b5, b5, b5] 3 [(4, pt b5), (5, .int .i64 5)] ([(b5, .cells (ratC (⟨saNil, saNil⟩ : RA) (⟨false, ([] : List Nat), ([] : List Nat)⟩ : Raw)) 40 (0, 0)), (b4, .cells #[.bool (decide (d < 0)), sl t (toL (d.natAbs)).length] 38 (0, 0)), (b3, .cells #[.bool (decide (n < 0)), sl s (toL (n.natAbs)).length] 38 (0, 0))]) k_ ?_
  refine RN.fin k_ ?_
  have e_1 : (encQ (((n : Int) : Rat) / ((d : Int) : Rat))) = (⟨false, ([] : List Nat), ([] : List Nat)⟩ : Raw) := by first | (rw [h0, show ((0 : Int) : Rat) = 0 from rfl, Rat.div_def, Rat.inv_zero, Rat.mul_zero, encQ_zero]; done) | simp [h0]
  have e_2 : (toL (((((n : Int) : Rat) / ((d : Int) : Rat)).num).natAbs)) = ([] : List Nat) := congrArg Raw.mag e_1
  have e_3 : (toD ((((n : Int) : Rat) / ((d : Int) : Rat)).den)) = ([] : List Nat) := congrArg Raw.den e_1
  have e_4 : (if d = 0 then 5 else 0 : Int) = (5 : Int) := by first | (rw [h0, show ((0 : Int) : Rat) = 0 from rfl, Rat.div_def, Rat.inv_zero, Rat.mul_zero, encQ_zero]; done) | simp [h0]
  refine J.also (fRat (⟨saNil, saNil⟩ : RA) (⟨false, ([] : List Nat), ([] : List Nat)⟩ : Raw)) (fun w h => ⟨fU_nil w, fU_nil w⟩) ?_
  refine J.ret (KR.next (KR.ret (v := .tuple #[ratV (⟨saNil, saNil⟩ : RA) (⟨false, ([] : List Nat), ([] : List Nat)⟩ : Raw), .int .i64 5]) (⟨saNil, saNil⟩) [some 0, none] [0] [b5, b5, b5] k_ (by first | rfl | (rw [e_1, e_4]; done) | (simp only [e_1, e_4]; done) | (rw [e_2, e_3]; done) | (rw [e_1, e_2, e_3, e_4]; rfl) | (simp only [e_1, e_2, e_3, e_4]; done) | (simp only [e_1, e_2, e_3, e_4]; rfl)) (trivial) (by first | rfl | (rw [e_1, e_4]; done) | (simp only [e_1, e_4]; done) | (rw [e_2, e_3]; done) | (rw [e_1, e_2, e_3, e_4]; rfl) | (simp only [e_1, e_2, e_3, e_4]; done) | (simp only [e_1, e_2, e_3, e_4]; rfl))))
 ·replace c7 := ne_of_beq_false c7
  have h0 : d ≠ 0 := fun h => c7 (by rw [h]; rfl)
  refine J.skip ?_
  refine KN.next ?_
  refine J.seq ?_
  refine J.sreg ?_
  refine RN.bq [some 1] [2, 3, 4, 10] [b4, b4] 1 [(2, pt b3), (3, pt b4), (4, pt b5), (10, intV t (encZ d))] k_ ?_
  refine RN.call (integer_Sign_c t d) [1] k_ k_ k_ rfl (fun y8 _ => ?_)
  refine RN.bq (no 1) [2, 3, 4, 12] [] 3 [(2, pt b3), (3, pt b4), (4, pt b5), (12, .bool (decide ((Int.sign d) < 0)))] k_ ?_
  refine RN.fin k_ ?_
  refine J.cond (decide ((Int.sign d) < 0)) k_ (fun c9 => ?_) (fun c9 => ?_)
  ·replace c9 := of_decide_eq_true c9
   have h1 := sign_lt0 c9
   refine J.regN ?_
   refine RN.bq [some 2] [2, 3, 4, 13] [b3, b3] 1 [(2, pt b3), (3, pt b4), (4, pt b5), (13, intV s (encZ n))] k_ ?_
   refine RN.call (integer_Neg_c s n y_rational_Make) [0] k_ k_ k_ rfl (fun y10 _ => ?_)
   refine RN.bs [some 2] [2, 3, 4] [b3, b3] 3 [(2, pt b3), (3, pt b4), (4, pt b5)] ([(b5, .cells (ratC (⟨saNil, saNil⟩ : RA) (⟨false, ([] : List Nat), ([] : List Nat)⟩ : Raw)) 40 (0, 0)), (b4, .cells #[.bool (decide (d < 0)), sl t (toL (d.natAbs)).length] 38 (0, 0)), (b3, .cells #[.bool (decide ((-n) < 0)), sl y10 (toL ((-n).natAbs)).length] 38 (0, 0))]) k_ ?_
   refine RN.fin k_ ?_
   refine J.seq ?_
   refine J.regD k_ [6] ?_
   refine RD.bq [(0, some 2), (1, none), (3, none), (4, some 1)] [4, 15, 16, 19] [b4, b3, b3] [(4, pt b5), (15, intV y10 (encZ (-n))), (16, intV saNil (⟨false, ([] : List Nat)⟩ : RawI)), (19, sl t (toL (d.natAbs)).length)] k_ k_ ?_
   refine RD.also (fU saNil ([] : List Nat)) (fun w h => fU_nil w) k_ ?_
   refine RD.call (i := 2) (integer_Add_nil y10 (-n) y_rational_Make) [1, 0] k_ k_ k_ k_ k_ rfl (fun y11 _ => ?_)
   refine RD.call (i := 5) (rational_lowest y11 (-n) t (d.natAbs) y_rational_Make y_rational_Make y_rational_Make) [0, 4] k_ k_ k_ k_ k_ rfl (fun y12 _ => ?_)
   refine RD.last (i := 6) (some 0) [4] [b5, b5, b5] k_ k_ k_ (l' := [(4, pt b5)]) (M' := [(b5, .cells (ratC y12 (encQ (mkRat (-n) (d.natAbs)))) 40 (0, 0)), (b4, .cells #[.bool (decide (d < 0)), sl t (toL (d.natAbs)).length] 38 (0, 0)), (b3, .cells #[.bool (decide ((-n) < 0)), sl y10 (toL ((-n).natAbs)).length] 38 (0, 0))]) k_ ?_
   refine RD.bq (nl [7]) [4, 5] [] [(4, pt b5), (5, .int .i64 0)] k_ k_ ?_
   refine RD.done k_ ?_
   refine KN.next ?_
   have e_1 : (encQ (((n : Int) : Rat) / ((d : Int) : Rat))) = (encQ (mkRat (-n) (d.natAbs))) := by first | (rw [mk_neg h1]; done) | (rw [if_neg h0])
   have e_2 : (if d = 0 then 5 else 0 : Int) = (0 : Int) := by first | (rw [mk_neg h1]; done) | (rw [if_neg h0])
   refine J.ret (KR.ret (v := .tuple #[ratV y12 (encQ (mkRat (-n) (d.natAbs))), .int .i64 0]) (y12) [some 0, none] [0] [b5, b5, b5] k_ v2_ (trivial) v2_)
  ·replace c9 := of_decide_eq_false c9
   have h1 := sign_nlt0 c9 h0
   refine J.skip ?_
   refine KN.next ?_
   refine J.seq ?_
   refine J.regD k_ [6] ?_
   refine RD.bq [(0, some 2), (1, none), (3, none), (4, some 1)] [4, 15, 16, 19] [b4, b3, b3] [(4, pt b5), (15, intV s (encZ n)), (16, intV saNil (⟨false, ([] : List Nat)⟩ : RawI)), (19, sl t (toL (d.natAbs)).length)] k_ k_ ?_
   refine RD.also (fU saNil ([] : List Nat)) (fun w h => fU_nil w) k_ ?_
   refine RD.call (i := 2) (integer_Add_nil s n y_rational_Make) [1, 0] k_ k_ k_ k_ k_ rfl (fun y13 _ => ?_)
   refine RD.call (i := 5) (rational_lowest y13 n t (d.natAbs) y_rational_Make y_rational_Make y_rational_Make) [0, 3] k_ k_ k_ k_ k_ rfl (fun y14 _ => ?_)
   refine RD.last (i := 6) (some 0) [4] [b5, b5, b5] k_ k_ k_ (l' := [(4, pt b5)]) (M' := [(b5, .cells (ratC y14 (encQ (mkRat n (d.natAbs)))) 40 (0, 0)), (b4, .cells #[.bool (decide (d < 0)), sl t (toL (d.natAbs)).length] 38 (0, 0)), (b3, .cells #[.bool (decide (n < 0)), sl s (toL (n.natAbs)).length] 38 (0, 0))]) k_ ?_
   refine RD.bq (nl [7]) [4, 5] [] [(4, pt b5), (5, .int .i64 0)] k_ k_ ?_
   refine RD.done k_ ?_
   refine KN.next ?_
   have e_1 : (encQ (((n : Int) : Rat) / ((d : Int) : Rat))) = (encQ (mkRat n (d.natAbs))) := by first | (rw [mk_pos h1]; done) | (rw [if_neg h0])
   have e_2 : (if d = 0 then 5 else 0 : Int) = (0 : Int) := by first | (rw [mk_pos h1]; done) | (rw [if_neg h0])
   refine J.ret (KR.ret (v := .tuple #[ratV y14 (encQ (mkRat n (d.natAbs))), .int .i64 0]) (y14) [some 0, none] [0] [b5, b5, b5] k_ v2_ (trivial) v2_)
theorem cmpN_beq (a b : Nat) : (cmpN a b == 0) = decide (a = b) := by
  rw [Bool.eq_iff_iff]; simp [cmpN_zero]
theorem validZ_mag {z : RawI} (h : validZ z = true) : validU z.mag = true := by
  unfold validZ at h; simp only [Bool.and_eq_true] at h; exact h.1
theorem rational_Valid (p : RA) (r : Raw) (hm : Lb r.mag) (hd : Lb r.den) (hml : r.mag.length ≤ 1099511627776) (hdl : r.den.length ≤ 1099511627776) : Spec Tryz.prog 127 #[ratV p r] [fRat p r] (ι := Unit) (fun y => .bool (validQ r)) (fun y => True) (fun y => []) := by
 refine Spec.of_body _ (fn := Tryz.f127) k_ rfl k_ (fun X w0 => ?_)
 refine J.fact (φ := r.mag.length ≤ 140737488355328 ∧ r.den.length ≤ 140737488355328) (fun w h => by have h1 := (h _ (.head _)).1.1; have h2 := (h _ (.head _)).2.1; omega) (fun hl1 => ?_)
 refine J.sreg ?_
 refine RN.new (fun b => pt b) (.cells (ratC p r) 40 (0, 0)) k_ k_ (fun w => by kernel_rfl) (fun b2 => ?_)
 refine RN.bq (no 1) [1] [] 2 [(1, pt b2)] k_ ?_
 refine RN.fin k_ ?_
 refine J.seq ?_
 refine J.block ?_
 refine J.sreg ?_
 refine RN.bq [none, some 0] [1, 5] [b2, b2] 2 [(1, pt b2), (5, intV p.mag (⟨r.neg, r.mag⟩ : RawI))] k_ ?_
 refine RN.also (fU p.mag r.mag) (fun w h => (h _ (.head _)).1) ?_
 refine RN.call (integer_Valid p.mag ⟨r.neg, r.mag⟩) [0] k_ k_ k_ rfl (fun y3 _ => ?_)
 refine RN.bq (no 2) [1, 8] [] 5 [(1, pt b2), (8, .bool (!(validZ (⟨r.neg, r.mag⟩ : RawI))))] k_ ?_
 refine RN.split 8 (!(validZ (⟨r.neg, r.mag⟩ : RawI))) k_ (fun c4 => ?_) (fun c4 => ?_)
 ·refine RN.bq (no 6) [1, 3] [] 11 [(1, pt b2), (3, .bool true)] k_ ?_
  refine RN.fin k_ ?_
  refine J.condT k_ ?_
  refine J.sreg ?_
  refine RN.bq (no 1) [2] [] 1 [(2, .bool false)] k_ ?_
  refine RN.fin k_ ?_
  have e_1 : (validQ r) = false := by simp_all [validQ, nv_toL, nv_of_valid, cmpN_zero, cmpN_beq]
  refine J.ret (KR.blk (KR.next (KR.ret (v := .bool false) (()) [none] [] [] k_ v1_ (trivial) v1_)))
 ·refine RN.bq [none, some 0] [1, 8, 10] [b2] 7 [(1, pt b2), (8, .bool false), (10, sl (p.den) (r.den).length)] k_ ?_
  refine RN.also (fU (p.den) (r.den)) (fun w h => (h _ (.tail _ ((.head _)))).2) ?_
  refine RN.call (natural_Valid (p.den) (r.den)) [0] k_ k_ k_ rfl (fun y5 _ => ?_)
  refine RN.bq (no 3) [1, 3] [] 11 [(1, pt b2), (3, .bool (!(validU (r.den))))] k_ ?_
  refine RN.fin k_ ?_
  refine J.cond (!(validU (r.den))) k_ (fun c6 => ?_) (fun c6 => ?_)
  ·refine J.sreg ?_
   refine RN.bq (no 1) [2] [] 1 [(2, .bool false)] k_ ?_
   refine RN.fin k_ ?_
   have e_1 : (validQ r) = false := by simp_all [validQ, nv_toL, nv_of_valid, cmpN_zero, cmpN_beq]
   refine J.ret (KR.blk (KR.next (KR.ret (v := .bool false) (()) [none] [] [] k_ v1_ (trivial) v1_)))
  ·refine J.sreg ?_
   refine RN.bq [none, some 0, none, none, none] [1, 14] [b2] 5 [(1, pt b2), (14, .bool (((((r.den).length : Nat) : Int) : Int) == 0))] k_ ?_
   refine RN.fin k_ ?_
   refine J.cond (((((r.den).length : Nat) : Int) : Int) == 0) k_ (fun c7 => ?_) (fun c7 => ?_)
   ·replace c7 := eq_of_beq c7
    refine J.sreg ?_
    refine RN.bq (no 1) [2] [] 1 [(2, .bool true)] k_ ?_
    refine RN.fin k_ ?_
    have e_1 : (validQ r) = true := by simp_all [validQ, nv_toL, nv_of_valid, cmpN_zero, cmpN_beq]
    refine J.ret (KR.blk (KR.next (KR.ret (v := .bool true) (()) [none] [] [] k_ v1_ (trivial) v1_)))
   ·replace c7 := ne_of_beq_false c7
    refine J.seq ?_
    refine J.regD k_ [] ?_
    refine RD.bq [(0, none), (1, none), (2, some 0), (3, none), (4, none), (5, none)] [1, 25] [b2] [(1, pt b2), (25, .bool ((((r.mag.length : Nat) : Int) : Int) == 0))] k_ k_ ?_
    refine RD.split (t := 25) ((((r.mag.length : Nat) : Int) : Int) == 0) k_ (fun c8 => ?_) (fun c8 => ?_)
    ·replace c8 := eq_of_beq c8
     refine RD.bq (nl [6, 7, 8, 9, 10, 11, 12]) [1, 19] [] [(1, pt b2), (19, .bool true)] k_ k_ ?_
     refine RD.done k_ ?_
     refine KN.next ?_
     refine J.condT k_ ?_
     refine J.sreg ?_
     refine RN.bq (no 1) [2] [] 1 [(2, .bool false)] k_ ?_
     refine RN.fin k_ ?_
     have e_1 : (validQ r) = false := by simp_all [validQ, nv_toL, nv_of_valid, cmpN_zero, cmpN_beq]
     refine J.ret (KR.blk (KR.next (KR.ret (v := .bool false) (()) [none] [] [] k_ v1_ (trivial) v1_)))
    ·replace c8 := ne_of_beq_false c8
     refine RD.bq [(6, none), (7, some 0)] [1, 25, 27] [b2] [(1, pt b2), (25, .bool false), (27, sl (p.den) (r.den).length)] k_ k_ ?_
     refine RD.call (i := 8) (rational_one) [] k_ k_ k_ k_ k_ rfl (fun y9 _ => ?_)
     refine RD.call (i := 9) (natural_Compare (p.den) (r.den) y9 (toL 1) y_ y_) [1, 0] k_ k_ k_ k_ k_ rfl (fun y10 _ => ?_)
     refine RD.bq (nl [10, 11, 12]) [1, 19] [] [(1, pt b2), (19, .bool (((cmpN (nv (r.den)) (nv (toL 1))) : Int) == 0))] k_ k_ ?_
     refine RD.done k_ ?_
     refine KN.next ?_
     refine J.cond (((cmpN (nv (r.den)) (nv (toL 1))) : Int) == 0) k_ (fun c11 => ?_) (fun c11 => ?_)
     ·replace c11 := eq_of_beq c11
      refine J.sreg ?_
      refine RN.bq (no 1) [2] [] 1 [(2, .bool false)] k_ ?_
      refine RN.fin k_ ?_
      have e_1 : (validQ r) = false := by simp_all [validQ, nv_toL, nv_of_valid, cmpN_zero, cmpN_beq]
      refine J.ret (KR.blk (KR.next (KR.ret (v := .bool false) (()) [none] [] [] k_ v1_ (trivial) v1_)))
     ·replace c11 := ne_of_beq_false c11
      refine J.skip ?_
      refine KN.blk ?_
      refine KN.next ?_
      refine J.sreg ?_
      refine RN.bq [none, none, some 0, none, some 0] [34, 36] [b2, b2] 5 [(34, sl p.mag r.mag.length), (36, sl (p.den) (r.den).length)] k_ ?_
      refine RN.call (natural_Gcd p.mag r.mag (p.den) (r.den) y_ y_ y_ y_) [2, 1] k_ k_ k_ rfl (fun y12 _ => ?_)
      refine RN.call (rational_one) [] k_ k_ k_ rfl (fun y13 _ => ?_)
      refine RN.call (natural_Compare_c y12 (Nat.gcd (nv r.mag) (nv (r.den))) y13 1) [1, 0] k_ k_ k_ rfl (fun y14 _ => ?_)
      refine RN.bq (no 2) [2] [] 10 [(2, .bool (((cmpN (Nat.gcd (nv r.mag) (nv (r.den))) 1) : Int) == 0))] k_ ?_
      refine RN.fin k_ ?_
      have e_1 : (validQ r) = (((cmpN (Nat.gcd (nv r.mag) (nv (r.den))) 1) : Int) == 0) := by (have hv := validZ_mag (z := ⟨r.neg, r.mag⟩) (by simpa using c4)); simp_all [validQ, nv_toL, nv_of_valid, cmpN_zero, cmpN_beq]
      refine J.ret (KR.ret (v := .bool (((cmpN (Nat.gcd (nv r.mag) (nv (r.den))) 1) : Int) == 0)) (()) [none] [] [] k_ v1_ (trivial) v1_)
theorem rational_value (p : RA) (r : Raw) (hr : RQ 268435456 r) : Spec Tryz.prog 102 #[ratV p r] [fRat p r] (ι := RA) (fun y => ratV y (encQ (qv r))) (fun y => True) (fun y => [fRat y (encQ (qv r))]) := by
 refine Spec.of_body _ (fn := Tryz.f102) k_ rfl k_ (fun X w0 => ?_)
 refine J.fact (φ := r.mag.length ≤ 140737488355328 ∧ r.den.length ≤ 140737488355328) (fun w h => by have h1 := (h _ (.head _)).1.1; have h2 := (h _ (.head _)).2.1; omega) (fun hl1 => ?_)
 obtain ⟨hm, hd, hml, hdl, hq⟩ := hr
 refine J.sreg ?_
 refine RN.new (fun b => pt b) (.cells (ratC p r) 40 (0, 0)) k_ k_ (fun w => by kernel_rfl) (fun b2 => ?_)
 refine RN.new (fun b => pt b) (.cells (ratC (⟨saNil, saNil⟩ : RA) (⟨false, ([] : List Nat), ([] : List Nat)⟩ : Raw)) 40 (0, 0)) k_ k_ (fun w => by kernel_rfl) (fun b3 => ?_)
 refine RN.fin k_ ?_
 refine J.seq ?_
 refine J.sreg ?_
 refine RN.bq [some 1] [1, 2, 3] [b2, b2, b2] 1 [(1, pt b2), (2, pt b3), (3, ratV p r)] k_ ?_
 refine RN.call (rational_Valid p r y_ y_ y_ y_) [0] k_ k_ k_ rfl (fun y4 _ => ?_)
 refine RN.fin k_ ?_
 refine J.cond (validQ r) k_ (fun c5 => ?_) (fun c5 => ?_)
 ·refine J.sreg ?_
  refine RN.bs [some 1, some 0] [2] [b3, b3, b3, b2, b2, b2] 2 [(2, pt b3)] ([(b3, .cells (ratC p r) 40 (0, 0)), (b2, .cells (ratC p r) 40 (0, 0))]) k_ ?_
  refine RN.fin k_ ?_
  have e_1 : (encQ (qv r)) = r := by exact encQ_qv hm hd ‹_›
  have e_2 : (toL (((qv r).num).natAbs)) = r.mag := congrArg Raw.mag e_1
  have e_3 : (toD ((qv r).den)) = (r.den) := congrArg Raw.den e_1
  refine J.ret (KR.next (KR.ret (v := ratV p r) (p) [some 0] [0] [b3, b3, b3] k_ (by first | rfl | (rw [e_1]; done) | (simp only [e_1]; done) | (rw [e_2, e_3]; done) | (rw [e_1, e_2, e_3]; rfl) | (simp only [e_1, e_2, e_3]; done) | (simp only [e_1, e_2, e_3]; rfl)) (trivial) (by first | rfl | (rw [e_1]; done) | (simp only [e_1]; done) | (rw [e_2, e_3]; done) | (rw [e_1, e_2, e_3]; rfl) | (simp only [e_1, e_2, e_3]; done) | (simp only [e_1, e_2, e_3]; rfl))))
 ·refine J.skip ?_
  refine KN.next ?_
  refine J.sreg ?_
  refine RN.bs [none, some 0] [2] [b3, b3, b3] 2 [(2, pt b3)] ([(b3, .cells (ratC (⟨saNil, saNil⟩ : RA) (⟨false, ([] : List Nat), ([] : List Nat)⟩ : Raw)) 40 (0, 0)), (b2, .cells (ratC p r) 40 (0, 0))]) k_ ?_
  refine RN.fin k_ ?_
  have e_1 : (encQ (qv r)) = (⟨false, ([] : List Nat), ([] : List Nat)⟩ : Raw) := by exact encQ_qv_f ‹_›
  have e_2 : (toL (((qv r).num).natAbs)) = ([] : List Nat) := congrArg Raw.mag e_1
  have e_3 : (toD ((qv r).den)) = ([] : List Nat) := congrArg Raw.den e_1
  refine J.also (fRat (⟨saNil, saNil⟩ : RA) (⟨false, ([] : List Nat), ([] : List Nat)⟩ : Raw)) (fun w h => ⟨fU_nil w, fU_nil w⟩) ?_
  refine J.ret (KR.ret (v := ratV (⟨saNil, saNil⟩ : RA) (⟨false, ([] : List Nat), ([] : List Nat)⟩ : Raw)) (⟨saNil, saNil⟩) [some 0] [0] [b3, b3, b3] k_ (by first | rfl | (rw [e_1]; done) | (simp only [e_1]; done) | (rw [e_2, e_3]; done) | (rw [e_1, e_2, e_3]; rfl) | (simp only [e_1, e_2, e_3]; done) | (simp only [e_1, e_2, e_3]; rfl)) (trivial) (by first | rfl | (rw [e_1]; done) | (simp only [e_1]; done) | (rw [e_2, e_3]; done) | (rw [e_1, e_2, e_3]; rfl) | (simp only [e_1, e_2, e_3]; done) | (simp only [e_1, e_2, e_3]; rfl)))
theorem rational_FromInt (v : Int) (h1 : -9223372036854775808 ≤ v) (h2 : v < 9223372036854775808) : Spec Tryz.prog 126 #[.int .i64 v] [] (ι := RA) (fun y => ratV y (encQ ((v : Int) : Rat))) (fun y => True) (fun y => [fRat y (encQ ((v : Int) : Rat))]) := by
 refine Spec.of_body _ (fn := Tryz.f126) k_ rfl k_ (fun X w0 => ?_)
 refine J.sreg ?_
 refine RN.new (fun b => pt b) (.cells (ratC (⟨saNil, saNil⟩ : RA) (⟨false, ([] : List Nat), ([] : List Nat)⟩ : Raw)) 40 (0, 0)) k_ k_ (fun w => by kernel_rfl) (fun b1 => ?_)
 refine RN.fs k_ ?_
 refine RN.bq (no 1) [2, 3] [] 1 [(2, pt b1), (3, .int .i64 v)] k_ ?_
 refine RN.call (integer_FromInt v y_ y_) [] k_ k_ k_ rfl (fun y2 _ => ?_)
 refine RN.bs [none, some 0] [2] [b1, b1, b1] 4 [(2, pt b1)] ([(b1, .cells (ratC (⟨y2, saNil⟩ : RA) (⟨decide (v < 0), toL (v.natAbs), ([] : List Nat)⟩ : Raw)) 40 (0, 0))]) k_ ?_
 refine RN.fin k_ ?_
 have e_1 : (encQ ((v : Int) : Rat)) = (⟨decide (v < 0), toL (v.natAbs), ([] : List Nat)⟩ : Raw) := by rfl
 have e_2 : (toL ((((v : Int) : Rat).num).natAbs)) = (toL (v.natAbs)) := congrArg Raw.mag e_1
 have e_3 : (toD (((v : Int) : Rat).den)) = ([] : List Nat) := congrArg Raw.den e_1
 refine J.also (fRat (⟨y2, saNil⟩ : RA) (⟨decide (v < 0), toL (v.natAbs), ([] : List Nat)⟩ : Raw)) (fun w h => ⟨(h _ (.head _)), fU_nil w⟩) ?_
 refine J.ret (KR.ret (v := ratV (⟨y2, saNil⟩ : RA) (⟨decide (v < 0), toL (v.natAbs), ([] : List Nat)⟩ : Raw)) (⟨y2, saNil⟩) [some 0] [0] [b1, b1, b1] k_ (by first | rfl | (rw [e_1]; done) | (simp only [e_1]; done) | (rw [e_2, e_3]; done) | (rw [e_1, e_2, e_3]; rfl) | (simp only [e_1, e_2, e_3]; done) | (simp only [e_1, e_2, e_3]; rfl)) (trivial) (by first | rfl | (rw [e_1]; done) | (simp only [e_1]; done) | (rw [e_2, e_3]; done) | (rw [e_1, e_2, e_3]; rfl) | (simp only [e_1, e_2, e_3]; done) | (simp only [e_1, e_2, e_3]; rfl)))
theorem rational_Sign (p : RA) (r : Raw) (hr : RQ 268435456 r) : Spec Tryz.prog 114 #[ratV p r] [fRat p r] (ι := Unit) (fun y => .int .i64 (Int.sign ((qv r).num))) (fun y => True) (fun y => []) := by
 refine Spec.of_body _ (fn := Tryz.f114) k_ rfl k_ (fun X w0 => ?_)
 refine J.fact (φ := r.mag.length ≤ 140737488355328 ∧ r.den.length ≤ 140737488355328) (fun w h => by have h1 := (h _ (.head _)).1.1; have h2 := (h _ (.head _)).2.1; omega) (fun hl1 => ?_)
 refine J.sreg ?_
 refine RN.new (fun b => pt b) (.cells (ratC p r) 40 (0, 0)) k_ k_ (fun w => by kernel_rfl) (fun b2 => ?_)
 refine RN.bq (no 1) [1] [] 2 [(1, pt b2)] k_ ?_
 refine RN.fs k_ ?_
 refine RN.bq [some 0] [3] [b2, b2, b2] 1 [(3, ratV p r)] k_ ?_
 refine RN.call (rational_value p r y_) [0] k_ k_ k_ rfl (fun y3 _ => ?_)
 refine RN.bq (no 1) [5] [] 3 [(5, intV y3.mag (encZ ((qv r).num)))] k_ ?_
 refine RN.also (fU y3.mag (toL (((qv r).num).natAbs))) (fun w h => (h _ (.head _)).1) ?_
 refine RN.call (integer_Sign_c y3.mag ((qv r).num)) [0] k_ k_ k_ rfl (fun y4 _ => ?_)
 refine RN.bq (no 1) [2] [] 5 [(2, .int .i64 (Int.sign ((qv r).num)))] k_ ?_
 refine RN.fin k_ ?_
 refine J.ret (KR.ret (v := .int .i64 (Int.sign ((qv r).num))) (()) [none] [] [] k_ rfl (trivial) rfl)
theorem rational_Sign_c (p : RA) (r' : Rat) (hr : Q 268435456 r') : Spec Tryz.prog 114 #[ratV p (encQ r')] [fRat p (encQ r')] (ι := Unit) (fun y => .int .i64 (Int.sign (r'.num))) (fun y => True) (fun y => []) := by
  have H := rational_Sign p (encQ r') (RQ_enc hr)
  first | exact H | (simp only [qv_encQ, validQ_encQ] at H; exact H)
theorem rational_Neg (p : RA) (r : Raw) (hr : RQ 268435456 r) : Spec Tryz.prog 115 #[ratV p r] [fRat p r] (ι := RA) (fun y => ratV y (encQ (-(qv r)))) (fun y => True) (fun y => [fRat y (encQ (-(qv r)))]) := by
 refine Spec.of_body _ (fn := Tryz.f115) k_ rfl k_ (fun X w0 => ?_)
 refine J.fact (φ := r.mag.length ≤ 140737488355328 ∧ r.den.length ≤ 140737488355328) (fun w h => by have h1 := (h _ (.head _)).1.1; have h2 := (h _ (.head _)).2.1; omega) (fun hl1 => ?_)
 have hq := hr.2.2.2.2
 have hq1 := hq.1
 have hq2 := Nat.le_trans (toD_le (qv r).den) hq.2
 refine J.sreg ?_
 refine RN.new (fun b => pt b) (.cells (ratC p r) 40 (0, 0)) k_ k_ (fun w => by kernel_rfl) (fun b2 => ?_)
 refine RN.new (fun b => pt b) (.cells (ratC (⟨saNil, saNil⟩ : RA) (⟨false, ([] : List Nat), ([] : List Nat)⟩ : Raw)) 40 (0, 0)) k_ k_ (fun w => by kernel_rfl) (fun b3 => ?_)
 refine RN.fs k_ ?_
 refine RN.bq [some 1] [1, 2, 3] [b2, b2, b2] 1 [(1, pt b2), (2, pt b3), (3, ratV p r)] k_ ?_
 refine RN.call (rational_value p r y_) [0] k_ k_ k_ rfl (fun y4 _ => ?_)
 refine RN.bs [some 1] [1, 2] [b2, b2, b2] 3 [(1, pt b2), (2, pt b3)] ([(b3, .cells (ratC (⟨saNil, saNil⟩ : RA) (⟨false, ([] : List Nat), ([] : List Nat)⟩ : Raw)) 40 (0, 0)), (b2, .cells (ratC y4 (encQ (qv r))) 40 (0, 0))]) k_ ?_
 refine RN.fin k_ ?_
 refine J.seq ?_
 refine J.regD k_ [7] ?_
 refine RD.bq [(0, none), (1, some 1), (3, none), (4, some 1)] [2, 6, 9] [b2, b2, b2] [(2, pt b3), (6, intV y4.mag (encZ ((qv r).num))), (9, sl (y4.den) (toD ((qv r).den)).length)] k_ k_ ?_
 refine RD.also (fU y4.mag (toL (((qv r).num).natAbs))) (fun w h => (h _ (.head _)).1) k_ ?_
 refine RD.call (i := 2) (integer_Neg_c y4.mag ((qv r).num) y_) [0] k_ k_ k_ k_ k_ rfl (fun y5 _ => ?_)
 refine RD.also (fU (y4.den) (toD ((qv r).den))) (fun w h => (h _ (.tail _ ((.tail _ ((.head _)))))).2) k_ ?_
 refine RD.also (fU saNil ([] : List Nat)) (fun w h => fU_nil w) k_ ?_
 refine RD.call (i := 5) (natural_AddD_nil (y4.den) ((qv r).den) y_) [1, 0] k_ k_ k_ k_ k_ rfl (fun y6 _ => ?_)
 refine RD.bq (nl [6]) [2, 11] [] [(2, pt b3), (11, ratV (⟨y5, y6⟩ : RA) (⟨decide ((-((qv r).num)) < 0), toL ((-((qv r).num)).natAbs), toD ((qv r).den)⟩ : Raw))] k_ k_ ?_
 refine RD.last (i := 7) (some 0) [2] [b3, b3, b3] k_ k_ k_ (l' := [(2, pt b3)]) (M' := [(b3, .cells (ratC (⟨y5, y6⟩ : RA) (⟨decide ((-((qv r).num)) < 0), toL ((-((qv r).num)).natAbs), toD ((qv r).den)⟩ : Raw)) 40 (0, 0)), (b2, .cells (ratC y4 (encQ (qv r))) 40 (0, 0))]) k_ ?_
 refine RD.done k_ ?_
 refine KN.next ?_
 have e_1 : (encQ (-(qv r))) = (⟨decide ((-((qv r).num)) < 0), toL ((-((qv r).num)).natAbs), toD ((qv r).den)⟩ : Raw) := by rw [encQ_neg]
 have e_2 : (toL (((-(qv r)).num).natAbs)) = (toL ((-((qv r).num)).natAbs)) := congrArg Raw.mag e_1
 have e_3 : (toD ((-(qv r)).den)) = (toD ((qv r).den)) := congrArg Raw.den e_1
 refine J.also (fRat (⟨y5, y6⟩ : RA) (⟨decide ((-((qv r).num)) < 0), toL ((-((qv r).num)).natAbs), toD ((qv r).den)⟩ : Raw)) (fun w h => ⟨(h _ (.tail _ ((.tail _ ((.tail _ ((.head _)))))))), (h _ (.head _))⟩) ?_
 refine J.ret (KR.ret (v := ratV (⟨y5, y6⟩ : RA) (⟨decide ((-((qv r).num)) < 0), toL ((-((qv r).num)).natAbs), toD ((qv r).den)⟩ : Raw)) (⟨y5, y6⟩) [some 0] [0] [b3, b3, b3] k_ (by first | rfl | (rw [e_1]; done) | (simp only [e_1]; done) | (rw [e_2, e_3]; done) | (rw [e_1, e_2, e_3]; rfl) | (simp only [e_1, e_2, e_3]; done) | (simp only [e_1, e_2, e_3]; rfl)) (trivial) (by first | rfl | (rw [e_1]; done) | (simp only [e_1]; done) | (rw [e_2, e_3]; done) | (rw [e_1, e_2, e_3]; rfl) | (simp only [e_1, e_2, e_3]; done) | (simp only [e_1, e_2, e_3]; rfl)))
theorem rational_Neg_c (p : RA) (r' : Rat) (hr : Q 268435456 r') : Spec Tryz.prog 115 #[ratV p (encQ r')] [fRat p (encQ r')] (ι := RA) (fun y => ratV y (encQ (-r'))) (fun y => True) (fun y => [fRat y (encQ (-r'))]) := by
  have H := rational_Neg p (encQ r') (RQ_enc hr)
  first | exact H | (simp only [qv_encQ, validQ_encQ] at H; exact H)
theorem rational_Compare (p : RA) (r : Raw) (u : RA) (t : Raw) (hr : RQ 268435456 r) (ht : RQ 268435456 t) : Spec Tryz.prog 63 #[ratV p r, ratV u t] [fRat p r, fRat u t] (ι := Unit) (fun y => .int .i64 (cmpQ (qv r) (qv t))) (fun y => True) (fun y => []) := by
 refine Spec.of_body _ (fn := Tryz.f63) k_ rfl k_ (fun X w0 => ?_)
 refine J.fact (φ := r.mag.length ≤ 140737488355328 ∧ r.den.length ≤ 140737488355328) (fun w h => by have h1 := (h _ (.head _)).1.1; have h2 := (h _ (.head _)).2.1; omega) (fun hl1 => ?_)
 refine J.fact (φ := t.mag.length ≤ 140737488355328 ∧ t.den.length ≤ 140737488355328) (fun w h => by have h1 := (h _ (.tail _ ((.head _)))).1.1; have h2 := (h _ (.tail _ ((.head _)))).2.1; omega) (fun hl2 => ?_)
 have hq := hr.2.2.2.2
 have hu := ht.2.2.2.2
 have hq1 := hq.1
 have hq2 := hq.2
 have hu1 := hu.1
 have hu2 := hu.2
 refine J.sreg ?_
 refine RN.new (fun b => pt b) (.cells (ratC p r) 40 (0, 0)) k_ k_ (fun w => by kernel_rfl) (fun b3 => ?_)
 refine RN.new (fun b => pt b) (.cells (ratC u t) 40 (0, 0)) k_ k_ (fun w => by kernel_rfl) (fun b4 => ?_)
 refine RN.bq (no 1) [2, 3] [] 3 [(2, pt b3), (3, pt b4)] k_ ?_
 refine RN.fin k_ ?_
 refine J.seq ?_
 refine J.regD k_ [4, 5] ?_
 refine RD.bq [(0, some 1), (2, some 0)] [2, 3, 5, 7] [b4, b4, b4, b3, b3, b3] [(2, pt b3), (3, pt b4), (5, ratV p r), (7, ratV u t)] k_ k_ ?_
 refine RD.call (i := 1) (rational_value p r y_) [0] k_ k_ k_ k_ k_ rfl (fun y5 _ => ?_)
 refine RD.call (i := 3) (rational_value u t y_) [2] k_ k_ k_ k_ k_ rfl (fun y6 _ => ?_)
 refine RD.last (i := 4) (some 1) [2, 3, 8] [b3, b3, b3] k_ k_ k_ (l' := [(2, pt b3), (3, pt b4), (8, ratV y6 (encQ (qv t)))]) (M' := [(b4, .cells (ratC u t) 40 (0, 0)), (b3, .cells (ratC y5 (encQ (qv r))) 40 (0, 0))]) k_ ?_
 refine RD.last (i := 5) (some 0) [2, 3] [b4, b4, b4] k_ k_ k_ (l' := [(2, pt b3), (3, pt b4)]) (M' := [(b4, .cells (ratC y6 (encQ (qv t))) 40 (0, 0)), (b3, .cells (ratC y5 (encQ (qv r))) 40 (0, 0))]) k_ ?_
 refine RD.done k_ ?_
 refine KN.next ?_
 refine J.seq ?_
 refine J.regD k_ [] ?_
 refine RD.bq [(0, none), (1, some 1), (2, some 0), (5, none), (6, some 0), (7, some 1)] [10, 11, 15, 16] [b3, b3, b3, b4, b4, b4, b4, b4, b3, b3] [(10, intV y5.mag (encZ ((qv r).num))), (11, ratV y6 (encQ (qv t))), (15, intV y6.mag (encZ ((qv t).num))), (16, ratV y5 (encQ (qv r)))] k_ k_ ?_
 refine RD.call (i := 3) (rational_den y6 (qv t)) [0] k_ k_ k_ k_ k_ rfl (fun y7 _ => ?_)
 refine RD.also (fU y5.mag (toL (((qv r).num).natAbs))) (fun w h => (h _ (.tail _ ((.tail _ ((.head _)))))).1) k_ ?_
 refine RD.call (i := 4) (rational_times y5.mag ((qv r).num) y7 ((qv t).den) y_ y_) [0, 1] k_ k_ k_ k_ k_ rfl (fun y8 _ => ?_)
 refine RD.call (i := 8) (rational_den y5 (qv r)) [4] k_ k_ k_ k_ k_ rfl (fun y9 _ => ?_)
 refine RD.also (fU y6.mag (toL (((qv t).num).natAbs))) (fun w h => (h _ (.tail _ ((.tail _ ((.tail _ ((.tail _ ((.head _)))))))))).1) k_ ?_
 refine RD.call (i := 9) (rational_times y6.mag ((qv t).num) y9 ((qv r).den) y_ y_) [0, 1] k_ k_ k_ k_ k_ rfl (fun y10 _ => ?_)
 refine RD.call (i := 10) (integer_Compare_c y8 (((qv r).num) * ((((qv t).den) : Nat) : Int)) y10 (((qv t).num) * ((((qv r).den) : Nat) : Int))) [3, 0] k_ k_ k_ k_ k_ rfl (fun y11 _ => ?_)
 refine RD.bq (nl [11]) [4] [] [(4, .int .i64 (cmpI (((qv r).num) * ((((qv t).den) : Nat) : Int)) (((qv t).num) * ((((qv r).den) : Nat) : Int))))] k_ k_ ?_
 refine RD.done k_ ?_
 refine KN.next ?_
 have e_1 : (cmpQ (qv r) (qv t) : Int) = (cmpI (((qv r).num) * ((((qv t).den) : Nat) : Int)) (((qv t).num) * ((((qv r).den) : Nat) : Int)) : Int) := by rfl
 refine J.ret (KR.ret (v := .int .i64 (cmpI (((qv r).num) * ((((qv t).den) : Nat) : Int)) (((qv t).num) * ((((qv r).den) : Nat) : Int)))) (()) [none] [] [] k_ v1_ (trivial) v1_)
theorem rational_Compare_c (p : RA) (r' : Rat) (u : RA) (t' : Rat) (hr : Q 268435456 r') (ht : Q 268435456 t') : Spec Tryz.prog 63 #[ratV p (encQ r'), ratV u (encQ t')] [fRat p (encQ r'), fRat u (encQ t')] (ι := Unit) (fun y => .int .i64 (cmpQ r' t')) (fun y => True) (fun y => []) := by
  have H := rational_Compare p (encQ r') u (encQ t') (RQ_enc hr) (RQ_enc ht)
  first | exact H | (simp only [qv_encQ, validQ_encQ] at H; exact H)
theorem y_rational_Add {p : Prop} (h : p := by first | assumption | exact Lb_toL _ | omega | (simp; done) | first | exact den_mul_ne _ _ | (simp; omega)) : p := h
theorem rational_Add (p : RA) (r : Raw) (u : RA) (t : Raw) (hr : RQ 268435456 r) (ht : RQ 268435456 t) : Spec Tryz.prog 64 #[ratV p r, ratV u t] [fRat p r, fRat u t] (ι := RA) (fun y => ratV y (encQ ((qv r) + (qv t)))) (fun y => True) (fun y => [fRat y (encQ ((qv r) + (qv t)))]) := by
 refine Spec.of_body _ (fn := Tryz.f64) k_ rfl k_ (fun X w0 => ?_)
 refine J.fact (φ := r.mag.length ≤ 140737488355328 ∧ r.den.length ≤ 140737488355328) (fun w h => by have h1 := (h _ (.head _)).1.1; have h2 := (h _ (.head _)).2.1; omega) (fun hl1 => ?_)
 refine J.fact (φ := t.mag.length ≤ 140737488355328 ∧ t.den.length ≤ 140737488355328) (fun w h => by have h1 := (h _ (.tail _ ((.head _)))).1.1; have h2 := (h _ (.tail _ ((.head _)))).2.1; omega) (fun hl2 => ?_)
 have hq := hr.2.2.2.2
 have hu := ht.2.2.2.2
 have hq1 := hq.1
 have hq2 := hq.2
 have hu1 := hu.1
 have hu2 := hu.2
 have z1 := zlen_mulN (qv r).num (qv t).den
 have z2 := zlen_mulN (qv t).num (qv r).den
 have z3 := nlen_mul (qv r).den (qv t).den
 have z4 := zlen_add (k := 1073741824) (by omega : (toL ((qv r).num * ((qv t).den : Int)).natAbs).length ≤ 1073741824) (by omega : (toL ((qv t).num * ((qv r).den : Int)).natAbs).length ≤ 1073741824)
 have z5 := zlen_mul (qv r).num (qv t).num
 refine J.sreg ?_
 refine RN.new (fun b => pt b) (.cells (ratC p r) 40 (0, 0)) k_ k_ (fun w => by kernel_rfl) (fun b3 => ?_)
 refine RN.new (fun b => pt b) (.cells (ratC u t) 40 (0, 0)) k_ k_ (fun w => by kernel_rfl) (fun b4 => ?_)
 refine RN.new (fun b => pt b) (.cells (ratC (⟨saNil, saNil⟩ : RA) (⟨false, ([] : List Nat), ([] : List Nat)⟩ : Raw)) 40 (0, 0)) k_ k_ (fun w => by kernel_rfl) (fun b5 => ?_)
 refine RN.fin k_ ?_
 refine J.seq ?_
 refine J.regD k_ [4, 5] ?_
 refine RD.bq [(0, some 2), (2, some 1)] [2, 3, 4, 5, 7] [b4, b4, b4, b3, b3, b3] [(2, pt b3), (3, pt b4), (4, pt b5), (5, ratV p r), (7, ratV u t)] k_ k_ ?_
 refine RD.call (i := 1) (rational_value p r y_rational_Add) [0] k_ k_ k_ k_ k_ rfl (fun y6 _ => ?_)
 refine RD.call (i := 3) (rational_value u t y_rational_Add) [2] k_ k_ k_ k_ k_ rfl (fun y7 _ => ?_)
 refine RD.last (i := 4) (some 2) [2, 3, 4, 8] [b3, b3, b3] k_ k_ k_ (l' := [(2, pt b3), (3, pt b4), (4, pt b5), (8, ratV y7 (encQ (qv t)))]) (M' := [(b5, .cells (ratC (⟨saNil, saNil⟩ : RA) (⟨false, ([] : List Nat), ([] : List Nat)⟩ : Raw)) 40 (0, 0)), (b4, .cells (ratC u t) 40 (0, 0)), (b3, .cells (ratC y6 (encQ (qv r))) 40 (0, 0))]) k_ ?_
 refine RD.last (i := 5) (some 1) [2, 3, 4] [b4, b4, b4] k_ k_ k_ (l' := [(2, pt b3), (3, pt b4), (4, pt b5)]) (M' := [(b5, .cells (ratC (⟨saNil, saNil⟩ : RA) (⟨false, ([] : List Nat), ([] : List Nat)⟩ : Raw)) 40 (0, 0)), (b4, .cells (ratC y7 (encQ (qv t))) 40 (0, 0)), (b3, .cells (ratC y6 (encQ (qv r))) 40 (0, 0))]) k_ ?_
 refine RD.done k_ ?_
 refine KN.next ?_
 refine J.seq ?_
 refine J.sreg ?_
 refine RN.bq [none, some 2, none, none, none] [2, 3, 4, 13] [b3] 5 [(2, pt b3), (3, pt b4), (4, pt b5), (13, .bool (((((toD ((qv r).den)).length : Nat) : Int) : Int) == 0))] k_ ?_
 refine RN.split 13 (((((toD ((qv r).den)).length : Nat) : Int) : Int) == 0) k_ (fun c8 => ?_) (fun c8 => ?_)
 ·replace c8 := eq_of_beq c8
  refine RN.bq [none, some 1, none, none, none] [2, 3, 4, 18] [b4] 10 [(2, pt b3), (3, pt b4), (4, pt b5), (18, .bool (((((toD ((qv t).den)).length : Nat) : Int) : Int) == 0))] k_ ?_
  refine RN.fin k_ ?_
  refine J.cond (((((toD ((qv t).den)).length : Nat) : Int) : Int) == 0) k_ (fun c9 => ?_) (fun c9 => ?_)
  ·replace c9 := eq_of_beq c9
   refine J.sreg ?_
   refine RN.bq [none, some 2, none, some 1] [4, 20, 22] [b4, b4, b3, b3] 4 [(4, pt b5), (20, intV y6.mag (encZ ((qv r).num))), (22, intV y7.mag (encZ ((qv t).num)))] k_ ?_
   refine RN.also (fU y6.mag (toL (((qv r).num).natAbs))) (fun w h => (h _ (.tail _ ((.head _)))).1) ?_
   refine RN.also (fU y7.mag (toL (((qv t).num).natAbs))) (fun w h => (h _ (.tail _ ((.head _)))).1) ?_
   refine RN.call (integer_Add_c y6.mag ((qv r).num) y7.mag ((qv t).num) y_rational_Add y_rational_Add) [1, 0] k_ k_ k_ rfl (fun y10 _ => ?_)
   refine RN.bs [none, some 0] [4] [b5, b5, b5] 7 [(4, pt b5)] ([(b5, .cells (ratC (⟨y10, saNil⟩ : RA) (⟨decide ((((qv r).num) + ((qv t).num)) < 0), toL ((((qv r).num) + ((qv t).num)).natAbs), ([] : List Nat)⟩ : Raw)) 40 (0, 0)), (b4, .cells (ratC y7 (encQ (qv t))) 40 (0, 0)), (b3, .cells (ratC y6 (encQ (qv r))) 40 (0, 0))]) k_ ?_
   refine RN.fin k_ ?_
   have e_1 : (encQ ((qv r) + (qv t))) = (⟨decide ((((qv r).num) + ((qv t).num)) < 0), toL ((((qv r).num) + ((qv t).num)).natAbs), ([] : List Nat)⟩ : Raw) := by rw [encQ_addI ((toD_len (qv r).den_nz).1 (by omega)) ((toD_len (qv t).den_nz).1 (by omega))]
   have e_2 : (toL ((((qv r) + (qv t)).num).natAbs)) = (toL ((((qv r).num) + ((qv t).num)).natAbs)) := congrArg Raw.mag e_1
   have e_3 : (toD (((qv r) + (qv t)).den)) = ([] : List Nat) := congrArg Raw.den e_1
   refine J.also (fRat (⟨y10, saNil⟩ : RA) (⟨decide ((((qv r).num) + ((qv t).num)) < 0), toL ((((qv r).num) + ((qv t).num)).natAbs), ([] : List Nat)⟩ : Raw)) (fun w h => ⟨(h _ (.head _)), fU_nil w⟩) ?_
   refine J.ret (KR.next (KR.ret (v := ratV (⟨y10, saNil⟩ : RA) (⟨decide ((((qv r).num) + ((qv t).num)) < 0), toL ((((qv r).num) + ((qv t).num)).natAbs), ([] : List Nat)⟩ : Raw)) (⟨y10, saNil⟩) [some 0] [0] [b5, b5, b5] k_ (by first | rfl | (rw [e_1]; done) | (simp only [e_1]; done) | (rw [e_2, e_3]; done) | (rw [e_1, e_2, e_3]; rfl) | (simp only [e_1, e_2, e_3]; done) | (simp only [e_1, e_2, e_3]; rfl)) (trivial) (by first | rfl | (rw [e_1]; done) | (simp only [e_1]; done) | (rw [e_2, e_3]; done) | (rw [e_1, e_2, e_3]; rfl) | (simp only [e_1, e_2, e_3]; done) | (simp only [e_1, e_2, e_3]; rfl))))
  ·replace c9 := ne_of_beq_false c9
   refine J.skip ?_
   refine KN.next ?_
   refine J.seq ?_
   refine J.regD k_ [17] ?_
   refine RD.bq [(0, none), (1, some 2), (2, some 1), (5, none), (6, some 1), (7, some 2), (11, some 2), (13, some 1)] [4, 26, 27, 31, 32, 36, 38] [b4, b4, b4, b3, b3, b3, b3, b3, b3, b4, b4, b4, b4, b4, b3, b3] [(4, pt b5), (26, intV y6.mag (encZ ((qv r).num))), (27, ratV y7 (encQ (qv t))), (31, intV y7.mag (encZ ((qv t).num))), (32, ratV y6 (encQ (qv r))), (36, ratV y6 (encQ (qv r))), (38, ratV y7 (encQ (qv t)))] k_ k_ ?_
   refine RD.call (i := 3) (rational_den y7 (qv t)) [0] k_ k_ k_ k_ k_ rfl (fun y11 _ => ?_)
   refine RD.also (fU y6.mag (toL (((qv r).num).natAbs))) (fun w h => (h _ (.tail _ ((.tail _ ((.head _)))))).1) k_ ?_
   refine RD.call (i := 4) (rational_times y6.mag ((qv r).num) y11 ((qv t).den) y_rational_Add y_rational_Add) [0, 1] k_ k_ k_ k_ k_ rfl (fun y12 _ => ?_)
   refine RD.call (i := 8) (rational_den y6 (qv r)) [4] k_ k_ k_ k_ k_ rfl (fun y13 _ => ?_)
   refine RD.also (fU y7.mag (toL (((qv t).num).natAbs))) (fun w h => (h _ (.tail _ ((.tail _ ((.tail _ ((.tail _ ((.head _)))))))))).1) k_ ?_
   refine RD.call (i := 9) (rational_times y7.mag ((qv t).num) y13 ((qv r).den) y_rational_Add y_rational_Add) [0, 1] k_ k_ k_ k_ k_ rfl (fun y14 _ => ?_)
   refine RD.call (i := 10) (integer_Add_c y12 (((qv r).num) * ((((qv t).den) : Nat) : Int)) y14 (((qv t).num) * ((((qv r).den) : Nat) : Int)) y_rational_Add y_rational_Add) [3, 0] k_ k_ k_ k_ k_ rfl (fun y15 _ => ?_)
   refine RD.call (i := 12) (rational_den y6 (qv r)) [8] k_ k_ k_ k_ k_ rfl (fun y16 _ => ?_)
   refine RD.call (i := 14) (rational_den y7 (qv t)) [8] k_ k_ k_ k_ k_ rfl (fun y17 _ => ?_)
   refine RD.call (i := 15) (natural_Mul_c y16 ((qv r).den) y17 ((qv t).den) y_rational_Add y_rational_Add) [1, 0] k_ k_ k_ k_ k_ rfl (fun y18 _ => ?_)
   refine RD.call (i := 16) (rational_lowest y15 ((((qv r).num) * ((((qv t).den) : Nat) : Int)) + (((qv t).num) * ((((qv r).den) : Nat) : Int))) y18 (((qv r).den) * ((qv t).den)) y_rational_Add y_rational_Add y_rational_Add) [3, 0] k_ k_ k_ k_ k_ rfl (fun y19 _ => ?_)
   refine RD.last (i := 17) (some 0) [4] [b5, b5, b5] k_ k_ k_ (l' := [(4, pt b5)]) (M' := [(b5, .cells (ratC y19 (encQ (mkRat ((((qv r).num) * ((((qv t).den) : Nat) : Int)) + (((qv t).num) * ((((qv r).den) : Nat) : Int))) (((qv r).den) * ((qv t).den))))) 40 (0, 0)), (b4, .cells (ratC y7 (encQ (qv t))) 40 (0, 0)), (b3, .cells (ratC y6 (encQ (qv r))) 40 (0, 0))]) k_ ?_
   refine RD.done k_ ?_
   refine KN.next ?_
   have e_1 : (encQ ((qv r) + (qv t))) = (encQ (mkRat ((((qv r).num) * ((((qv t).den) : Nat) : Int)) + (((qv t).num) * ((((qv r).den) : Nat) : Int))) (((qv r).den) * ((qv t).den)))) := by rw [Rat.add_def']
   refine J.ret (KR.ret (v := ratV y19 (encQ (mkRat ((((qv r).num) * ((((qv t).den) : Nat) : Int)) + (((qv t).num) * ((((qv r).den) : Nat) : Int))) (((qv r).den) * ((qv t).den))))) (y19) [some 0] [0] [b5, b5, b5] k_ v1_ (trivial) v1_)
 ·replace c8 := ne_of_beq_false c8
  refine RN.bq (no 5) [2, 3, 4, 18] [] 10 [(2, pt b3), (3, pt b4), (4, pt b5), (18, .bool false)] k_ ?_
  refine RN.fin k_ ?_
  refine J.condF k_ ?_
  refine J.skip ?_
  refine KN.next ?_
  refine J.seq ?_
  refine J.regD k_ [17] ?_
  refine RD.bq [(0, none), (1, some 2), (2, some 1), (5, none), (6, some 1), (7, some 2), (11, some 2), (13, some 1)] [4, 26, 27, 31, 32, 36, 38] [b4, b4, b4, b3, b3, b3, b3, b3, b3, b4, b4, b4, b4, b4, b3, b3] [(4, pt b5), (26, intV y6.mag (encZ ((qv r).num))), (27, ratV y7 (encQ (qv t))), (31, intV y7.mag (encZ ((qv t).num))), (32, ratV y6 (encQ (qv r))), (36, ratV y6 (encQ (qv r))), (38, ratV y7 (encQ (qv t)))] k_ k_ ?_
  refine RD.call (i := 3) (rational_den y7 (qv t)) [0] k_ k_ k_ k_ k_ rfl (fun y20 _ => ?_)
  refine RD.also (fU y6.mag (toL (((qv r).num).natAbs))) (fun w h => (h _ (.tail _ ((.tail _ ((.head _)))))).1) k_ ?_
  refine RD.call (i := 4) (rational_times y6.mag ((qv r).num) y20 ((qv t).den) y_rational_Add y_rational_Add) [0, 1] k_ k_ k_ k_ k_ rfl (fun y21 _ => ?_)
  refine RD.call (i := 8) (rational_den y6 (qv r)) [4] k_ k_ k_ k_ k_ rfl (fun y22 _ => ?_)
  refine RD.also (fU y7.mag (toL (((qv t).num).natAbs))) (fun w h => (h _ (.tail _ ((.tail _ ((.tail _ ((.tail _ ((.head _)))))))))).1) k_ ?_
  refine RD.call (i := 9) (rational_times y7.mag ((qv t).num) y22 ((qv r).den) y_rational_Add y_rational_Add) [0, 1] k_ k_ k_ k_ k_ rfl (fun y23 _ => ?_)
  refine RD.call (i := 10) (integer_Add_c y21 (((qv r).num) * ((((qv t).den) : Nat) : Int)) y23 (((qv t).num) * ((((qv r).den) : Nat) : Int)) y_rational_Add y_rational_Add) [3, 0] k_ k_ k_ k_ k_ rfl (fun y24 _ => ?_)
  refine RD.call (i := 12) (rational_den y6 (qv r)) [8] k_ k_ k_ k_ k_ rfl (fun y25 _ => ?_)
  refine RD.call (i := 14) (rational_den y7 (qv t)) [8] k_ k_ k_ k_ k_ rfl (fun y26 _ => ?_)
  refine RD.call (i := 15) (natural_Mul_c y25 ((qv r).den) y26 ((qv t).den) y_rational_Add y_rational_Add) [1, 0] k_ k_ k_ k_ k_ rfl (fun y27 _ => ?_)
  refine RD.call (i := 16) (rational_lowest y24 ((((qv r).num) * ((((qv t).den) : Nat) : Int)) + (((qv t).num) * ((((qv r).den) : Nat) : Int))) y27 (((qv r).den) * ((qv t).den)) y_rational_Add y_rational_Add y_rational_Add) [3, 0] k_ k_ k_ k_ k_ rfl (fun y28 _ => ?_)
  refine RD.last (i := 17) (some 0) [4] [b5, b5, b5] k_ k_ k_ (l' := [(4, pt b5)]) (M' := [(b5, .cells (ratC y28 (encQ (mkRat ((((qv r).num) * ((((qv t).den) : Nat) : Int)) + (((qv t).num) * ((((qv r).den) : Nat) : Int))) (((qv r).den) * ((qv t).den))))) 40 (0, 0)), (b4, .cells (ratC y7 (encQ (qv t))) 40 (0, 0)), (b3, .cells (ratC y6 (encQ (qv r))) 40 (0, 0))]) k_ ?_
  refine RD.done k_ ?_
  refine KN.next ?_
  have e_1 : (encQ ((qv r) + (qv t))) = (encQ (mkRat ((((qv r).num) * ((((qv t).den) : Nat) : Int)) + (((qv t).num) * ((((qv r).den) : Nat) : Int))) (((qv r).den) * ((qv t).den)))) := by rw [Rat.add_def']
  refine J.ret (KR.ret (v := ratV y28 (encQ (mkRat ((((qv r).num) * ((((qv t).den) : Nat) : Int)) + (((qv t).num) * ((((qv r).den) : Nat) : Int))) (((qv r).den) * ((qv t).den))))) (y28) [some 0] [0] [b5, b5, b5] k_ v1_ (trivial) v1_)
theorem rational_Add_c (p : RA) (r' : Rat) (u : RA) (t' : Rat) (hr : Q 268435456 r') (ht : Q 268435456 t') : Spec Tryz.prog 64 #[ratV p (encQ r'), ratV u (encQ t')] [fRat p (encQ r'), fRat u (encQ t')] (ι := RA) (fun y => ratV y (encQ (r' + t'))) (fun y => True) (fun y => [fRat y (encQ (r' + t'))]) := by
  have H := rational_Add p (encQ r') u (encQ t') (RQ_enc hr) (RQ_enc ht)
  first | exact H | (simp only [qv_encQ, validQ_encQ] at H; exact H)
theorem rational_Add_c1 (p : RA) (r' : Rat) (u : RA) (t : Raw) (hr : Q 268435456 r') (ht : RQ 268435456 t) : Spec Tryz.prog 64 #[ratV p (encQ r'), ratV u t] [fRat p (encQ r'), fRat u t] (ι := RA) (fun y => ratV y (encQ (r' + (qv t)))) (fun y => True) (fun y => [fRat y (encQ (r' + (qv t)))]) := by
  have H := rational_Add p (encQ r') u t (RQ_enc hr) (by first | exact ht | simpa only [qv_encQ] using ht)
  first | exact H | (simp only [qv_encQ, validQ_encQ] at H; exact H)
theorem rational_Add_c2 (p : RA) (r : Raw) (u : RA) (t' : Rat) (hr : RQ 268435456 r) (ht : Q 268435456 t') : Spec Tryz.prog 64 #[ratV p r, ratV u (encQ t')] [fRat p r, fRat u (encQ t')] (ι := RA) (fun y => ratV y (encQ ((qv r) + t'))) (fun y => True) (fun y => [fRat y (encQ ((qv r) + t'))]) := by
  have H := rational_Add p r u (encQ t') (by first | exact hr | simpa only [qv_encQ] using hr) (RQ_enc ht)
  first | exact H | (simp only [qv_encQ, validQ_encQ] at H; exact H)
theorem y_rational_Sub {p : Prop} (h : p := by first | assumption | exact Lb_toL _ | omega | (simp; done) | exact hu.neg) : p := h
theorem rational_Sub (p : RA) (r : Raw) (u : RA) (t : Raw) (hr : RQ 268435456 r) (ht : RQ 268435456 t) : Spec Tryz.prog 100 #[ratV p r, ratV u t] [fRat p r, fRat u t] (ι := RA) (fun y => ratV y (encQ ((qv r) - (qv t)))) (fun y => True) (fun y => [fRat y (encQ ((qv r) - (qv t)))]) := by
 refine Spec.of_body _ (fn := Tryz.f100) k_ rfl k_ (fun X w0 => ?_)
 refine J.fact (φ := r.mag.length ≤ 140737488355328 ∧ r.den.length ≤ 140737488355328) (fun w h => by have h1 := (h _ (.head _)).1.1; have h2 := (h _ (.head _)).2.1; omega) (fun hl1 => ?_)
 refine J.fact (φ := t.mag.length ≤ 140737488355328 ∧ t.den.length ≤ 140737488355328) (fun w h => by have h1 := (h _ (.tail _ ((.head _)))).1.1; have h2 := (h _ (.tail _ ((.head _)))).2.1; omega) (fun hl2 => ?_)
 have hq := hr.2.2.2.2
 have hu := ht.2.2.2.2
 have hq1 := hq.1
 have hq2 := hq.2
 have hu1 := hu.1
 have hu2 := hu.2
 refine J.sreg ?_
 refine RN.new (fun b => pt b) (.cells (ratC p r) 40 (0, 0)) k_ k_ (fun w => by kernel_rfl) (fun b3 => ?_)
 refine RN.new (fun b => pt b) (.cells (ratC u t) 40 (0, 0)) k_ k_ (fun w => by kernel_rfl) (fun b4 => ?_)
 refine RN.new (fun b => pt b) (.cells (ratC (⟨saNil, saNil⟩ : RA) (⟨false, ([] : List Nat), ([] : List Nat)⟩ : Raw)) 40 (0, 0)) k_ k_ (fun w => by kernel_rfl) (fun b5 => ?_)
 refine RN.fin k_ ?_
 refine J.seq ?_
 refine J.regD k_ [4] ?_
 refine RD.bq [(0, some 2), (1, some 1)] [4, 5, 6] [b4, b4, b4, b3, b3, b3] [(4, pt b5), (5, ratV p r), (6, ratV u t)] k_ k_ ?_
 refine RD.call (i := 2) (rational_Neg u t y_rational_Sub) [1] k_ k_ k_ k_ k_ rfl (fun y6 _ => ?_)
 refine RD.call (i := 3) (rational_Add_c2 p r y6 (-(qv t)) y_rational_Sub y_rational_Sub) [1, 0] k_ k_ k_ k_ k_ rfl (fun y7 _ => ?_)
 refine RD.last (i := 4) (some 0) [4] [b5, b5, b5] k_ k_ k_ (l' := [(4, pt b5)]) (M' := [(b5, .cells (ratC y7 (encQ ((qv r) + (-(qv t))))) 40 (0, 0)), (b4, .cells (ratC u t) 40 (0, 0)), (b3, .cells (ratC p r) 40 (0, 0))]) k_ ?_
 refine RD.done k_ ?_
 refine KN.next ?_
 have e_1 : (encQ ((qv r) - (qv t))) = (encQ ((qv r) + (-(qv t)))) := by rw [Rat.sub_eq_add_neg]
 refine J.ret (KR.ret (v := ratV y7 (encQ ((qv r) + (-(qv t))))) (y7) [some 0] [0] [b5, b5, b5] k_ v1_ (trivial) v1_)
theorem rational_Sub_c (p : RA) (r' : Rat) (u : RA) (t' : Rat) (hr : Q 268435456 r') (ht : Q 268435456 t') : Spec Tryz.prog 100 #[ratV p (encQ r'), ratV u (encQ t')] [fRat p (encQ r'), fRat u (encQ t')] (ι := RA) (fun y => ratV y (encQ (r' - t'))) (fun y => True) (fun y => [fRat y (encQ (r' - t'))]) := by
  have H := rational_Sub p (encQ r') u (encQ t') (RQ_enc hr) (RQ_enc ht)
  first | exact H | (simp only [qv_encQ, validQ_encQ] at H; exact H)
theorem div_err (x y : Rat) : (if y = 0 then (5 : Int) else 0) = if y.num * (x.den : Int) = 0 then 5 else 0 := by
  have hd : (x.den : Int) ≠ 0 := by have := x.den_nz; omega
  by_cases h : y = 0
  · rw [if_pos h, if_pos (by rw [h]; simp)]
  · rw [if_neg h, if_neg (fun h' => h (Rat.num_eq_zero.1 ((Int.mul_eq_zero.1 h').resolve_right hd)))]
theorem y_rational_Mul {p : Prop} (h : p := by first | assumption | exact Lb_toL _ | omega | (simp; done) | first | exact den_mul_ne _ _ | (simp; omega)) : p := h
theorem rational_Mul (p : RA) (r : Raw) (u : RA) (t : Raw) (hr : RQ 268435456 r) (ht : RQ 268435456 t) : Spec Tryz.prog 101 #[ratV p r, ratV u t] [fRat p r, fRat u t] (ι := RA) (fun y => ratV y (encQ ((qv r) * (qv t)))) (fun y => True) (fun y => [fRat y (encQ ((qv r) * (qv t)))]) := by
 refine Spec.of_body _ (fn := Tryz.f101) k_ rfl k_ (fun X w0 => ?_)
 refine J.fact (φ := r.mag.length ≤ 140737488355328 ∧ r.den.length ≤ 140737488355328) (fun w h => by have h1 := (h _ (.head _)).1.1; have h2 := (h _ (.head _)).2.1; omega) (fun hl1 => ?_)
 refine J.fact (φ := t.mag.length ≤ 140737488355328 ∧ t.den.length ≤ 140737488355328) (fun w h => by have h1 := (h _ (.tail _ ((.head _)))).1.1; have h2 := (h _ (.tail _ ((.head _)))).2.1; omega) (fun hl2 => ?_)
 have hq := hr.2.2.2.2
 have hu := ht.2.2.2.2
 have hq1 := hq.1
 have hq2 := hq.2
 have hu1 := hu.1
 have hu2 := hu.2
 have z1 := zlen_mulN (qv r).num (qv t).den
 have z2 := zlen_mulN (qv t).num (qv r).den
 have z3 := nlen_mul (qv r).den (qv t).den
 have z4 := zlen_add (k := 1073741824) (by omega : (toL ((qv r).num * ((qv t).den : Int)).natAbs).length ≤ 1073741824) (by omega : (toL ((qv t).num * ((qv r).den : Int)).natAbs).length ≤ 1073741824)
 have z5 := zlen_mul (qv r).num (qv t).num
 refine J.sreg ?_
 refine RN.new (fun b => pt b) (.cells (ratC p r) 40 (0, 0)) k_ k_ (fun w => by kernel_rfl) (fun b3 => ?_)
 refine RN.new (fun b => pt b) (.cells (ratC u t) 40 (0, 0)) k_ k_ (fun w => by kernel_rfl) (fun b4 => ?_)
 refine RN.new (fun b => pt b) (.cells (ratC (⟨saNil, saNil⟩ : RA) (⟨false, ([] : List Nat), ([] : List Nat)⟩ : Raw)) 40 (0, 0)) k_ k_ (fun w => by kernel_rfl) (fun b5 => ?_)
 refine RN.fin k_ ?_
 refine J.seq ?_
 refine J.regD k_ [4, 5] ?_
 refine RD.bq [(0, some 2), (2, some 1)] [2, 3, 4, 5, 7] [b4, b4, b4, b3, b3, b3] [(2, pt b3), (3, pt b4), (4, pt b5), (5, ratV p r), (7, ratV u t)] k_ k_ ?_
 refine RD.call (i := 1) (rational_value p r y_rational_Mul) [0] k_ k_ k_ k_ k_ rfl (fun y6 _ => ?_)
 refine RD.call (i := 3) (rational_value u t y_rational_Mul) [2] k_ k_ k_ k_ k_ rfl (fun y7 _ => ?_)
 refine RD.last (i := 4) (some 2) [2, 3, 4, 8] [b3, b3, b3] k_ k_ k_ (l' := [(2, pt b3), (3, pt b4), (4, pt b5), (8, ratV y7 (encQ (qv t)))]) (M' := [(b5, .cells (ratC (⟨saNil, saNil⟩ : RA) (⟨false, ([] : List Nat), ([] : List Nat)⟩ : Raw)) 40 (0, 0)), (b4, .cells (ratC u t) 40 (0, 0)), (b3, .cells (ratC y6 (encQ (qv r))) 40 (0, 0))]) k_ ?_
 refine RD.last (i := 5) (some 1) [2, 3, 4] [b4, b4, b4] k_ k_ k_ (l' := [(2, pt b3), (3, pt b4), (4, pt b5)]) (M' := [(b5, .cells (ratC (⟨saNil, saNil⟩ : RA) (⟨false, ([] : List Nat), ([] : List Nat)⟩ : Raw)) 40 (0, 0)), (b4, .cells (ratC y7 (encQ (qv t))) 40 (0, 0)), (b3, .cells (ratC y6 (encQ (qv r))) 40 (0, 0))]) k_ ?_
 refine RD.done k_ ?_
 refine KN.next ?_
 refine J.seq ?_
 refine J.sreg ?_
 refine RN.bq [none, some 2, none, none, none] [2, 3, 4, 13] [b3] 5 [(2, pt b3), (3, pt b4), (4, pt b5), (13, .bool (((((toD ((qv r).den)).length : Nat) : Int) : Int) == 0))] k_ ?_
 refine RN.split 13 (((((toD ((qv r).den)).length : Nat) : Int) : Int) == 0) k_ (fun c8 => ?_) (fun c8 => ?_)
 ·replace c8 := eq_of_beq c8
  refine RN.bq [none, some 1, none, none, none] [2, 3, 4, 18] [b4] 10 [(2, pt b3), (3, pt b4), (4, pt b5), (18, .bool (((((toD ((qv t).den)).length : Nat) : Int) : Int) == 0))] k_ ?_
  refine RN.fin k_ ?_
  refine J.cond (((((toD ((qv t).den)).length : Nat) : Int) : Int) == 0) k_ (fun c9 => ?_) (fun c9 => ?_)
  ·replace c9 := eq_of_beq c9
   refine J.sreg ?_
   refine RN.bq [none, some 2, none, some 1] [4, 20, 22] [b4, b4, b3, b3] 4 [(4, pt b5), (20, intV y6.mag (encZ ((qv r).num))), (22, intV y7.mag (encZ ((qv t).num)))] k_ ?_
   refine RN.also (fU y6.mag (toL (((qv r).num).natAbs))) (fun w h => (h _ (.tail _ ((.head _)))).1) ?_
   refine RN.also (fU y7.mag (toL (((qv t).num).natAbs))) (fun w h => (h _ (.tail _ ((.head _)))).1) ?_
   refine RN.call (integer_Mul_c y6.mag ((qv r).num) y7.mag ((qv t).num) y_rational_Mul y_rational_Mul) [1, 0] k_ k_ k_ rfl (fun y10 _ => ?_)
   refine RN.bs [none, some 0] [4] [b5, b5, b5] 7 [(4, pt b5)] ([(b5, .cells (ratC (⟨y10, saNil⟩ : RA) (⟨decide ((((qv r).num) * ((qv t).num)) < 0), toL ((((qv r).num) * ((qv t).num)).natAbs), ([] : List Nat)⟩ : Raw)) 40 (0, 0)), (b4, .cells (ratC y7 (encQ (qv t))) 40 (0, 0)), (b3, .cells (ratC y6 (encQ (qv r))) 40 (0, 0))]) k_ ?_
   refine RN.fin k_ ?_
   have e_1 : (encQ ((qv r) * (qv t))) = (⟨decide ((((qv r).num) * ((qv t).num)) < 0), toL ((((qv r).num) * ((qv t).num)).natAbs), ([] : List Nat)⟩ : Raw) := by rw [encQ_mulI ((toD_len (qv r).den_nz).1 (by omega)) ((toD_len (qv t).den_nz).1 (by omega))]
   have e_2 : (toL ((((qv r) * (qv t)).num).natAbs)) = (toL ((((qv r).num) * ((qv t).num)).natAbs)) := congrArg Raw.mag e_1
   have e_3 : (toD (((qv r) * (qv t)).den)) = ([] : List Nat) := congrArg Raw.den e_1
   refine J.also (fRat (⟨y10, saNil⟩ : RA) (⟨decide ((((qv r).num) * ((qv t).num)) < 0), toL ((((qv r).num) * ((qv t).num)).natAbs), ([] : List Nat)⟩ : Raw)) (fun w h => ⟨(h _ (.head _)), fU_nil w⟩) ?_
   refine J.ret (KR.next (KR.ret (v := ratV (⟨y10, saNil⟩ : RA) (⟨decide ((((qv r).num) * ((qv t).num)) < 0), toL ((((qv r).num) * ((qv t).num)).natAbs), ([] : List Nat)⟩ : Raw)) (⟨y10, saNil⟩) [some 0] [0] [b5, b5, b5] k_ (by first | rfl | (rw [e_1]; done) | (simp only [e_1]; done) | (rw [e_2, e_3]; done) | (rw [e_1, e_2, e_3]; rfl) | (simp only [e_1, e_2, e_3]; done) | (simp only [e_1, e_2, e_3]; rfl)) (trivial) (by first | rfl | (rw [e_1]; done) | (simp only [e_1]; done) | (rw [e_2, e_3]; done) | (rw [e_1, e_2, e_3]; rfl) | (simp only [e_1, e_2, e_3]; done) | (simp only [e_1, e_2, e_3]; rfl))))
  ·replace c9 := ne_of_beq_false c9
   refine J.skip ?_
   refine KN.next ?_
   refine J.seq ?_
   refine J.regD k_ [11] ?_
   refine RD.bq [(0, none), (1, some 2), (2, none), (3, some 1), (5, some 2), (7, some 1)] [4, 26, 28, 30, 32] [b4, b4, b4, b3, b3, b3, b4, b4, b3, b3] [(4, pt b5), (26, intV y6.mag (encZ ((qv r).num))), (28, intV y7.mag (encZ ((qv t).num))), (30, ratV y6 (encQ (qv r))), (32, ratV y7 (encQ (qv t)))] k_ k_ ?_
   refine RD.also (fU y6.mag (toL (((qv r).num).natAbs))) (fun w h => (h _ (.tail _ ((.head _)))).1) k_ ?_
   refine RD.also (fU y7.mag (toL (((qv t).num).natAbs))) (fun w h => (h _ (.tail _ ((.head _)))).1) k_ ?_
   refine RD.call (i := 4) (integer_Mul_c y6.mag ((qv r).num) y7.mag ((qv t).num) y_rational_Mul y_rational_Mul) [1, 0] k_ k_ k_ k_ k_ rfl (fun y11 _ => ?_)
   refine RD.call (i := 6) (rational_den y6 (qv r)) [4] k_ k_ k_ k_ k_ rfl (fun y12 _ => ?_)
   refine RD.call (i := 8) (rational_den y7 (qv t)) [4] k_ k_ k_ k_ k_ rfl (fun y13 _ => ?_)
   refine RD.call (i := 9) (natural_Mul_c y12 ((qv r).den) y13 ((qv t).den) y_rational_Mul y_rational_Mul) [1, 0] k_ k_ k_ k_ k_ rfl (fun y14 _ => ?_)
   refine RD.call (i := 10) (rational_lowest y11 (((qv r).num) * ((qv t).num)) y14 (((qv r).den) * ((qv t).den)) y_rational_Mul y_rational_Mul y_rational_Mul) [3, 0] k_ k_ k_ k_ k_ rfl (fun y15 _ => ?_)
   refine RD.last (i := 11) (some 0) [4] [b5, b5, b5] k_ k_ k_ (l' := [(4, pt b5)]) (M' := [(b5, .cells (ratC y15 (encQ (mkRat (((qv r).num) * ((qv t).num)) (((qv r).den) * ((qv t).den))))) 40 (0, 0)), (b4, .cells (ratC y7 (encQ (qv t))) 40 (0, 0)), (b3, .cells (ratC y6 (encQ (qv r))) 40 (0, 0))]) k_ ?_
   refine RD.done k_ ?_
   refine KN.next ?_
   have e_1 : (encQ ((qv r) * (qv t))) = (encQ (mkRat (((qv r).num) * ((qv t).num)) (((qv r).den) * ((qv t).den)))) := by rw [Rat.mul_def']
   refine J.ret (KR.ret (v := ratV y15 (encQ (mkRat (((qv r).num) * ((qv t).num)) (((qv r).den) * ((qv t).den))))) (y15) [some 0] [0] [b5, b5, b5] k_ v1_ (trivial) v1_)
 ·replace c8 := ne_of_beq_false c8
  refine RN.bq (no 5) [2, 3, 4, 18] [] 10 [(2, pt b3), (3, pt b4), (4, pt b5), (18, .bool false)] k_ ?_
  refine RN.fin k_ ?_
  refine J.condF k_ ?_
  refine J.skip ?_
  refine KN.next ?_
  refine J.seq ?_
  refine J.regD k_ [11] ?_
  refine RD.bq [(0, none), (1, some 2), (2, none), (3, some 1), (5, some 2), (7, some 1)] [4, 26, 28, 30, 32] [b4, b4, b4, b3, b3, b3, b4, b4, b3, b3] [(4, pt b5), (26, intV y6.mag (encZ ((qv r).num))), (28, intV y7.mag (encZ ((qv t).num))), (30, ratV y6 (encQ (qv r))), (32, ratV y7 (encQ (qv t)))] k_ k_ ?_
  refine RD.also (fU y6.mag (toL (((qv r).num).natAbs))) (fun w h => (h _ (.tail _ ((.head _)))).1) k_ ?_
  refine RD.also (fU y7.mag (toL (((qv t).num).natAbs))) (fun w h => (h _ (.tail _ ((.head _)))).1) k_ ?_
  refine RD.call (i := 4) (integer_Mul_c y6.mag ((qv r).num) y7.mag ((qv t).num) y_rational_Mul y_rational_Mul) [1, 0] k_ k_ k_ k_ k_ rfl (fun y16 _ => ?_)
  refine RD.call (i := 6) (rational_den y6 (qv r)) [4] k_ k_ k_ k_ k_ rfl (fun y17 _ => ?_)
  refine RD.call (i := 8) (rational_den y7 (qv t)) [4] k_ k_ k_ k_ k_ rfl (fun y18 _ => ?_)
  refine RD.call (i := 9) (natural_Mul_c y17 ((qv r).den) y18 ((qv t).den) y_rational_Mul y_rational_Mul) [1, 0] k_ k_ k_ k_ k_ rfl (fun y19 _ => ?_)
  refine RD.call (i := 10) (rational_lowest y16 (((qv r).num) * ((qv t).num)) y19 (((qv r).den) * ((qv t).den)) y_rational_Mul y_rational_Mul y_rational_Mul) [3, 0] k_ k_ k_ k_ k_ rfl (fun y20 _ => ?_)
  refine RD.last (i := 11) (some 0) [4] [b5, b5, b5] k_ k_ k_ (l' := [(4, pt b5)]) (M' := [(b5, .cells (ratC y20 (encQ (mkRat (((qv r).num) * ((qv t).num)) (((qv r).den) * ((qv t).den))))) 40 (0, 0)), (b4, .cells (ratC y7 (encQ (qv t))) 40 (0, 0)), (b3, .cells (ratC y6 (encQ (qv r))) 40 (0, 0))]) k_ ?_
  refine RD.done k_ ?_
  refine KN.next ?_
  have e_1 : (encQ ((qv r) * (qv t))) = (encQ (mkRat (((qv r).num) * ((qv t).num)) (((qv r).den) * ((qv t).den)))) := by rw [Rat.mul_def']
  refine J.ret (KR.ret (v := ratV y20 (encQ (mkRat (((qv r).num) * ((qv t).num)) (((qv r).den) * ((qv t).den))))) (y20) [some 0] [0] [b5, b5, b5] k_ v1_ (trivial) v1_)
theorem rational_Mul_c (p : RA) (r' : Rat) (u : RA) (t' : Rat) (hr : Q 268435456 r') (ht : Q 268435456 t') : Spec Tryz.prog 101 #[ratV p (encQ r'), ratV u (encQ t')] [fRat p (encQ r'), fRat u (encQ t')] (ι := RA) (fun y => ratV y (encQ (r' * t'))) (fun y => True) (fun y => [fRat y (encQ (r' * t'))]) := by
  have H := rational_Mul p (encQ r') u (encQ t') (RQ_enc hr) (RQ_enc ht)
  first | exact H | (simp only [qv_encQ, validQ_encQ] at H; exact H)
theorem rational_Div (p : RA) (r : Raw) (u : RA) (t : Raw) (hr : RQ 268435456 r) (ht : RQ 268435456 t) : Spec Tryz.prog 125 #[ratV p r, ratV u t] [fRat p r, fRat u t] (ι := RA) (fun y => .tuple #[ratV y (encQ ((qv r) / (qv t))), .int .i64 (if (qv t) = 0 then 5 else 0)]) (fun y => True) (fun y => [fRat y (encQ ((qv r) / (qv t)))]) := by
 refine Spec.of_body _ (fn := Tryz.f125) k_ rfl k_ (fun X w0 => ?_)
 refine J.fact (φ := r.mag.length ≤ 140737488355328 ∧ r.den.length ≤ 140737488355328) (fun w h => by have h1 := (h _ (.head _)).1.1; have h2 := (h _ (.head _)).2.1; omega) (fun hl1 => ?_)
 refine J.fact (φ := t.mag.length ≤ 140737488355328 ∧ t.den.length ≤ 140737488355328) (fun w h => by have h1 := (h _ (.tail _ ((.head _)))).1.1; have h2 := (h _ (.tail _ ((.head _)))).2.1; omega) (fun hl2 => ?_)
 have hq := hr.2.2.2.2
 have hu := ht.2.2.2.2
 have hq1 := hq.1
 have hq2 := hq.2
 have hu1 := hu.1
 have hu2 := hu.2
 have z1 := zlen_mulN (qv r).num (qv t).den
 have z2 := zlen_mulN (qv t).num (qv r).den
 have z3 := nlen_mul (qv r).den (qv t).den
 have z4 := zlen_add (k := 1073741824) (by omega : (toL ((qv r).num * ((qv t).den : Int)).natAbs).length ≤ 1073741824) (by omega : (toL ((qv t).num * ((qv r).den : Int)).natAbs).length ≤ 1073741824)
 have z5 := zlen_mul (qv r).num (qv t).num
 refine J.sreg ?_
 refine RN.new (fun b => pt b) (.cells (ratC p r) 40 (0, 0)) k_ k_ (fun w => by kernel_rfl) (fun b3 => ?_)
 refine RN.new (fun b => pt b) (.cells (ratC u t) 40 (0, 0)) k_ k_ (fun w => by kernel_rfl) (fun b4 => ?_)
 refine RN.new (fun b => pt b) (.cells (ratC (⟨saNil, saNil⟩ : RA) (⟨false, ([] : List Nat), ([] : List Nat)⟩ : Raw)) 40 (0, 0)) k_ k_ (fun w => by kernel_rfl) (fun b5 => ?_)
 refine RN.bq (no 1) [2, 3, 4] [] 4 [(2, pt b3), (3, pt b4), (4, pt b5)] k_ ?_
 refine RN.fin k_ ?_
 refine J.seq ?_
 refine J.regD k_ [4, 5] ?_
 refine RD.bq [(0, some 2), (2, some 1)] [2, 3, 4, 6, 8] [b4, b4, b4, b3, b3, b3] [(2, pt b3), (3, pt b4), (4, pt b5), (6, ratV p r), (8, ratV u t)] k_ k_ ?_
 refine RD.call (i := 1) (rational_value p r y_) [0] k_ k_ k_ k_ k_ rfl (fun y6 _ => ?_)
 refine RD.call (i := 3) (rational_value u t y_) [2] k_ k_ k_ k_ k_ rfl (fun y7 _ => ?_)
 refine RD.last (i := 4) (some 2) [2, 3, 4, 9] [b3, b3, b3] k_ k_ k_ (l' := [(2, pt b3), (3, pt b4), (4, pt b5), (9, ratV y7 (encQ (qv t)))]) (M' := [(b5, .cells (ratC (⟨saNil, saNil⟩ : RA) (⟨false, ([] : List Nat), ([] : List Nat)⟩ : Raw)) 40 (0, 0)), (b4, .cells (ratC u t) 40 (0, 0)), (b3, .cells (ratC y6 (encQ (qv r))) 40 (0, 0))]) k_ ?_
 refine RD.last (i := 5) (some 1) [2, 3, 4] [b4, b4, b4] k_ k_ k_ (l' := [(2, pt b3), (3, pt b4), (4, pt b5)]) (M' := [(b5, .cells (ratC (⟨saNil, saNil⟩ : RA) (⟨false, ([] : List Nat), ([] : List Nat)⟩ : Raw)) 40 (0, 0)), (b4, .cells (ratC y7 (encQ (qv t))) 40 (0, 0)), (b3, .cells (ratC y6 (encQ (qv r))) 40 (0, 0))]) k_ ?_
 refine RD.done k_ ?_
 refine KN.next ?_
 refine J.seq ?_
 refine J.regD k_ [13] ?_
 refine RD.bq [(0, none), (1, some 2), (2, some 1), (5, none), (6, some 1), (7, some 2)] [4, 11, 12, 16, 17] [b3, b3, b3, b4, b4, b4, b4, b4, b3, b3] [(4, pt b5), (11, intV y6.mag (encZ ((qv r).num))), (12, ratV y7 (encQ (qv t))), (16, intV y7.mag (encZ ((qv t).num))), (17, ratV y6 (encQ (qv r)))] k_ k_ ?_
 refine RD.call (i := 3) (rational_den y7 (qv t)) [0] k_ k_ k_ k_ k_ rfl (fun y8 _ => ?_)
 refine RD.also (fU y6.mag (toL (((qv r).num).natAbs))) (fun w h => (h _ (.tail _ ((.tail _ ((.head _)))))).1) k_ ?_
 refine RD.call (i := 4) (rational_times y6.mag ((qv r).num) y8 ((qv t).den) y_ y_) [0, 1] k_ k_ k_ k_ k_ rfl (fun y9 _ => ?_)
 refine RD.call (i := 8) (rational_den y6 (qv r)) [4] k_ k_ k_ k_ k_ rfl (fun y10 _ => ?_)
 refine RD.also (fU y7.mag (toL (((qv t).num).natAbs))) (fun w h => (h _ (.tail _ ((.tail _ ((.tail _ ((.tail _ ((.head _)))))))))).1) k_ ?_
 refine RD.call (i := 9) (rational_times y7.mag ((qv t).num) y10 ((qv r).den) y_ y_) [0, 1] k_ k_ k_ k_ k_ rfl (fun y11 _ => ?_)
 refine RD.call (i := 10) (rational_Make y9 (((qv r).num) * ((((qv t).den) : Nat) : Int)) y11 (((qv t).num) * ((((qv r).den) : Nat) : Int)) y_ y_) [3, 0] k_ k_ k_ k_ k_ rfl (fun y12 _ => ?_)
 refine RD.bq (nl [11, 12]) [4, 21, 22] [] [(4, pt b5), (21, ratV y12 (encQ ((((((qv r).num) * ((((qv t).den) : Nat) : Int)) : Int) : Rat) / (((((qv t).num) * ((((qv r).den) : Nat) : Int)) : Int) : Rat)))), (22, .int .i64 (if (((qv t).num) * ((((qv r).den) : Nat) : Int)) = 0 then 5 else 0))] k_ k_ ?_
 refine RD.last (i := 13) (some 0) [4, 22] [b5, b5, b5] k_ k_ k_ (l' := [(4, pt b5), (22, .int .i64 (if (((qv t).num) * ((((qv r).den) : Nat) : Int)) = 0 then 5 else 0))]) (M' := [(b5, .cells (ratC y12 (encQ ((((((qv r).num) * ((((qv t).den) : Nat) : Int)) : Int) : Rat) / (((((qv t).num) * ((((qv r).den) : Nat) : Int)) : Int) : Rat)))) 40 (0, 0)), (b4, .cells (ratC y7 (encQ (qv t))) 40 (0, 0)), (b3, .cells (ratC y6 (encQ (qv r))) 40 (0, 0))]) k_ ?_
 refine RD.bq (nl [14]) [4, 5] [] [(4, pt b5), (5, .int .i64 (if (((qv t).num) * ((((qv r).den) : Nat) : Int)) = 0 then 5 else 0))] k_ k_ ?_
 refine RD.done k_ ?_
 refine KN.next ?_
 have e_1 : (encQ ((qv r) / (qv t))) = (encQ ((((((qv r).num) * ((((qv t).den) : Nat) : Int)) : Int) : Rat) / (((((qv t).num) * ((((qv r).den) : Nat) : Int)) : Int) : Rat))) := by first | (rw [div_parts]; done) | exact div_err _ _
 have e_2 : (if (qv t) = 0 then 5 else 0 : Int) = (if (((qv t).num) * ((((qv r).den) : Nat) : Int)) = 0 then 5 else 0 : Int) := by first | (rw [div_parts]; done) | exact div_err _ _
 refine J.ret (KR.ret (v := .tuple #[ratV y12 (encQ ((((((qv r).num) * ((((qv t).den) : Nat) : Int)) : Int) : Rat) / (((((qv t).num) * ((((qv r).den) : Nat) : Int)) : Int) : Rat))), .int .i64 (if (((qv t).num) * ((((qv r).den) : Nat) : Int)) = 0 then 5 else 0)]) (y12) [some 0, none] [0] [b5, b5, b5] k_ v2_ (trivial) v2_)
theorem rational_Div_c (p : RA) (r' : Rat) (u : RA) (t' : Rat) (hr : Q 268435456 r') (ht : Q 268435456 t') : Spec Tryz.prog 125 #[ratV p (encQ r'), ratV u (encQ t')] [fRat p (encQ r'), fRat u (encQ t')] (ι := RA) (fun y => .tuple #[ratV y (encQ (r' / t')), .int .i64 (if t' = 0 then 5 else 0)]) (fun y => True) (fun y => [fRat y (encQ (r' / t'))]) := by
  have H := rational_Div p (encQ r') u (encQ t') (RQ_enc hr) (RQ_enc ht)
  first | exact H | (simp only [qv_encQ, validQ_encQ] at H; exact H)
end Go.Proofs.YtbiifkfbkaejlaaGreat.E
/- The reference's naturals: limbs one behind the other, bits. -/
namespace Go.Proofs.YtbiifkfbkaejlaaGreat.E
open Go Go.RowKit
set_option linter.unusedVariables false
set_option linter.unusedSimpArgs false
theorem carry0 {P c S T : Nat} (h : S + P * c = T) (hT : T < P) : c = 0 ∧ S = T := by
  rcases Nat.eq_zero_or_pos c with h0 | h0
  · subst h0; exact ⟨rfl, by simpa using h⟩
  · have := Nat.le_mul_of_pos_right P h0
    generalize P * c = z at *
    omega
def AddR (a b : Nat) (out : List Nat) (i c : Nat) : Prop := out.length = i ∧ Lb out ∧ c ≤ 1 ∧ lv out + W ^ i * c = lv ((toL a).take i) + lv ((toL b).take i)
theorem AddR.start (a b : Nat) : AddR a b [] 0 0 := ⟨rfl, Lb_nil, by omega, by simp [lv]⟩
theorem AddR.step {a b : Nat} {out : List Nat} {i c : Nat} (h : AddR a b out i c) :
    AddR a b (out ++ [((toL a).getD i 0 + (toL b).getD i 0 + c) % 4294967296]) (i + 1) (((toL a).getD i 0 + (toL b).getD i 0 + c) / 2 ^ 32) := by
  obtain ⟨h1, h2, h3, h4⟩ := h
  have hx : (toL a).getD i 0 < 4294967296 := (Lb_toL a).getD i
  have hy : (toL b).getD i 0 < 4294967296 := (Lb_toL b).getD i
  rw [show (2 : Nat) ^ 32 = 4294967296 from rfl]
  refine ⟨by simp [h1], h2.append (Lb.one (Nat.mod_lt _ (by decide))), by omega, ?_⟩
  rw [lv_snoc, h1, lv_take_succ', lv_take_succ', Nat.pow_succ]
  have e1 : W ^ i * (((toL a).getD i 0 + (toL b).getD i 0 + c) % 4294967296) + W ^ i * W * (((toL a).getD i 0 + (toL b).getD i 0 + c) / 4294967296) = W ^ i * (toL a).getD i 0 + W ^ i * (toL b).getD i 0 + W ^ i * c := by
    rw [Nat.mul_assoc, ← Nat.mul_add, W_eq, Nat.mod_add_div, Nat.mul_add, Nat.mul_add]
  omega
theorem AddR.done {a b : Nat} {out : List Nat} {i c : Nat} (h : AddR a b out i c) (ha : (toL a).length < i) (hb : (toL b).length < i) : Lb out ∧ lv out = a + b := by
  obtain ⟨h1, h2, h3, h4⟩ := h
  rw [take_of_le (by omega), take_of_le (by omega), lv_toL, lv_toL] at h4
  refine ⟨h2, ?_⟩
  obtain ⟨k, rfl⟩ : ∃ k, i = k + 1 := ⟨i - 1, by omega⟩
  exact (carry0 h4 (add_lt_pow (lt_of_length (Nat.le_of_lt_succ ha)) (lt_of_length (Nat.le_of_lt_succ hb)))).2
def SubR (a b : Nat) (out : List Nat) (i c : Nat) : Prop := out.length = i ∧ Lb out ∧ c ≤ 1 ∧ lv out + lv ((toL b).take i) = lv ((toL a).take i) + W ^ i * c
theorem SubR.start (a b : Nat) : SubR a b [] 0 0 := ⟨rfl, Lb_nil, by omega, by simp [lv]⟩
theorem SubR.bo {x y c : Nat} (hx : x < 4294967296) (hy : y < 4294967296) (hc : c ≤ 1) : (x + 4294967296 - y - c) / 2 ^ 32 ≤ 1 := by
  rw [show (2 : Nat) ^ 32 = 4294967296 from rfl]; omega
theorem SubR.step {a b : Nat} {out : List Nat} {i c : Nat} (h : SubR a b out i c) :
    SubR a b (out ++ [((toL a).getD i 0 + 4294967296 - (toL b).getD i 0 - c) % 4294967296]) (i + 1) (1 - ((toL a).getD i 0 + 4294967296 - (toL b).getD i 0 - c) / 2 ^ 32) := by
  obtain ⟨h1, h2, h3, h4⟩ := h
  have hx : (toL a).getD i 0 < 4294967296 := (Lb_toL a).getD i
  have hy : (toL b).getD i 0 < 4294967296 := (Lb_toL b).getD i
  rw [show (2 : Nat) ^ 32 = 4294967296 from rfl]
  generalize hx' : (toL a).getD i 0 = x at *
  generalize hy' : (toL b).getD i 0 = y at *
  have key : (x + 4294967296 - y - c) % 4294967296 + y + c = x + 4294967296 * (1 - (x + 4294967296 - y - c) / 4294967296) := by omega
  generalize (x + 4294967296 - y - c) % 4294967296 = d at *
  generalize hk : 1 - (x + 4294967296 - y - c) / 4294967296 = c' at *
  refine ⟨by simp [h1], h2.append (Lb.one (by show d < 4294967296; omega)), by omega, ?_⟩
  rw [lv_snoc, h1, lv_take_succ', lv_take_succ', Nat.pow_succ, hx', hy']
  have e1 : W ^ i * d + W ^ i * y + W ^ i * c = W ^ i * x + W ^ i * W * c' := by
    rw [← Nat.mul_add, ← Nat.mul_add, key, Nat.mul_add, W_eq, Nat.mul_assoc]
  omega
theorem SubR.done {a b : Nat} {out : List Nat} {i c : Nat} (h : SubR a b out i c) (hi : i = (toL a).length) (hab : b ≤ a) : Lb out ∧ lv out = a - b := by
  obtain ⟨h1, h2, h3, h4⟩ := h
  have hb : (toL b).length ≤ i := by rw [hi]; exact length_toL_mono hab
  rw [take_of_le (by omega : (toL a).length ≤ i), take_of_le hb, lv_toL, lv_toL] at h4
  have hlt := lv_lt h2
  rw [h1] at hlt
  refine ⟨h2, ?_⟩
  have hc : c = 0 := by
    apply Nat.eq_zero_of_not_pos
    intro hp
    have : W ^ i * 1 ≤ W ^ i * c := Nat.mul_le_mul_left _ hp
    omega
  rw [hc] at h4; omega
def TimR (a v by_ : Nat) (out : List Nat) (i c : Nat) : Prop := out.length = by_ + i ∧ Lb out ∧ c < 4294967296 ∧ lv out + W ^ (by_ + i) * c = W ^ by_ * (lv ((toL a).take i) * v)
theorem TimR.start (a v by_ : Nat) : TimR a v by_ (List.replicate by_ 0) 0 0 := ⟨by simp, Lb.rep _, by omega, by simp [lv, lv_rep]⟩
theorem TimR.step {a v by_ : Nat} {out : List Nat} {i c : Nat} (h : TimR a v by_ out i c) (hv : v < 4294967296) :
    TimR a v by_ (out ++ [((toL a).getD i 0 * v + c) % 4294967296]) (i + 1) (((toL a).getD i 0 * v + c) / 2 ^ 32) := by
  obtain ⟨h1, h2, h3, h4⟩ := h
  have hx : (toL a).getD i 0 < 4294967296 := (Lb_toL a).getD i
  have hxy := mul_bound hx hv
  rw [show (2 : Nat) ^ 32 = 4294967296 from rfl]
  refine ⟨by simp; omega, h2.append (Lb.one (Nat.mod_lt _ (by decide))), by omega, ?_⟩
  rw [lv_snoc, h1, lv_take_succ', ← Nat.add_assoc, Nat.pow_succ]
  have e1 : W ^ (by_ + i) * (((toL a).getD i 0 * v + c) % 4294967296) + W ^ (by_ + i) * W * (((toL a).getD i 0 * v + c) / 4294967296) = W ^ (by_ + i) * ((toL a).getD i 0 * v) + W ^ (by_ + i) * c := by
    rw [Nat.mul_assoc, ← Nat.mul_add, W_eq, Nat.mod_add_div, Nat.mul_add]
  have e2 : W ^ by_ * ((lv ((toL a).take i) + W ^ i * (toL a).getD i 0) * v) = W ^ by_ * (lv ((toL a).take i) * v) + W ^ (by_ + i) * ((toL a).getD i 0 * v) := by
    rw [Nat.add_mul, Nat.mul_add, Nat.pow_add, Nat.mul_assoc (W ^ i), Nat.mul_assoc (W ^ by_)]
  omega
theorem TimR.done {a v by_ : Nat} {out : List Nat} {i c : Nat} (h : TimR a v by_ out i c) (hi : (toL a).length < i) (hv : v < 4294967296) : Lb out ∧ lv out = W ^ by_ * (a * v) := by
  obtain ⟨h1, h2, h3, h4⟩ := h
  rw [take_of_le (by omega), lv_toL] at h4
  refine ⟨h2, ?_⟩
  obtain ⟨k, rfl⟩ : ∃ k, i = k + 1 := ⟨i - 1, by omega⟩
  have h5 : a * v < W ^ (k + 1) := mul_lt_pow (lt_of_length (Nat.le_of_lt_succ hi)) (by rw [Nat.pow_one]; exact hv)
  refine (carry0 h4 ?_).2
  rw [Nat.pow_add]
  exact Nat.mul_lt_mul_of_pos_left h5 (Wpos _)
theorem getD_toL (a : Nat) : ∀ i, (toL a).getD i 0 = a / W ^ i % W := by
  intro i
  induction i generalizing a with
  | zero =>
    by_cases h : a = 0
    · subst h; simp [toL_zero]
    · rw [toL_pos h]; simp
  | succ i ih =>
    by_cases h : a = 0
    · subst h; simp [toL_zero]
    · rw [toL_pos h]
      show (toL (a / W)).getD i 0 = _
      rw [ih, Nat.div_div_eq_div_mul, Nat.pow_succ, Nat.mul_comm W]
theorem bit_val (a i : Nat) : (toL a).getD (i / 32) 0 / 2 ^ (i % 32) % 2 = a / 2 ^ i % 2 := by
  rw [getD_toL]
  have hW : W = 2 ^ (32 - i % 32) * 2 ^ (i % 32) := by rw [← Nat.pow_add, show 32 - i % 32 + i % 32 = 32 by omega]
  have h2 : 2 ^ (32 - i % 32) = 2 * 2 ^ (31 - i % 32) := by rw [show 32 - i % 32 = (31 - i % 32) + 1 by omega, Nat.pow_succ, Nat.mul_comm]
  have e : a / 2 ^ i = a / W ^ (i / 32) / 2 ^ (i % 32) := by
    rw [Nat.div_div_eq_div_mul]
    congr 1
    rw [show W = 2 ^ 32 from rfl, ← Nat.pow_mul, ← Nat.pow_add]
    congr 1; omega
  rw [e]
  generalize a / W ^ (i / 32) = x
  rw [hW, Nat.mul_comm, Nat.mod_mul_right_div_self, h2, Nat.mod_mul_right_mod]
/-- The reference's division, bit by bit. -/
def DivR (a b q r m : Nat) : Prop := a / 2 ^ m = b * q + r ∧ r < b
theorem DivR.step {a b q r m : Nat} (h : DivR a b q r (m + 1)) : DivR a b (if b ≤ 2 * r + a / 2 ^ m % 2 then 2 * q + 1 else 2 * q) (if b ≤ 2 * r + a / 2 ^ m % 2 then 2 * r + a / 2 ^ m % 2 - b else 2 * r + a / 2 ^ m % 2) m := by
  obtain ⟨h1, h2⟩ := h
  have e : a / 2 ^ m = 2 * (a / 2 ^ (m + 1)) + a / 2 ^ m % 2 := by
    rw [Nat.pow_succ, ← Nat.div_div_eq_div_mul]; omega
  have hb := Nat.mod_lt (a / 2 ^ m) (by decide : 0 < 2)
  generalize a / 2 ^ m % 2 = t at *
  rw [h1, Nat.mul_add] at e
  have e3 : b * (2 * q) = 2 * (b * q) := Nat.mul_left_comm _ _ _
  unfold DivR
  rw [e]
  split
  · rw [Nat.mul_add, e3]; omega
  · rw [e3]; omega
theorem DivR.start {a b : Nat} (hb : 0 < b) : DivR a b 0 0 (32 * (toL a).length) := by
  have : a < W ^ (toL a).length := lt_of_length (Nat.le_refl _)
  rw [show W = 2 ^ 32 from rfl, ← Nat.pow_mul] at this
  exact ⟨by rw [Nat.div_eq_of_lt this]; simp, hb⟩
theorem DivR.done {a b q r : Nat} (h : DivR a b q r 0) : q = a / b ∧ r = a % b := by
  obtain ⟨h1, h2⟩ := h
  rw [Nat.pow_zero, Nat.div_one] at h1
  have hb : 0 < b := by omega
  exact ⟨by rw [h1, Nat.mul_add_div hb, Nat.div_eq_of_lt h2, Nat.add_zero], by rw [h1, Nat.mul_add_mod, Nat.mod_eq_of_lt h2]⟩
theorem DivR.q_le {a b q r m : Nat} (h : DivR a b q r m) : q ≤ a ∧ r ≤ a := by
  obtain ⟨h1, h2⟩ := h
  have h3 : a / 2 ^ m ≤ a := Nat.div_le_self _ _
  have h4 : 1 * q ≤ b * q := Nat.mul_le_mul_right _ (by omega)
  omega
end Go.Proofs.YtbiifkfbkaejlaaGreat.E
namespace Go.Proofs.YtbiifkfbkaejlaaGreat.E
open Go Go.RowKit
set_option linter.unusedVariables false
set_option linter.unusedSimpArgs false
theorem r01_Valid (s : SA) (xs : List Nat) : Spec Tryz.prog 117 #[sl s xs.length] [fU s xs] (ι := Unit) (fun y => .bool (validU xs)) (fun y => True) (fun y => []) := by
 refine Spec.of_body _ (fn := Tryz.f117) k_ rfl k_ (fun X w0 => ?_)
 refine J.fact (φ := xs.length ≤ 140737488355328) (fun w h => by have := (h _ (.head _)).1; omega) (fun hl1 => ?_)
 refine J.sreg ?_
 refine RN.bq (no 1) [0] [] 1 [(0, sl s xs.length)] k_ ?_
 refine RN.fs k_ ?_
 refine RN.bq (no 4) [0, 6] [] 4 [(0, sl s xs.length), (6, .bool ((((xs.length : Nat) : Int) : Int) == 0))] k_ ?_
 refine RN.split 6 ((((xs.length : Nat) : Int) : Int) == 0) k_ (fun c2 => ?_) (fun c2 => ?_)
 ·replace c2 := eq_of_beq c2
  refine RN.bq (no 9) [2] [] 13 [(2, .bool true)] k_ ?_
  refine RN.fin k_ ?_
  have e_1 : (validU xs) = true := by exact validU_eq _ ‹_›
  refine J.ret (KR.ret (v := .bool true) (()) [none] [] [] k_ v1_ (trivial) v1_)
 ·replace c2 := ne_of_beq_false c2
  refine RN.bq (no 4) [6, 7, 10] [] 8 [(6, .bool false), (7, sl s xs.length), (10, .int .i64 (IntKind.i64.wrap (((xs.length : Nat) : Int) - 1)))] k_ ?_
  rw [show IntKind.i64.wrap (((xs.length : Nat) : Int) - 1) = (((xs.length : Nat) : Int) - 1) from by rw [IntKind.wrap_i64]; omega]
  refine RN.val _ k_ k_ (q_uidx (t := 36) (x := (.tmp 7)) (ix := (.tmp 10)) (K := .i64) (i0 := ((xs.length : Nat) : Int) - 1) (m := (((xs.length : Nat) : Int) - 1).toNat) (e := 107) 0 rfl k_ k_ k_ k_ k_ (by omega) x_) ?_
  refine RN.val _ k_ k_ (q_uload (T := 107) (x := (.tmp 11)) (m := (((xs.length : Nat) : Int) - 1).toNat) (s := s) (xs := xs) 0 rfl k_ k_ k_ x_) ?_
  refine RN.bq (no 3) [2] [] 13 [(2, .bool ((((xs.getD ((((xs.length : Nat) : Int) - 1).toNat) 0 : Nat) : Int) : Int) != 0))] k_ ?_
  refine RN.fin k_ ?_
  have e_1 : (validU xs) = ((((xs.getD ((((xs.length : Nat) : Int) - 1).toNat) 0 : Nat) : Int) : Int) != 0) := by exact validU_ne _ ‹_›
  refine J.ret (KR.ret (v := .bool ((((xs.getD ((((xs.length : Nat) : Int) - 1).toNat) 0 : Nat) : Int) : Int) != 0)) (()) [none] [] [] k_ v1_ (trivial) v1_)
theorem r01_Take (s : SA) (xs : List Nat) (hx : Lb xs) (hxl : xs.length ≤ 1099511627776) : Spec Tryz.prog 71 #[sl s xs.length] [fU s xs] (ι := SA) (fun y => sl y (toL (nv xs)).length) (fun y => True) (fun y => [fU y (toL (nv xs))]) := by
 refine Spec.of_body _ (fn := Tryz.f71) k_ rfl k_ (fun X w0 => ?_)
 refine J.fact (φ := xs.length ≤ 140737488355328) (fun w h => by have := (h _ (.head _)).1; omega) (fun hl1 => ?_)
 refine J.sreg ?_
 refine RN.bq (no 1) [0] [] 1 [(0, sl s xs.length)] k_ ?_
 refine RN.fin k_ ?_
 refine J.seq ?_
 refine J.sreg ?_
 refine RN.bq (no 1) [0, 3] [] 1 [(0, sl s xs.length), (3, sl s xs.length)] k_ ?_
 refine RN.call (r01_Valid s xs) [0] k_ k_ k_ rfl (fun y2 _ => ?_)
 refine RN.bq (no 1) [0, 5] [] 3 [(0, sl s xs.length), (5, .bool (!(validU xs)))] k_ ?_
 refine RN.fin k_ ?_
 refine J.cond (!(validU xs)) k_ (fun c3 => ?_) (fun c3 => ?_)
 ·refine J.sreg ?_
  refine RN.bq (no 1) [2] [] 1 [(2, .slice none 0 0)] k_ ?_
  refine RN.fin k_ ?_
  have e_1 : (toL (nv xs)) = ([] : List Nat) := by exact toL_nv_f hx (by simpa using ‹(!validU xs) = true›)
  refine J.also (fU saNil ([] : List Nat)) (fun w h => fU_nil w) ?_
  refine J.ret (KR.next (KR.ret (v := .slice none 0 0) (saNil) [none] [0] [] k_ v1_ (trivial) v1_))
 ·refine J.skip ?_
  refine KN.next ?_
  refine J.sreg ?_
  refine RN.bq (no 1) [6] [] 1 [(6, sl s xs.length)] k_ ?_
  refine RN.ot k_ k_ (ot_uclone (T := 36) (e := 107) (by_ := 4) (x := (.const (.slice none 0 0))) (y := (.tmp 6)) (xs := xs) (s := s) 0 [] ([]) rfl rfl k_ k_ k_ k_ k_ k_ k_ (by omega) (by omega)) (fun g4 hg5 => ?_)
  refine RN.bq (no 1) [2] [] 3 [(2, sl (glS g4) xs.length)] k_ ?_
  refine RN.fin k_ ?_
  refine J.shareG [] ([]) rfl (fU (glS g4) xs) (fun w hb h => fU_gl hb (by assumption) x_) ?_
  have e_1 : (toL (nv xs)) = xs := by exact toL_nv_t hx (by simpa using ‹(!validU xs) = false›)
  refine J.ret (KR.ret (v := sl (glS g4) xs.length) (glS g4) [none] [0] [] k_ v1_ (trivial) v1_)
theorem trim_drop {zs : List Nat} (hn : 0 < zs.length) (hz : ((zs.getD ((zs.length : Int) - 1).toNat 0 : Nat) : Int) = 0) : lv (zs.take (((zs.length : Int) - 1).toNat)) = lv zs := by
  have e : ((zs.length : Int) - 1).toNat = zs.length - 1 := by omega
  rw [e] at hz ⊢
  have := lv_take_succ' zs (zs.length - 1)
  rw [show zs.length - 1 + 1 = zs.length by omega, take_of_le (Nat.le_refl _)] at this
  rw [this]
  have h0 : zs.getD (zs.length - 1) 0 = 0 := by omega
  rw [h0]; simp
theorem trim_end {zs : List Nat} (hb : Lb zs) (h : (zs.length : Int) > 0 → ((zs.getD ((zs.length : Int) - 1).toNat 0 : Nat) : Int) ≠ 0) : toL (lv zs) = zs := by
  apply toL_lv hb
  by_cases h0 : (zs.length : Int) = 0
  · exact validU_eq _ h0
  · rw [validU_ne _ h0]; simpa using h (by omega)
theorem r01_trim (s : SA) (xs : List Nat) (hx : Lb xs) : Spec Tryz.prog 121 #[sl s xs.length] [fU s xs] (ι := SA) (fun y => sl y (toL (lv xs)).length) (fun y => True) (fun y => [fU y (toL (lv xs))]) := by
 refine Spec.of_body _ (fn := Tryz.f121) k_ rfl k_ (fun X w0 => ?_)
 refine J.fact (φ := xs.length ≤ 140737488355328) (fun w h => by have := (h _ (.head _)).1; omega) (fun hl1 => ?_)
 refine J.sreg ?_
 refine RN.bq (no 1) [0] [] 1 [(0, sl s xs.length)] k_ ?_
 refine RN.fin k_ ?_
 refine J.seq ?_
 refine J.block ?_
 refine J.loop (ι := (SA) × (List Nat)) (fun x => Lb x.2 ∧ lv x.2 = lv xs ∧ x.2.length ≤ 140737488355328) (fun x => x.2.length) (fun x => [(0, sl x.1 x.2.length)]) (fun x => []) (fun x => [fU x.1 x.2, fU s xs]) (s, xs) [0] [0, 0] (⟨hx, rfl, hl1⟩) k_ (by first | rfl | (simp only [encQ_zero]; done) | (simp only [encQ_zero]; rfl)) (by rfl) (fun x2 hI => ?_)
 obtain ⟨sa, zs⟩ := x2
 replace hI : Lb zs ∧ lv zs = lv xs ∧ zs.length ≤ 140737488355328 := hI
 obtain ⟨hI1, hI2, hI3⟩ := hI
 refine J.seq ?_
 refine J.sreg ?_
 refine RN.bq (no 4) [0, 6] [] 4 [(0, sl sa zs.length), (6, .bool (decide (((zs.length : Nat) : Int) > 0)))] k_ ?_
 refine RN.split 6 (decide (((zs.length : Nat) : Int) > 0)) k_ (fun c3 => ?_) (fun c3 => ?_)
 ·replace c3 := of_decide_eq_true c3
  refine RN.bq (no 4) [0, 6, 7, 10] [] 8 [(0, sl sa zs.length), (6, .bool true), (7, sl sa zs.length), (10, .int .i64 (IntKind.i64.wrap (((zs.length : Nat) : Int) - 1)))] k_ ?_
  rw [show IntKind.i64.wrap (((zs.length : Nat) : Int) - 1) = (((zs.length : Nat) : Int) - 1) from by rw [IntKind.wrap_i64]; omega]
  refine RN.val _ k_ k_ (q_uidx (t := 36) (x := (.tmp 7)) (ix := (.tmp 10)) (K := .i64) (i0 := ((zs.length : Nat) : Int) - 1) (m := (((zs.length : Nat) : Int) - 1).toNat) (e := 107) 0 rfl k_ k_ k_ k_ k_ (by omega) x_) ?_
  refine RN.val _ k_ k_ (q_uload (T := 107) (x := (.tmp 11)) (m := (((zs.length : Nat) : Int) - 1).toNat) (s := sa) (xs := zs) 0 rfl k_ k_ k_ x_) ?_
  refine RN.bq (no 2) [0, 14] [] 12 [(0, sl sa zs.length), (14, .bool ((((zs.getD ((((zs.length : Nat) : Int) - 1).toNat) 0 : Nat) : Int) : Int) == 0))] k_ ?_
  refine RN.fin k_ ?_
  refine J.cond ((((zs.getD ((((zs.length : Nat) : Int) - 1).toNat) 0 : Nat) : Int) : Int) == 0) k_ (fun c4 => ?_) (fun c4 => ?_)
  ·replace c4 := eq_of_beq c4
   refine J.skip ?_
   refine KN.next ?_
   refine J.block ?_
   refine J.regN ?_
   refine RN.bq (no 4) [15, 18] [] 4 [(15, sl sa zs.length), (18, .int .i64 (IntKind.i64.wrap (((zs.length : Nat) : Int) - 1)))] k_ ?_
   rw [show IntKind.i64.wrap (((zs.length : Nat) : Int) - 1) = (((zs.length : Nat) : Int) - 1) from by rw [IntKind.wrap_i64]; omega]
   refine RN.val _ k_ k_ (q_uslice (t := 36) (x := (.tmp 15)) (lo := 0) (hi := ((((zs.length : Nat) : Int) - 1).toNat)) (s := sa) (xs := zs) (e := 107) 0 (zs.take ((((zs.length : Nat) : Int) - 1).toNat)) rfl k_ k_ (.inl ⟨rfl, rfl⟩) (.inr ⟨(.tmp 18), .i64, ((zs.length : Nat) : Int) - 1, rfl, by kernel_rfl, by omega⟩) k_ k_ x_ x_ (by simp; try omega)) ?_
   refine RN.also (fU (saSub sa 1 0) (zs.take ((((zs.length : Nat) : Int) - 1).toNat))) (fun w h => fU_take (h _ (.head _)) ((((zs.length : Nat) : Int) - 1).toNat) x_) ?_
   refine RN.bq (no 1) [0] [] 6 [(0, sl (saSub sa 1 0) (zs.take ((((zs.length : Nat) : Int) - 1).toNat)).length)] k_ ?_
   refine RN.done k_ ?_
   refine KN.blk ?_
   refine KN.roundE (saSub sa 1 0, zs.take ((((zs.length : Nat) : Int) - 1).toNat)) [0] [0, 2] (l2 := [(0, sl (saSub sa 1 0) (zs.take ((((zs.length : Nat) : Int) - 1).toNat)).length)]) (by (try dsimp only); first | (simp; done) | (simp; omega)) (by (try dsimp only); exact ⟨hI1.take _, (trim_drop (by omega) (by assumption)).trans hI2, by first | (simp; done) | (simp; omega)⟩) k_ (by rfl) (by rfl) (by rfl)
  ·replace c4 := ne_of_beq_false c4
   refine J.exit (KX.next (KX.next (KX.hit ?_)))
   refine KN.next ?_
   refine J.sreg ?_
   refine RN.bq (no 2) [2] [] 2 [(2, sl sa zs.length)] k_ ?_
   refine RN.fin k_ ?_
   have e_1 : (toL (lv xs)) = zs := by rw [← hI2]; first | exact trim_end hI1 (fun h => absurd h (by omega)) | exact trim_end hI1 (fun _ => by assumption)
   refine J.ret (KR.ret (v := sl sa zs.length) (sa) [none] [0] [] k_ v1_ (trivial) v1_)
 ·replace c3 := of_decide_eq_false c3
  refine RN.bq (no 8) [0, 14] [] 12 [(0, sl sa zs.length), (14, .bool false)] k_ ?_
  refine RN.fin k_ ?_
  refine J.condF k_ ?_
  refine J.exit (KX.next (KX.next (KX.hit ?_)))
  refine KN.next ?_
  refine J.sreg ?_
  refine RN.bq (no 2) [2] [] 2 [(2, sl sa zs.length)] k_ ?_
  refine RN.fin k_ ?_
  have e_1 : (toL (lv xs)) = zs := by rw [← hI2]; first | exact trim_end hI1 (fun h => absurd h (by omega)) | exact trim_end hI1 (fun _ => by assumption)
  refine J.ret (KR.ret (v := sl sa zs.length) (sa) [none] [0] [] k_ v1_ (trivial) v1_)
theorem r01_limb (s : SA) (xs : List Nat) (i : Nat) (hx : Lb xs) : Spec Tryz.prog 120 #[sl s xs.length, .int .i64 ((i : Nat) : Int)] [fU s xs] (ι := Unit) (fun y => .int .u64 ((xs.getD i 0 : Nat) : Int)) (fun y => True) (fun y => []) := by
 refine Spec.of_body _ (fn := Tryz.f120) k_ rfl k_ (fun X w0 => ?_)
 refine J.fact (φ := xs.length ≤ 140737488355328) (fun w h => by have := (h _ (.head _)).1; omega) (fun hl1 => ?_)
 have hg : xs.getD i 0 < 4294967296 := hx.getD i
 refine J.sreg ?_
 refine RN.bq (no 1) [0, 1] [] 1 [(0, sl s xs.length), (1, .int .i64 ((i : Nat) : Int))] k_ ?_
 refine RN.fin k_ ?_
 refine J.seq ?_
 refine J.sreg ?_
 refine RN.bq (no 4) [0, 1, 8] [] 4 [(0, sl s xs.length), (1, .int .i64 ((i : Nat) : Int)), (8, .bool (decide (((i : Nat) : Int) ≥ ((xs.length : Nat) : Int))))] k_ ?_
 refine RN.fin k_ ?_
 refine J.cond (decide (((i : Nat) : Int) ≥ ((xs.length : Nat) : Int))) k_ (fun c2 => ?_) (fun c2 => ?_)
 ·replace c2 := of_decide_eq_true c2
  refine J.sreg ?_
  refine RN.bq (no 1) [4] [] 1 [(4, .int .u64 0)] k_ ?_
  refine RN.fin k_ ?_
  have e_1 : (((xs.getD i 0 : Nat) : Int) : Int) = (0 : Int) := by rw [getD_ge (by omega)]; rfl
  refine J.ret (KR.next (KR.ret (v := .int .u64 0) (()) [none] [] [] k_ v1_ (trivial) v1_))
 ·replace c2 := of_decide_eq_false c2
  refine J.skip ?_
  refine KN.next ?_
  refine J.sreg ?_
  refine RN.bq (no 2) [9, 10] [] 2 [(9, sl s xs.length), (10, .int .i64 ((i : Nat) : Int))] k_ ?_
  refine RN.val _ k_ k_ (q_uidx (t := 36) (x := (.tmp 9)) (ix := (.tmp 10)) (K := .i64) (i0 := ((i : Nat) : Int)) (m := i) (e := 107) 0 rfl k_ k_ k_ k_ k_ (by omega) x_) ?_
  refine RN.val _ k_ k_ (q_uload (T := 107) (x := (.tmp 11)) (m := i) (s := s) (xs := xs) 0 rfl k_ k_ k_ x_) ?_
  refine RN.bq (no 1) [13] [] 5 [(13, .int .u64 (IntKind.u64.wrap ((xs.getD i 0 : Nat) : Int)))] k_ ?_
  rw [show IntKind.u64.wrap ((xs.getD i 0 : Nat) : Int) = ((xs.getD i 0 : Nat) : Int) from uw64b (xs.getD i 0) (by rfl) (by omega)]
  refine RN.bq (no 1) [4] [] 6 [(4, .int .u64 ((xs.getD i 0 : Nat) : Int))] k_ ?_
  refine RN.fin k_ ?_
  refine J.ret (KR.ret (v := .int .u64 ((xs.getD i 0 : Nat) : Int)) (()) [none] [] [] k_ rfl (trivial) rfl)
theorem r01_limb_c (s : SA) (xs' : Nat) (i : Nat) : Spec Tryz.prog 120 #[sl s (toL xs').length, .int .i64 ((i : Nat) : Int)] [fU s (toL xs')] (ι := Unit) (fun y => .int .u64 (((toL xs').getD i 0 : Nat) : Int)) (fun y => True) (fun y => []) := by
  have H := r01_limb s (toL xs') i (Lb_toL _)
  first | exact H | (simp only [nv_toL, lv_toL, validU_toL] at H; exact H)
theorem r01_compare (s : SA) (a : Nat) (t : SA) (b : Nat) : Spec Tryz.prog 122 #[sl s (toL a).length, sl t (toL b).length] [fU s (toL a), fU t (toL b)] (ι := Unit) (fun y => .int .i64 (cmpN a b)) (fun y => True) (fun y => []) := by
 refine Spec.of_body _ (fn := Tryz.f122) k_ rfl k_ (fun X w0 => ?_)
 refine J.fact (φ := (toL a).length ≤ 140737488355328) (fun w h => by have := (h _ (.head _)).1; omega) (fun hl1 => ?_)
 refine J.fact (φ := (toL b).length ≤ 140737488355328) (fun w h => by have := (h _ (.tail _ ((.head _)))).1; omega) (fun hl2 => ?_)
 refine J.sreg ?_
 refine RN.bq (no 1) [0, 1] [] 1 [(0, sl s (toL a).length), (1, sl t (toL b).length)] k_ ?_
 refine RN.fin k_ ?_
 refine J.seq ?_
 refine J.sreg ?_
 refine RN.bq (no 5) [0, 1, 10] [] 5 [(0, sl s (toL a).length), (1, sl t (toL b).length), (10, .bool (((((toL a).length : Nat) : Int) : Int) != (((toL b).length : Nat) : Int)))] k_ ?_
 refine RN.fin k_ ?_
 refine J.cond (((((toL a).length : Nat) : Int) : Int) != (((toL b).length : Nat) : Int)) k_ (fun c3 => ?_) (fun c3 => ?_)
 ·replace c3 := bne_iff_ne.1 c3
  refine J.seq ?_
  refine J.sreg ?_
  refine RN.bq (no 5) [15] [] 5 [(15, .bool (decide ((((toL a).length : Nat) : Int) < (((toL b).length : Nat) : Int))))] k_ ?_
  refine RN.fin k_ ?_
  refine J.cond (decide ((((toL a).length : Nat) : Int) < (((toL b).length : Nat) : Int))) k_ (fun c4 => ?_) (fun c4 => ?_)
  ·replace c4 := of_decide_eq_true c4
   refine J.sreg ?_
   refine RN.bq (no 1) [4] [] 1 [(4, .int .i64 (-1))] k_ ?_
   refine RN.fin k_ ?_
   have e_1 : (cmpN a b : Int) = ((-1) : Int) := by exact cmpN_lt (toL_len_lt (by omega))
   refine J.ret (KR.next (KR.next (KR.ret (v := .int .i64 (-1)) (()) [none] [] [] k_ v1_ (trivial) v1_)))
  ·replace c4 := of_decide_eq_false c4
   refine J.skip ?_
   refine KN.next ?_
   refine J.sreg ?_
   refine RN.bq (no 1) [4] [] 1 [(4, .int .i64 1)] k_ ?_
   refine RN.fin k_ ?_
   have e_1 : (cmpN a b : Int) = (1 : Int) := by exact cmpN_gt (toL_len_lt (by omega))
   refine J.ret (KR.next (KR.ret (v := .int .i64 1) (()) [none] [] [] k_ v1_ (trivial) v1_))
 ·replace c3 := bne_eq_false_iff_eq.1 c3
  refine J.skip ?_
  refine KN.next ?_
  refine J.seq ?_
  refine J.sreg ?_
  refine RN.bq (no 3) [0, 1, 18] [] 3 [(0, sl s (toL a).length), (1, sl t (toL b).length), (18, .int .i64 (IntKind.i64.wrap ((((toL a).length : Nat) : Int) - 1)))] k_ ?_
  rw [show IntKind.i64.wrap ((((toL a).length : Nat) : Int) - 1) = ((((toL a).length : Nat) : Int) - 1) from by rw [IntKind.wrap_i64]; omega]
  refine RN.bq (no 1) [0, 1, 5] [] 4 [(0, sl s (toL a).length), (1, sl t (toL b).length), (5, .int .i64 ((((toL a).length : Nat) : Int) - 1))] k_ ?_
  refine RN.fin k_ ?_
  refine J.block ?_
  refine J.loop (ι := (Nat)) (fun x => x ≤ (toL a).length ∧ ∀ i, x ≤ i → (toL a).getD i 0 = (toL b).getD i 0) (fun x => x) (fun x => [(0, sl s (toL a).length), (1, sl t (toL b).length), (5, .int .i64 ((x : Int) - 1))]) (fun x => []) (fun x => [fU s (toL a), fU t (toL b)]) ((toL a).length) [0, 1, 5] [0, 1] (⟨Nat.le_refl _, fun i hi => by rw [getD_ge hi, getD_ge (by omega)]⟩) k_ (by first | rfl | (simp only [encQ_zero]; done) | (simp only [encQ_zero]; rfl)) (by rfl) (fun m hI => ?_)
  replace hI : m ≤ (toL a).length ∧ ∀ i, m ≤ i → (toL a).getD i 0 = (toL b).getD i 0 := hI
  refine J.seq ?_
  refine J.sreg ?_
  refine RN.bq (no 2) [0, 1, 5, 20] [] 2 [(0, sl s (toL a).length), (1, sl t (toL b).length), (5, .int .i64 ((m : Int) - 1)), (20, .bool (decide (((m : Int) - 1) ≥ 0)))] k_ ?_
  refine RN.fin k_ ?_
  refine J.cond (decide (((m : Int) - 1) ≥ 0)) k_ (fun c5 => ?_) (fun c5 => ?_)
  ·replace c5 := of_decide_eq_true c5
   refine J.skip ?_
   refine KN.next ?_
   refine J.seq ?_
   refine J.block ?_
   refine J.seq ?_
   refine J.seq ?_
   refine J.regD k_ [] ?_
   refine RD.bq (nl [0, 1, 4, 5]) [0, 1, 5, 23, 24, 27, 28] [] [(0, sl s (toL a).length), (1, sl t (toL b).length), (5, .int .i64 ((m : Int) - 1)), (23, sl s (toL a).length), (24, .int .i64 ((m : Int) - 1)), (27, sl t (toL b).length), (28, .int .i64 ((m : Int) - 1))] k_ k_ ?_
   refine RD.val (i := 2) _ k_ k_ k_ (q_uidx (t := 36) (x := (.tmp 23)) (ix := (.tmp 24)) (K := .i64) (i0 := (m : Int) - 1) (m := ((m : Int) - 1).toNat) (e := 107) 0 rfl k_ k_ k_ k_ k_ (by omega) x_) ?_
   refine RD.val (i := 3) _ k_ k_ k_ (q_uload (T := 107) (x := (.tmp 25)) (m := ((m : Int) - 1).toNat) (s := s) (xs := toL a) 0 rfl k_ k_ k_ x_) ?_
   refine RD.val (i := 6) _ k_ k_ k_ (q_uidx (t := 36) (x := (.tmp 27)) (ix := (.tmp 28)) (K := .i64) (i0 := (m : Int) - 1) (m := ((m : Int) - 1).toNat) (e := 107) 1 rfl k_ k_ k_ k_ k_ (by omega) x_) ?_
   refine RD.val (i := 7) _ k_ k_ k_ (q_uload (T := 107) (x := (.tmp 29)) (m := ((m : Int) - 1).toNat) (s := t) (xs := toL b) 1 rfl k_ k_ k_ x_) ?_
   refine RD.bq (nl [8]) [0, 1, 5, 31] [] [(0, sl s (toL a).length), (1, sl t (toL b).length), (5, .int .i64 ((m : Int) - 1)), (31, .bool (decide ((((toL a).getD (((m : Int) - 1).toNat) 0 : Nat) : Int) < (((toL b).getD (((m : Int) - 1).toNat) 0 : Nat) : Int))))] k_ k_ ?_
   refine RD.done k_ ?_
   refine KN.next ?_
   refine J.cond (decide ((((toL a).getD (((m : Int) - 1).toNat) 0 : Nat) : Int) < (((toL b).getD (((m : Int) - 1).toNat) 0 : Nat) : Int))) k_ (fun c6 => ?_) (fun c6 => ?_)
   ·replace c6 := of_decide_eq_true c6
    refine J.sreg ?_
    refine RN.bq (no 1) [4] [] 1 [(4, .int .i64 (-1))] k_ ?_
    refine RN.fin k_ ?_
    have e_1 : (cmpN a b : Int) = ((-1) : Int) := by exact cmpN_lt (cmp_lt_at (by omega) hI.2 ‹_›)
    refine J.ret (KR.next (KR.blk (KR.next (KR.next (KR.blk (KR.next (KR.ret (v := .int .i64 (-1)) (()) [none] [] [] k_ v1_ (trivial) v1_)))))))
   ·replace c6 := of_decide_eq_false c6
    refine J.skip ?_
    refine KN.next ?_
    refine J.seq ?_
    refine J.regD k_ [] ?_
    refine RD.bq (nl [0, 1, 4, 5]) [0, 1, 5, 32, 33, 36, 37] [] [(0, sl s (toL a).length), (1, sl t (toL b).length), (5, .int .i64 ((m : Int) - 1)), (32, sl s (toL a).length), (33, .int .i64 ((m : Int) - 1)), (36, sl t (toL b).length), (37, .int .i64 ((m : Int) - 1))] k_ k_ ?_
    refine RD.val (i := 2) _ k_ k_ k_ (q_uidx (t := 36) (x := (.tmp 32)) (ix := (.tmp 33)) (K := .i64) (i0 := (m : Int) - 1) (m := ((m : Int) - 1).toNat) (e := 107) 0 rfl k_ k_ k_ k_ k_ (by omega) x_) ?_
    refine RD.val (i := 3) _ k_ k_ k_ (q_uload (T := 107) (x := (.tmp 34)) (m := ((m : Int) - 1).toNat) (s := s) (xs := toL a) 0 rfl k_ k_ k_ x_) ?_
    refine RD.val (i := 6) _ k_ k_ k_ (q_uidx (t := 36) (x := (.tmp 36)) (ix := (.tmp 37)) (K := .i64) (i0 := (m : Int) - 1) (m := ((m : Int) - 1).toNat) (e := 107) 1 rfl k_ k_ k_ k_ k_ (by omega) x_) ?_
    refine RD.val (i := 7) _ k_ k_ k_ (q_uload (T := 107) (x := (.tmp 38)) (m := ((m : Int) - 1).toNat) (s := t) (xs := toL b) 1 rfl k_ k_ k_ x_) ?_
    refine RD.bq (nl [8]) [0, 1, 5, 40] [] [(0, sl s (toL a).length), (1, sl t (toL b).length), (5, .int .i64 ((m : Int) - 1)), (40, .bool (decide ((((toL a).getD (((m : Int) - 1).toNat) 0 : Nat) : Int) > (((toL b).getD (((m : Int) - 1).toNat) 0 : Nat) : Int))))] k_ k_ ?_
    refine RD.done k_ ?_
    refine KN.next ?_
    refine J.cond (decide ((((toL a).getD (((m : Int) - 1).toNat) 0 : Nat) : Int) > (((toL b).getD (((m : Int) - 1).toNat) 0 : Nat) : Int))) k_ (fun c7 => ?_) (fun c7 => ?_)
    ·replace c7 := of_decide_eq_true c7
     refine J.sreg ?_
     refine RN.bq (no 1) [4] [] 1 [(4, .int .i64 1)] k_ ?_
     refine RN.fin k_ ?_
     have e_1 : (cmpN a b : Int) = (1 : Int) := by exact cmpN_gt (cmp_lt_at (by omega) (fun i hi => (hI.2 i hi).symm) ‹_›)
     refine J.ret (KR.blk (KR.next (KR.next (KR.blk (KR.next (KR.ret (v := .int .i64 1) (()) [none] [] [] k_ v1_ (trivial) v1_))))))
    ·replace c7 := of_decide_eq_false c7
     refine J.skip ?_
     refine KN.blk ?_
     refine KN.next ?_
     refine J.regN ?_
     refine RN.bq (no 2) [0, 1, 22] [] 2 [(0, sl s (toL a).length), (1, sl t (toL b).length), (22, .int .i64 (IntKind.i64.wrap (((m : Int) - 1) - 1)))] k_ ?_
     rw [show IntKind.i64.wrap (((m : Int) - 1) - 1) = (((m : Int) - 1) - 1) from by rw [IntKind.wrap_i64]; omega]
     refine RN.bq (no 1) [0, 1, 5] [] 3 [(0, sl s (toL a).length), (1, sl t (toL b).length), (5, .int .i64 (((m : Int) - 1) - 1))] k_ ?_
     refine RN.done k_ ?_
     refine KN.roundE (m - 1) [0, 1, 5] [0, 1] (l2 := [(0, sl s (toL a).length), (1, sl t (toL b).length), (5, .int .i64 (((m : Int) - 1) - 1))]) (by (try dsimp only); omega) (by (try dsimp only); exact ⟨by omega, cmp_step (by omega) hI.2 ‹_› ‹_›⟩) k_ (by rw [show ((m - 1 : Nat) : Int) = (m : Int) - 1 from by omega]) (by rfl) (by rfl)
  ·replace c5 := of_decide_eq_false c5
   refine J.exit (KX.next (KX.next (KX.hit ?_)))
   refine KN.next ?_
   refine J.sreg ?_
   refine RN.bq (no 1) [4] [] 1 [(4, .int .i64 0)] k_ ?_
   refine RN.fin k_ ?_
   have e_1 : (cmpN a b : Int) = (0 : Int) := by exact cmpN_eq (cmp_done (by omega) hI.2)
   refine J.ret (KR.ret (v := .int .i64 0) (()) [none] [] [] k_ v1_ (trivial) v1_)
theorem y_r01_Add {p : Prop} (h : p := by first | assumption | exact Lb_toL _ | omega | (simp; done) | exact hI3.2.1) : p := h
theorem r01_Add (s : SA) (xs : List Nat) (t : SA) (ys : List Nat) (hx : Lb xs) (hy : Lb ys) (hxl : xs.length ≤ 1099511627776) (hyl : ys.length ≤ 1099511627776) : Spec Tryz.prog 77 #[sl s xs.length, sl t ys.length] [fU s xs, fU t ys] (ι := SA) (fun y => sl y (toL (nv xs + nv ys)).length) (fun y => True) (fun y => [fU y (toL (nv xs + nv ys))]) := by
 refine Spec.of_body _ (fn := Tryz.f77) k_ rfl k_ (fun X w0 => ?_)
 refine J.fact (φ := xs.length ≤ 140737488355328) (fun w h => by have := (h _ (.head _)).1; omega) (fun hl1 => ?_)
 refine J.fact (φ := ys.length ≤ 140737488355328) (fun w h => by have := (h _ (.tail _ ((.head _)))).1; omega) (fun hl2 => ?_)
 have hnx := toL_nv_len hx _ hxl
 have hny := toL_nv_len hy _ hyl
 refine J.sreg ?_
 refine RN.bq (no 1) [0, 1] [] 1 [(0, sl s xs.length), (1, sl t ys.length)] k_ ?_
 refine RN.fs k_ ?_
 refine RN.bq (no 1) [1, 9] [] 1 [(1, sl t ys.length), (9, sl s xs.length)] k_ ?_
 refine RN.call (r01_Take s xs y_r01_Add y_r01_Add) [0] k_ k_ k_ rfl (fun y3 _ => ?_)
 refine RN.bq (no 1) [10, 11] [] 3 [(10, sl y3 (toL (nv xs)).length), (11, sl t ys.length)] k_ ?_
 refine RN.call (r01_Take t ys y_r01_Add y_r01_Add) [2] k_ k_ k_ rfl (fun y4 _ => ?_)
 refine RN.bq (no 2) [0, 1] [] 6 [(0, sl y3 (toL (nv xs)).length), (1, sl y4 (toL (nv ys)).length)] k_ ?_
 refine RN.fs k_ ?_
 refine RN.bq (no 1) [0, 1, 5] [] 1 [(0, sl y3 (toL (nv xs)).length), (1, sl y4 (toL (nv ys)).length), (5, .slice none 0 0)] k_ ?_
 refine RN.fs k_ ?_
 refine RN.bq (no 1) [0, 1, 5, 6] [] 1 [(0, sl y3 (toL (nv xs)).length), (1, sl y4 (toL (nv ys)).length), (5, .slice none 0 0), (6, .int .u64 0)] k_ ?_
 refine RN.fin k_ ?_
 refine J.seq ?_
 refine J.sreg ?_
 refine RN.bq (no 1) [0, 1, 5, 6, 7] [] 1 [(0, sl y3 (toL (nv xs)).length), (1, sl y4 (toL (nv ys)).length), (5, .slice none 0 0), (6, .int .u64 0), (7, .int .i64 0)] k_ ?_
 refine RN.fin k_ ?_
 refine J.block ?_
 refine J.loop (ι := (Nat) × (Option GB) × (List Nat) × (Nat)) (fun x => x.1 ≤ max (toL (nv xs)).length (toL (nv ys)).length + 1 ∧ gOk 1 x.2.1 x.2.2.1.length ∧ AddR (nv xs) (nv ys) x.2.2.1 x.1 x.2.2.2) (fun x => max (toL (nv xs)).length (toL (nv ys)).length + 1 - x.1) (fun x => [(0, sl y3 (toL (nv xs)).length), (1, sl y4 (toL (nv ys)).length), (5, sl (glS x.2.1) x.2.2.1.length), (6, .int .u64 ((x.2.2.2 : Nat) : Int)), (7, .int .i64 ((x.1 : Nat) : Int))]) (fun x => [] ++ (glM x.2.1 (encU x.2.2.1) 107 ++ ([]))) (fun x => [fU y4 (toL (nv ys)), fU y3 (toL (nv xs)), fU s xs, fU t ys]) (0, none, ([] : List Nat), 0) [0, 1, 5, 6, 7] [0, 1, 2, 3] (⟨Nat.zero_le _, rfl, AddR.start _ _⟩) k_ (by first | rfl | (simp only [encQ_zero]; done) | (simp only [encQ_zero]; rfl)) (by rfl) (fun x5 hI => ?_)
 obtain ⟨i, go, out, c⟩ := x5
 replace hI : i ≤ max (toL (nv xs)).length (toL (nv ys)).length + 1 ∧ gOk 1 go out.length ∧ AddR (nv xs) (nv ys) out i c := hI
 obtain ⟨hI1, hI2, hI3⟩ := hI
 have hI4 := hI3.1
 have hI5 := hI3.2.2.1
 have hga : (toL (nv xs)).getD i 0 < 4294967296 := (Lb_toL (nv xs)).getD i
 have hgb : (toL (nv ys)).getD i 0 < 4294967296 := (Lb_toL (nv ys)).getD i
 refine J.seq ?_
 refine J.sreg ?_
 refine RN.bq (no 7) [0, 1, 5, 6, 7, 19] [] 7 [(0, sl y3 (toL (nv xs)).length), (1, sl y4 (toL (nv ys)).length), (5, sl (glS go) out.length), (6, .int .u64 ((c : Nat) : Int)), (7, .int .i64 ((i : Nat) : Int)), (19, .bool (decide (((i : Nat) : Int) ≤ (if (((toL (nv ys)).length : Nat) : Int) > (((toL (nv xs)).length : Nat) : Int) then (((toL (nv ys)).length : Nat) : Int) else (((toL (nv xs)).length : Nat) : Int)))))] k_ ?_
 refine RN.fin k_ ?_
 refine J.cond (decide (((i : Nat) : Int) ≤ (if (((toL (nv ys)).length : Nat) : Int) > (((toL (nv xs)).length : Nat) : Int) then (((toL (nv ys)).length : Nat) : Int) else (((toL (nv xs)).length : Nat) : Int)))) k_ (fun c6 => ?_) (fun c6 => ?_)
 ·replace c6 := of_decide_eq_true c6
  refine J.skip ?_
  refine KN.next ?_
  refine J.seq ?_
  refine J.block ?_
  refine J.sreg ?_
  refine RN.bq (no 2) [0, 1, 5, 6, 7, 22, 23] [] 2 [(0, sl y3 (toL (nv xs)).length), (1, sl y4 (toL (nv ys)).length), (5, sl (glS go) out.length), (6, .int .u64 ((c : Nat) : Int)), (7, .int .i64 ((i : Nat) : Int)), (22, sl y3 (toL (nv xs)).length), (23, .int .i64 ((i : Nat) : Int))] k_ ?_
  refine RN.call (r01_limb_c y3 (nv xs) i) [1] k_ k_ k_ rfl (fun y7 _ => ?_)
  refine RN.bq (no 2) [0, 1, 5, 6, 7, 24, 25, 26] [] 5 [(0, sl y3 (toL (nv xs)).length), (1, sl y4 (toL (nv ys)).length), (5, sl (glS go) out.length), (6, .int .u64 ((c : Nat) : Int)), (7, .int .i64 ((i : Nat) : Int)), (24, .int .u64 (((toL (nv xs)).getD i 0 : Nat) : Int)), (25, sl y4 (toL (nv ys)).length), (26, .int .i64 ((i : Nat) : Int))] k_ ?_
  refine RN.call (r01_limb_c y4 (nv ys) i) [0] k_ k_ k_ rfl (fun y8 _ => ?_)
  refine RN.bq (no 1) [0, 1, 5, 6, 7, 28] [] 7 [(0, sl y3 (toL (nv xs)).length), (1, sl y4 (toL (nv ys)).length), (5, sl (glS go) out.length), (6, .int .u64 ((c : Nat) : Int)), (7, .int .i64 ((i : Nat) : Int)), (28, .int .u64 (IntKind.u64.wrap ((((toL (nv xs)).getD i 0 : Nat) : Int) + (((toL (nv ys)).getD i 0 : Nat) : Int))))] k_ ?_
  rw [show IntKind.u64.wrap ((((toL (nv xs)).getD i 0 : Nat) : Int) + (((toL (nv ys)).getD i 0 : Nat) : Int)) = ((((toL (nv xs)).getD i 0) + ((toL (nv ys)).getD i 0) : Nat) : Int) from uw64b (((toL (nv xs)).getD i 0) + ((toL (nv ys)).getD i 0)) (by omega) (by omega)]
  refine RN.bq (no 2) [0, 1, 5, 7, 30] [] 9 [(0, sl y3 (toL (nv xs)).length), (1, sl y4 (toL (nv ys)).length), (5, sl (glS go) out.length), (7, .int .i64 ((i : Nat) : Int)), (30, .int .u64 (IntKind.u64.wrap (((((toL (nv xs)).getD i 0) + ((toL (nv ys)).getD i 0) : Nat) : Int) + ((c : Nat) : Int))))] k_ ?_
  rw [show IntKind.u64.wrap (((((toL (nv xs)).getD i 0) + ((toL (nv ys)).getD i 0) : Nat) : Int) + ((c : Nat) : Int)) = (((((toL (nv xs)).getD i 0) + ((toL (nv ys)).getD i 0)) + c : Nat) : Int) from uw64b ((((toL (nv xs)).getD i 0) + ((toL (nv ys)).getD i 0)) + c) (by omega) (by omega)]
  refine RN.bq (no 1) [0, 1, 5, 7, 8] [] 10 [(0, sl y3 (toL (nv xs)).length), (1, sl y4 (toL (nv ys)).length), (5, sl (glS go) out.length), (7, .int .i64 ((i : Nat) : Int)), (8, .int .u64 (((((toL (nv xs)).getD i 0) + ((toL (nv ys)).getD i 0)) + c : Nat) : Int))] k_ ?_
  refine RN.fin k_ ?_
  refine J.regN ?_
  refine RN.bq (no 3) [0, 1, 7, 8, 31, 33] [] 3 [(0, sl y3 (toL (nv xs)).length), (1, sl y4 (toL (nv ys)).length), (7, .int .i64 ((i : Nat) : Int)), (8, .int .u64 (((((toL (nv xs)).getD i 0) + ((toL (nv ys)).getD i 0)) + c : Nat) : Int)), (31, sl (glS go) out.length), (33, .int .u32 (IntKind.u32.wrap (((((toL (nv xs)).getD i 0) + ((toL (nv ys)).getD i 0)) + c : Nat) : Int)))] k_ ?_
  rw [show IntKind.u32.wrap (((((toL (nv xs)).getD i 0) + ((toL (nv ys)).getD i 0)) + c : Nat) : Int) = ((((((toL (nv xs)).getD i 0) + ((toL (nv ys)).getD i 0)) + c) % 4294967296 : Nat) : Int) from uw32e ((((toL (nv xs)).getD i 0) + ((toL (nv ys)).getD i 0)) + c) (by rfl)]
  refine RN.new (fun b => .slice (some ⟨b, 0, none⟩) 1 1) (.cells (encU ([((((toL (nv xs)).getD i 0) + ((toL (nv ys)).getD i 0)) + c) % 4294967296] : List Nat)) 107 (0, 0)) k_ k_ (fun w => by kernel_rfl) (fun b9 => ?_)
  refine RN.ot k_ k_ (ot_uapp (T := 36) (e := 107) (by_ := 4) (mi := 0) (b := b9) (k := 1) (c := 1) (x := (.tmp 31)) (y := (.tmp 34)) (go := go) (xs := out) (ys := ([((((toL (nv xs)).getD i 0) + ((toL (nv ys)).getD i 0)) + c) % 4294967296] : List Nat)) [(b9, .cells (encU ([((((toL (nv xs)).getD i 0) + ((toL (nv ys)).getD i 0)) + c) % 4294967296] : List Nat)) 107 (0, 0))] ([]) rfl rfl k_ k_ k_ k_ k_ k_  rfl (by first | decide | exact Nat.zero_lt_one | simp) (by assumption) x_ x_) (fun g10 hg11 => ?_)
  refine RN.dropM 0 rfl ?_
  refine RN.bq (no 2) [0, 1, 7, 35, 37] [] 7 [(0, sl y3 (toL (nv xs)).length), (1, sl y4 (toL (nv ys)).length), (7, .int .i64 ((i : Nat) : Int)), (35, sl (glS (some g10)) (out ++ ([((((toL (nv xs)).getD i 0) + ((toL (nv ys)).getD i 0)) + c) % 4294967296] : List Nat)).length), (37, .int .u64 (Int.fdiv (((((toL (nv xs)).getD i 0) + ((toL (nv ys)).getD i 0)) + c : Nat) : Int) (2 ^ 32)))] k_ ?_
  rw [show Int.fdiv (((((toL (nv xs)).getD i 0) + ((toL (nv ys)).getD i 0)) + c : Nat) : Int) (2 ^ 32) = ((((((toL (nv xs)).getD i 0) + ((toL (nv ys)).getD i 0)) + c) / 2 ^ 32 : Nat) : Int) from fdivn _ _]
  refine RN.bq (no 2) [0, 1, 5, 6, 7] [] 9 [(0, sl y3 (toL (nv xs)).length), (1, sl y4 (toL (nv ys)).length), (5, sl (glS (some g10)) (out ++ ([((((toL (nv xs)).getD i 0) + ((toL (nv ys)).getD i 0)) + c) % 4294967296] : List Nat)).length), (6, .int .u64 ((((((toL (nv xs)).getD i 0) + ((toL (nv ys)).getD i 0)) + c) / 2 ^ 32 : Nat) : Int)), (7, .int .i64 ((i : Nat) : Int))] k_ ?_
  refine RN.done k_ ?_
  refine KN.blk ?_
  refine KN.next ?_
  refine J.regN ?_
  refine RN.bq (no 2) [0, 1, 5, 6, 21] [] 2 [(0, sl y3 (toL (nv xs)).length), (1, sl y4 (toL (nv ys)).length), (5, sl (glS (some g10)) (out ++ ([((((toL (nv xs)).getD i 0) + ((toL (nv ys)).getD i 0)) + c) % 4294967296] : List Nat)).length), (6, .int .u64 ((((((toL (nv xs)).getD i 0) + ((toL (nv ys)).getD i 0)) + c) / 2 ^ 32 : Nat) : Int)), (21, .int .i64 (IntKind.i64.wrap (((i : Nat) : Int) + 1)))] k_ ?_
  rw [show IntKind.i64.wrap (((i : Nat) : Int) + 1) = ((i + 1 : Nat) : Int) from by rw [IntKind.wrap_i64]; omega]
  refine RN.bq (no 1) [0, 1, 5, 6, 7] [] 3 [(0, sl y3 (toL (nv xs)).length), (1, sl y4 (toL (nv ys)).length), (5, sl (glS (some g10)) (out ++ ([((((toL (nv xs)).getD i 0) + ((toL (nv ys)).getD i 0)) + c) % 4294967296] : List Nat)).length), (6, .int .u64 ((((((toL (nv xs)).getD i 0) + ((toL (nv ys)).getD i 0)) + c) / 2 ^ 32 : Nat) : Int)), (7, .int .i64 ((i + 1 : Nat) : Int))] k_ ?_
  refine RN.done k_ ?_
  refine KN.roundE (i + 1, some g10, out ++ ([((((toL (nv xs)).getD i 0) + ((toL (nv ys)).getD i 0)) + c) % 4294967296] : List Nat), ((((toL (nv xs)).getD i 0) + ((toL (nv ys)).getD i 0)) + c) / 2 ^ 32) [0, 1, 5, 6, 7] [0, 1, 2, 3] (l2 := [(0, sl y3 (toL (nv xs)).length), (1, sl y4 (toL (nv ys)).length), (5, sl (glS (some g10)) (out ++ ([((((toL (nv xs)).getD i 0) + ((toL (nv ys)).getD i 0)) + c) % 4294967296] : List Nat)).length), (6, .int .u64 ((((((toL (nv xs)).getD i 0) + ((toL (nv ys)).getD i 0)) + c) / 2 ^ 32 : Nat) : Int)), (7, .int .i64 ((i + 1 : Nat) : Int))]) (by (try dsimp only); omega) (by (try dsimp only); exact ⟨by omega, by assumption, hI3.step⟩) k_ (by rfl) (by rfl) (by rfl)
 ·replace c6 := of_decide_eq_false c6
  refine J.exit (KX.next (KX.next (KX.hit ?_)))
  refine KN.next ?_
  refine J.sreg ?_
  refine RN.bq (no 1) [38] [] 1 [(38, sl (glS go) out.length)] k_ ?_
  refine RN.shareG [] ([]) rfl (fU (glS go) out) (fun w hb h => fU_gl hb (by assumption) x_) ?_
  refine RN.call (r01_trim (glS go) out y_r01_Add) [0] k_ k_ k_ rfl (fun y12 _ => ?_)
  refine RN.bq (no 1) [4] [] 3 [(4, sl y12 (toL (lv out)).length)] k_ ?_
  refine RN.fin k_ ?_
  have e_1 : (toL (nv xs + nv ys)) = (toL (lv out)) := by rw [(hI3.done (by omega) (by omega)).2]
  refine J.ret (KR.ret (v := sl y12 (toL (lv out)).length) (y12) [none] [0] [] k_ v1_ (trivial) v1_)
theorem r01_Add_c (s : SA) (xs' : Nat) (t : SA) (ys' : Nat) (hxl : (toL xs').length ≤ 1099511627776) (hyl : (toL ys').length ≤ 1099511627776) : Spec Tryz.prog 77 #[sl s (toL xs').length, sl t (toL ys').length] [fU s (toL xs'), fU t (toL ys')] (ι := SA) (fun y => sl y (toL (xs' + ys')).length) (fun y => True) (fun y => [fU y (toL (xs' + ys'))]) := by
  have H := r01_Add s (toL xs') t (toL ys') (Lb_toL _) (Lb_toL _) (by first | exact hxl | simpa only [nv_toL, nv_toL] using hxl) (by first | exact hyl | simpa only [nv_toL, nv_toL] using hyl)
  first | exact H | (simp only [nv_toL, lv_toL, validU_toL] at H; exact H)
theorem y_r01_Sub {p : Prop} (h : p := by first | assumption | exact Lb_toL _ | omega | (simp; done) | exact hI3.2.1) : p := h
theorem r01_Sub (s : SA) (xs : List Nat) (t : SA) (ys : List Nat) (hx : Lb xs) (hy : Lb ys) (hxl : xs.length ≤ 1099511627776) (hyl : ys.length ≤ 1099511627776) : Spec Tryz.prog 78 #[sl s xs.length, sl t ys.length] [fU s xs, fU t ys] (ι := SA) (fun y => .tuple #[sl y (toL (nv xs - nv ys)).length, .bool (decide (nv ys ≤ nv xs))]) (fun y => True) (fun y => [fU y (toL (nv xs - nv ys))]) := by
 refine Spec.of_body _ (fn := Tryz.f78) k_ rfl k_ (fun X w0 => ?_)
 refine J.fact (φ := xs.length ≤ 140737488355328) (fun w h => by have := (h _ (.head _)).1; omega) (fun hl1 => ?_)
 refine J.fact (φ := ys.length ≤ 140737488355328) (fun w h => by have := (h _ (.tail _ ((.head _)))).1; omega) (fun hl2 => ?_)
 have hnx := toL_nv_len hx _ hxl
 have hny := toL_nv_len hy _ hyl
 refine J.sreg ?_
 refine RN.bq (no 2) [0, 1] [] 2 [(0, sl s xs.length), (1, sl t ys.length)] k_ ?_
 refine RN.fs k_ ?_
 refine RN.bq (no 1) [1, 10] [] 1 [(1, sl t ys.length), (10, sl s xs.length)] k_ ?_
 refine RN.call (r01_Take s xs y_r01_Sub y_r01_Sub) [0] k_ k_ k_ rfl (fun y3 _ => ?_)
 refine RN.bq (no 1) [11, 12] [] 3 [(11, sl y3 (toL (nv xs)).length), (12, sl t ys.length)] k_ ?_
 refine RN.call (r01_Take t ys y_r01_Sub y_r01_Sub) [2] k_ k_ k_ rfl (fun y4 _ => ?_)
 refine RN.bq (no 2) [0, 1] [] 6 [(0, sl y3 (toL (nv xs)).length), (1, sl y4 (toL (nv ys)).length)] k_ ?_
 refine RN.fin k_ ?_
 refine J.seq ?_
 refine J.sreg ?_
 refine RN.bq (no 2) [0, 1, 14, 15] [] 2 [(0, sl y3 (toL (nv xs)).length), (1, sl y4 (toL (nv ys)).length), (14, sl y3 (toL (nv xs)).length), (15, sl y4 (toL (nv ys)).length)] k_ ?_
 refine RN.call (r01_compare y3 (nv xs) y4 (nv ys)) [1, 0] k_ k_ k_ rfl (fun y5 _ => ?_)
 refine RN.bq (no 1) [0, 1, 17] [] 4 [(0, sl y3 (toL (nv xs)).length), (1, sl y4 (toL (nv ys)).length), (17, .bool (decide ((cmpN (nv xs) (nv ys)) < 0)))] k_ ?_
 refine RN.fin k_ ?_
 refine J.cond (decide ((cmpN (nv xs) (nv ys)) < 0)) k_ (fun c6 => ?_) (fun c6 => ?_)
 ·replace c6 := of_decide_eq_true c6
  have hlt := cmpN_neg.1 c6
  refine J.sreg ?_
  refine RN.bq (no 2) [4, 5] [] 2 [(4, .slice none 0 0), (5, .bool false)] k_ ?_
  refine RN.fin k_ ?_
  have e_1 : (toL (nv xs - nv ys)) = ([] : List Nat) := by first | (rw [show nv xs - nv ys = 0 from by omega, toL_zero]; done) | (simp; omega)
  have e_2 : (decide (nv ys ≤ nv xs)) = false := by first | (rw [show nv xs - nv ys = 0 from by omega, toL_zero]; done) | (simp; omega)
  refine J.also (fU saNil ([] : List Nat)) (fun w h => fU_nil w) ?_
  refine J.ret (KR.next (KR.ret (v := .tuple #[.slice none 0 0, .bool false]) (saNil) [none, none] [0] [] k_ v2_ (trivial) v2_))
 ·replace c6 := of_decide_eq_false c6
  have hle := cmp_le c6
  refine J.skip ?_
  refine KN.next ?_
  refine J.sreg ?_
  refine RN.bq (no 1) [0, 1, 6] [] 1 [(0, sl y3 (toL (nv xs)).length), (1, sl y4 (toL (nv ys)).length), (6, .slice none 0 0)] k_ ?_
  refine RN.fs k_ ?_
  refine RN.bq (no 1) [0, 1, 6, 7] [] 1 [(0, sl y3 (toL (nv xs)).length), (1, sl y4 (toL (nv ys)).length), (6, .slice none 0 0), (7, .int .u64 0)] k_ ?_
  refine RN.fin k_ ?_
  refine J.seq ?_
  refine J.sreg ?_
  refine RN.bq (no 1) [0, 1, 6, 7, 8] [] 1 [(0, sl y3 (toL (nv xs)).length), (1, sl y4 (toL (nv ys)).length), (6, .slice none 0 0), (7, .int .u64 0), (8, .int .i64 0)] k_ ?_
  refine RN.fin k_ ?_
  refine J.block ?_
  refine J.loop (ι := (Nat) × (Option GB) × (List Nat) × (Nat)) (fun x => x.1 ≤ (toL (nv xs)).length ∧ gOk 1 x.2.1 x.2.2.1.length ∧ SubR (nv xs) (nv ys) x.2.2.1 x.1 x.2.2.2) (fun x => (toL (nv xs)).length - x.1) (fun x => [(0, sl y3 (toL (nv xs)).length), (1, sl y4 (toL (nv ys)).length), (6, sl (glS x.2.1) x.2.2.1.length), (7, .int .u64 ((x.2.2.2 : Nat) : Int)), (8, .int .i64 ((x.1 : Nat) : Int))]) (fun x => [] ++ (glM x.2.1 (encU x.2.2.1) 107 ++ ([]))) (fun x => [fU y4 (toL (nv ys)), fU y3 (toL (nv xs)), fU s xs, fU t ys]) (0, none, ([] : List Nat), 0) [0, 1, 6, 7, 8] [0, 1, 2, 3] (⟨Nat.zero_le _, rfl, SubR.start _ _⟩) k_ (by first | rfl | (simp only [encQ_zero]; done) | (simp only [encQ_zero]; rfl)) (by rfl) (fun x7 hI => ?_)
  obtain ⟨i, go, out, c⟩ := x7
  replace hI : i ≤ (toL (nv xs)).length ∧ gOk 1 go out.length ∧ SubR (nv xs) (nv ys) out i c := hI
  obtain ⟨hI1, hI2, hI3⟩ := hI
  have hI4 := hI3.1
  have hI5 := hI3.2.2.1
  have hga : (toL (nv xs)).getD i 0 < 4294967296 := (Lb_toL (nv xs)).getD i
  have hgb : (toL (nv ys)).getD i 0 < 4294967296 := (Lb_toL (nv ys)).getD i
  have hbo := SubR.bo hga hgb hI5
  refine J.seq ?_
  refine J.sreg ?_
  refine RN.bq (no 4) [0, 1, 6, 7, 8, 21] [] 4 [(0, sl y3 (toL (nv xs)).length), (1, sl y4 (toL (nv ys)).length), (6, sl (glS go) out.length), (7, .int .u64 ((c : Nat) : Int)), (8, .int .i64 ((i : Nat) : Int)), (21, .bool (decide (((i : Nat) : Int) < (((toL (nv xs)).length : Nat) : Int))))] k_ ?_
  refine RN.fin k_ ?_
  refine J.cond (decide (((i : Nat) : Int) < (((toL (nv xs)).length : Nat) : Int))) k_ (fun c8 => ?_) (fun c8 => ?_)
  ·replace c8 := of_decide_eq_true c8
   refine J.skip ?_
   refine KN.next ?_
   refine J.seq ?_
   refine J.block ?_
   refine J.sreg ?_
   refine RN.bq (no 2) [0, 1, 6, 7, 8, 24, 25] [] 2 [(0, sl y3 (toL (nv xs)).length), (1, sl y4 (toL (nv ys)).length), (6, sl (glS go) out.length), (7, .int .u64 ((c : Nat) : Int)), (8, .int .i64 ((i : Nat) : Int)), (24, sl y3 (toL (nv xs)).length), (25, .int .i64 ((i : Nat) : Int))] k_ ?_
   refine RN.call (r01_limb_c y3 (nv xs) i) [1] k_ k_ k_ rfl (fun y9 _ => ?_)
   refine RN.bq (no 1) [0, 1, 6, 7, 8, 27] [] 4 [(0, sl y3 (toL (nv xs)).length), (1, sl y4 (toL (nv ys)).length), (6, sl (glS go) out.length), (7, .int .u64 ((c : Nat) : Int)), (8, .int .i64 ((i : Nat) : Int)), (27, .int .u64 (IntKind.u64.wrap ((((toL (nv xs)).getD i 0 : Nat) : Int) + 4294967296)))] k_ ?_
   rw [show IntKind.u64.wrap ((((toL (nv xs)).getD i 0 : Nat) : Int) + 4294967296) = ((((toL (nv xs)).getD i 0) + 4294967296 : Nat) : Int) from uw64b (((toL (nv xs)).getD i 0) + 4294967296) (by omega) (by omega)]
   refine RN.bq (no 2) [0, 1, 6, 7, 8, 27, 28, 29] [] 6 [(0, sl y3 (toL (nv xs)).length), (1, sl y4 (toL (nv ys)).length), (6, sl (glS go) out.length), (7, .int .u64 ((c : Nat) : Int)), (8, .int .i64 ((i : Nat) : Int)), (27, .int .u64 ((((toL (nv xs)).getD i 0) + 4294967296 : Nat) : Int)), (28, sl y4 (toL (nv ys)).length), (29, .int .i64 ((i : Nat) : Int))] k_ ?_
   refine RN.call (r01_limb_c y4 (nv ys) i) [0] k_ k_ k_ rfl (fun y10 _ => ?_)
   refine RN.bq (no 1) [0, 1, 6, 7, 8, 31] [] 8 [(0, sl y3 (toL (nv xs)).length), (1, sl y4 (toL (nv ys)).length), (6, sl (glS go) out.length), (7, .int .u64 ((c : Nat) : Int)), (8, .int .i64 ((i : Nat) : Int)), (31, .int .u64 (IntKind.u64.wrap (((((toL (nv xs)).getD i 0) + 4294967296 : Nat) : Int) - (((toL (nv ys)).getD i 0 : Nat) : Int))))] k_ ?_
   rw [show IntKind.u64.wrap (((((toL (nv xs)).getD i 0) + 4294967296 : Nat) : Int) - (((toL (nv ys)).getD i 0 : Nat) : Int)) = (((((toL (nv xs)).getD i 0) + 4294967296) - ((toL (nv ys)).getD i 0) : Nat) : Int) from uw64b ((((toL (nv xs)).getD i 0) + 4294967296) - ((toL (nv ys)).getD i 0)) (by omega) (by omega)]
   refine RN.bq (no 2) [0, 1, 6, 8, 33] [] 10 [(0, sl y3 (toL (nv xs)).length), (1, sl y4 (toL (nv ys)).length), (6, sl (glS go) out.length), (8, .int .i64 ((i : Nat) : Int)), (33, .int .u64 (IntKind.u64.wrap ((((((toL (nv xs)).getD i 0) + 4294967296) - ((toL (nv ys)).getD i 0) : Nat) : Int) - ((c : Nat) : Int))))] k_ ?_
   rw [show IntKind.u64.wrap ((((((toL (nv xs)).getD i 0) + 4294967296) - ((toL (nv ys)).getD i 0) : Nat) : Int) - ((c : Nat) : Int)) = ((((((toL (nv xs)).getD i 0) + 4294967296) - ((toL (nv ys)).getD i 0)) - c : Nat) : Int) from uw64b (((((toL (nv xs)).getD i 0) + 4294967296) - ((toL (nv ys)).getD i 0)) - c) (by omega) (by omega)]
   refine RN.bq (no 1) [0, 1, 6, 8, 9] [] 11 [(0, sl y3 (toL (nv xs)).length), (1, sl y4 (toL (nv ys)).length), (6, sl (glS go) out.length), (8, .int .i64 ((i : Nat) : Int)), (9, .int .u64 ((((((toL (nv xs)).getD i 0) + 4294967296) - ((toL (nv ys)).getD i 0)) - c : Nat) : Int))] k_ ?_
   refine RN.fin k_ ?_
   refine J.regN ?_
   refine RN.bq (no 3) [0, 1, 8, 9, 34, 36] [] 3 [(0, sl y3 (toL (nv xs)).length), (1, sl y4 (toL (nv ys)).length), (8, .int .i64 ((i : Nat) : Int)), (9, .int .u64 ((((((toL (nv xs)).getD i 0) + 4294967296) - ((toL (nv ys)).getD i 0)) - c : Nat) : Int)), (34, sl (glS go) out.length), (36, .int .u32 (IntKind.u32.wrap ((((((toL (nv xs)).getD i 0) + 4294967296) - ((toL (nv ys)).getD i 0)) - c : Nat) : Int)))] k_ ?_
   rw [show IntKind.u32.wrap ((((((toL (nv xs)).getD i 0) + 4294967296) - ((toL (nv ys)).getD i 0)) - c : Nat) : Int) = (((((((toL (nv xs)).getD i 0) + 4294967296) - ((toL (nv ys)).getD i 0)) - c) % 4294967296 : Nat) : Int) from uw32e (((((toL (nv xs)).getD i 0) + 4294967296) - ((toL (nv ys)).getD i 0)) - c) (by rfl)]
   refine RN.new (fun b => .slice (some ⟨b, 0, none⟩) 1 1) (.cells (encU ([(((((toL (nv xs)).getD i 0) + 4294967296) - ((toL (nv ys)).getD i 0)) - c) % 4294967296] : List Nat)) 107 (0, 0)) k_ k_ (fun w => by kernel_rfl) (fun b11 => ?_)
   refine RN.ot k_ k_ (ot_uapp (T := 36) (e := 107) (by_ := 4) (mi := 0) (b := b11) (k := 1) (c := 1) (x := (.tmp 34)) (y := (.tmp 37)) (go := go) (xs := out) (ys := ([(((((toL (nv xs)).getD i 0) + 4294967296) - ((toL (nv ys)).getD i 0)) - c) % 4294967296] : List Nat)) [(b11, .cells (encU ([(((((toL (nv xs)).getD i 0) + 4294967296) - ((toL (nv ys)).getD i 0)) - c) % 4294967296] : List Nat)) 107 (0, 0))] ([]) rfl rfl k_ k_ k_ k_ k_ k_  rfl (by first | decide | exact Nat.zero_lt_one | simp) (by assumption) x_ x_) (fun g12 hg13 => ?_)
   refine RN.dropM 0 rfl ?_
   refine RN.bq (no 2) [0, 1, 8, 38, 40] [] 7 [(0, sl y3 (toL (nv xs)).length), (1, sl y4 (toL (nv ys)).length), (8, .int .i64 ((i : Nat) : Int)), (38, sl (glS (some g12)) (out ++ ([(((((toL (nv xs)).getD i 0) + 4294967296) - ((toL (nv ys)).getD i 0)) - c) % 4294967296] : List Nat)).length), (40, .int .u64 (Int.fdiv ((((((toL (nv xs)).getD i 0) + 4294967296) - ((toL (nv ys)).getD i 0)) - c : Nat) : Int) (2 ^ 32)))] k_ ?_
   rw [show Int.fdiv ((((((toL (nv xs)).getD i 0) + 4294967296) - ((toL (nv ys)).getD i 0)) - c : Nat) : Int) (2 ^ 32) = (((((((toL (nv xs)).getD i 0) + 4294967296) - ((toL (nv ys)).getD i 0)) - c) / 2 ^ 32 : Nat) : Int) from fdivn _ _]
   refine RN.bq (no 1) [0, 1, 8, 38, 41] [] 8 [(0, sl y3 (toL (nv xs)).length), (1, sl y4 (toL (nv ys)).length), (8, .int .i64 ((i : Nat) : Int)), (38, sl (glS (some g12)) (out ++ ([(((((toL (nv xs)).getD i 0) + 4294967296) - ((toL (nv ys)).getD i 0)) - c) % 4294967296] : List Nat)).length), (41, .int .u64 (IntKind.u64.wrap (1 - (((((((toL (nv xs)).getD i 0) + 4294967296) - ((toL (nv ys)).getD i 0)) - c) / 2 ^ 32 : Nat) : Int))))] k_ ?_
   rw [show IntKind.u64.wrap (1 - (((((((toL (nv xs)).getD i 0) + 4294967296) - ((toL (nv ys)).getD i 0)) - c) / 2 ^ 32 : Nat) : Int)) = ((1 - ((((((toL (nv xs)).getD i 0) + 4294967296) - ((toL (nv ys)).getD i 0)) - c) / 2 ^ 32) : Nat) : Int) from uw64b (1 - ((((((toL (nv xs)).getD i 0) + 4294967296) - ((toL (nv ys)).getD i 0)) - c) / 2 ^ 32)) (by omega) (by omega)]
   refine RN.bq (no 2) [0, 1, 6, 7, 8] [] 10 [(0, sl y3 (toL (nv xs)).length), (1, sl y4 (toL (nv ys)).length), (6, sl (glS (some g12)) (out ++ ([(((((toL (nv xs)).getD i 0) + 4294967296) - ((toL (nv ys)).getD i 0)) - c) % 4294967296] : List Nat)).length), (7, .int .u64 ((1 - ((((((toL (nv xs)).getD i 0) + 4294967296) - ((toL (nv ys)).getD i 0)) - c) / 2 ^ 32) : Nat) : Int)), (8, .int .i64 ((i : Nat) : Int))] k_ ?_
   refine RN.done k_ ?_
   refine KN.blk ?_
   refine KN.next ?_
   refine J.regN ?_
   refine RN.bq (no 2) [0, 1, 6, 7, 23] [] 2 [(0, sl y3 (toL (nv xs)).length), (1, sl y4 (toL (nv ys)).length), (6, sl (glS (some g12)) (out ++ ([(((((toL (nv xs)).getD i 0) + 4294967296) - ((toL (nv ys)).getD i 0)) - c) % 4294967296] : List Nat)).length), (7, .int .u64 ((1 - ((((((toL (nv xs)).getD i 0) + 4294967296) - ((toL (nv ys)).getD i 0)) - c) / 2 ^ 32) : Nat) : Int)), (23, .int .i64 (IntKind.i64.wrap (((i : Nat) : Int) + 1)))] k_ ?_
   rw [show IntKind.i64.wrap (((i : Nat) : Int) + 1) = ((i + 1 : Nat) : Int) from by rw [IntKind.wrap_i64]; omega]
   refine RN.bq (no 1) [0, 1, 6, 7, 8] [] 3 [(0, sl y3 (toL (nv xs)).length), (1, sl y4 (toL (nv ys)).length), (6, sl (glS (some g12)) (out ++ ([(((((toL (nv xs)).getD i 0) + 4294967296) - ((toL (nv ys)).getD i 0)) - c) % 4294967296] : List Nat)).length), (7, .int .u64 ((1 - ((((((toL (nv xs)).getD i 0) + 4294967296) - ((toL (nv ys)).getD i 0)) - c) / 2 ^ 32) : Nat) : Int)), (8, .int .i64 ((i + 1 : Nat) : Int))] k_ ?_
   refine RN.done k_ ?_
   refine KN.roundE (i + 1, some g12, out ++ ([(((((toL (nv xs)).getD i 0) + 4294967296) - ((toL (nv ys)).getD i 0)) - c) % 4294967296] : List Nat), 1 - ((((((toL (nv xs)).getD i 0) + 4294967296) - ((toL (nv ys)).getD i 0)) - c) / 2 ^ 32)) [0, 1, 6, 7, 8] [0, 1, 2, 3] (l2 := [(0, sl y3 (toL (nv xs)).length), (1, sl y4 (toL (nv ys)).length), (6, sl (glS (some g12)) (out ++ ([(((((toL (nv xs)).getD i 0) + 4294967296) - ((toL (nv ys)).getD i 0)) - c) % 4294967296] : List Nat)).length), (7, .int .u64 ((1 - ((((((toL (nv xs)).getD i 0) + 4294967296) - ((toL (nv ys)).getD i 0)) - c) / 2 ^ 32) : Nat) : Int)), (8, .int .i64 ((i + 1 : Nat) : Int))]) (by (try dsimp only); omega) (by (try dsimp only); exact ⟨by omega, by assumption, hI3.step⟩) k_ (by rfl) (by rfl) (by rfl)
  ·replace c8 := of_decide_eq_false c8
   refine J.exit (KX.next (KX.next (KX.hit ?_)))
   refine KN.next ?_
   refine J.sreg ?_
   refine RN.bq (no 1) [42] [] 1 [(42, sl (glS go) out.length)] k_ ?_
   refine RN.shareG [] ([]) rfl (fU (glS go) out) (fun w hb h => fU_gl hb (by assumption) x_) ?_
   refine RN.call (r01_trim (glS go) out y_r01_Sub) [0] k_ k_ k_ rfl (fun y14 _ => ?_)
   refine RN.bq (no 2) [4, 5] [] 4 [(4, sl y14 (toL (lv out)).length), (5, .bool true)] k_ ?_
   refine RN.fin k_ ?_
   have e_1 : (toL (nv xs - nv ys)) = (toL (lv out)) := by first | (rw [(hI3.done (by omega) hle).2]; done) | (simp; omega)
   have e_2 : (decide (nv ys ≤ nv xs)) = true := by first | (rw [(hI3.done (by omega) hle).2]; done) | (simp; omega)
   refine J.ret (KR.ret (v := .tuple #[sl y14 (toL (lv out)).length, .bool true]) (y14) [none, none] [0] [] k_ v2_ (trivial) v2_)
theorem r01_Sub_c (s : SA) (xs' : Nat) (t : SA) (ys' : Nat) (hxl : (toL xs').length ≤ 1099511627776) (hyl : (toL ys').length ≤ 1099511627776) : Spec Tryz.prog 78 #[sl s (toL xs').length, sl t (toL ys').length] [fU s (toL xs'), fU t (toL ys')] (ι := SA) (fun y => .tuple #[sl y (toL (xs' - ys')).length, .bool (decide (ys' ≤ xs'))]) (fun y => True) (fun y => [fU y (toL (xs' - ys'))]) := by
  have H := r01_Sub s (toL xs') t (toL ys') (Lb_toL _) (Lb_toL _) (by first | exact hxl | simpa only [nv_toL, nv_toL] using hxl) (by first | exact hyl | simpa only [nv_toL, nv_toL] using hyl)
  first | exact H | (simp only [nv_toL, lv_toL, validU_toL] at H; exact H)
theorem r01_len {a b i : Nat} (ha : (toL a).length ≤ 274877906944) (hb : (toL b).length ≤ 274877906944) (hi : i ≤ (toL b).length) : (toL (a * lv ((toL b).take i))).length ≤ 549755813888 := by
  have h1 := nlen_mul a (lv ((toL b).take i))
  have h2 : lv ((toL b).take i) < W ^ i := by have := lv_lt ((Lb_toL b).take i); rwa [List.length_take_of_le hi] at this
  have h3 := length_toL h2
  omega
theorem r01_len2 {a i v : Nat} (ha : (toL a).length ≤ 274877906944) (hi : i ≤ 274877906944) (hv : v < 4294967296) : (toL (W ^ i * (a * v))).length ≤ 549755813889 := by
  have h1 : a * v < W ^ ((toL a).length + 1) := mul_lt_pow (lt_of_length (Nat.le_refl _)) (by rw [Nat.pow_one]; exact hv)
  have h2 : W ^ i * (a * v) < W ^ (i + ((toL a).length + 1)) := by rw [Nat.pow_add]; exact Nat.mul_lt_mul_of_pos_left h1 (Wpos i)
  have h3 := length_toL h2
  omega
theorem y_r01_times {p : Prop} (h : p := by first | assumption | exact Lb_toL _ | omega | (simp; done) | exact hI3.2.1) : p := h
theorem r01_times (s : SA) (a : Nat) (v : Nat) (k : Nat) (hv : v < 4294967296) (hxl : (toL a).length ≤ 1099511627776) (hk : k ≤ 1099511627776) : Spec Tryz.prog 123 #[sl s (toL a).length, .int .u32 ((v : Nat) : Int), .int .i64 ((k : Nat) : Int)] [fU s (toL a)] (ι := SA) (fun y => sl y (toL (W ^ k * (a * v))).length) (fun y => True) (fun y => [fU y (toL (W ^ k * (a * v)))]) := by
 refine Spec.of_body _ (fn := Tryz.f123) k_ rfl k_ (fun X w0 => ?_)
 refine J.fact (φ := (toL a).length ≤ 140737488355328) (fun w h => by have := (h _ (.head _)).1; omega) (fun hl1 => ?_)
 refine J.sreg ?_
 refine RN.bq (no 1) [0, 1, 2] [] 1 [(0, sl s (toL a).length), (1, .int .u32 ((v : Nat) : Int)), (2, .int .i64 ((k : Nat) : Int))] k_ ?_
 refine RN.fs k_ ?_
 refine RN.bq (no 1) [0, 1, 11] [] 1 [(0, sl s (toL a).length), (1, .int .u32 ((v : Nat) : Int)), (11, .int .i64 ((k : Nat) : Int))] k_ ?_
 refine RN.make (e := 0) (m := k) (.cells (encU (List.replicate k 0)) 107 (0, 0)) k_ k_ (fun w => (q_make1 (t := 36) (m := k) (by_ := 4) (K := .i64) (K' := .i64) (n1 := ((k : Nat) : Int)) (n2 := ((k : Nat) : Int)) (x := (.tmp 11)) (y := (.tmp 11)) (e := 107) k_ k_ k_ (by omega) (by omega) k_ k_ rfl (by omega) (by omega) w).trans (by rw [encU_rep])) (fun b2 => ?_)
 refine RN.turn 12 (v := .slice (some ⟨b2, 0, none⟩) k k) (v' := sl (glS (some ⟨b2, k, #[]⟩)) (List.replicate k 0).length) k_ (by simp [sl, glS]) ?_
 refine RN.toGrow (b := b2) (cap := k) [] [] rfl ?_
 refine RN.bq (no 1) [0, 1, 7] [] 3 [(0, sl s (toL a).length), (1, .int .u32 ((v : Nat) : Int)), (7, sl (glS (some ⟨b2, k, #[]⟩)) (List.replicate k 0).length)] k_ ?_
 refine RN.fs k_ ?_
 refine RN.bq (no 1) [0, 1, 7, 8] [] 1 [(0, sl s (toL a).length), (1, .int .u32 ((v : Nat) : Int)), (7, sl (glS (some ⟨b2, k, #[]⟩)) (List.replicate k 0).length), (8, .int .u64 0)] k_ ?_
 refine RN.fin k_ ?_
 refine J.seq ?_
 refine J.sreg ?_
 refine RN.bq (no 1) [0, 1, 7, 8, 9] [] 1 [(0, sl s (toL a).length), (1, .int .u32 ((v : Nat) : Int)), (7, sl (glS (some ⟨b2, k, #[]⟩)) (List.replicate k 0).length), (8, .int .u64 0), (9, .int .i64 0)] k_ ?_
 refine RN.fin k_ ?_
 refine J.block ?_
 refine J.loop (ι := (Nat) × (Option GB) × (List Nat) × (Nat)) (fun x => x.1 ≤ (toL a).length + 1 ∧ gOk 1 x.2.1 x.2.2.1.length ∧ TimR a v k x.2.2.1 x.1 x.2.2.2) (fun x => (toL a).length + 1 - x.1) (fun x => [(0, sl s (toL a).length), (1, .int .u32 ((v : Nat) : Int)), (7, sl (glS x.2.1) x.2.2.1.length), (8, .int .u64 ((x.2.2.2 : Nat) : Int)), (9, .int .i64 ((x.1 : Nat) : Int))]) (fun x => [] ++ (glM x.2.1 (encU x.2.2.1) 107 ++ ([]))) (fun x => [fU s (toL a)]) (0, (some ⟨b2, k, #[]⟩), List.replicate k 0, 0) [0, 1, 7, 8, 9] [0] (⟨Nat.zero_le _, by rw [List.length_replicate]; exact gOk_own _ _, TimR.start _ _ _⟩) k_ (by first | rfl | (simp only [encQ_zero]; done) | (simp only [encQ_zero]; rfl)) (by rfl) (fun x3 hI => ?_)
 obtain ⟨i, go, out, c⟩ := x3
 replace hI : i ≤ (toL a).length + 1 ∧ gOk 1 go out.length ∧ TimR a v k out i c := hI
 obtain ⟨hI1, hI2, hI3⟩ := hI
 have hI4 := hI3.1
 have hI5 := hI3.2.2.1
 have hga : (toL a).getD i 0 < 4294967296 := (Lb_toL a).getD i
 have hxy := mul_bound hga hv
 refine J.seq ?_
 refine J.sreg ?_
 refine RN.bq (no 4) [0, 1, 7, 8, 9, 16] [] 4 [(0, sl s (toL a).length), (1, .int .u32 ((v : Nat) : Int)), (7, sl (glS go) out.length), (8, .int .u64 ((c : Nat) : Int)), (9, .int .i64 ((i : Nat) : Int)), (16, .bool (decide (((i : Nat) : Int) ≤ (((toL a).length : Nat) : Int))))] k_ ?_
 refine RN.fin k_ ?_
 refine J.cond (decide (((i : Nat) : Int) ≤ (((toL a).length : Nat) : Int))) k_ (fun c4 => ?_) (fun c4 => ?_)
 ·replace c4 := of_decide_eq_true c4
  refine J.skip ?_
  refine KN.next ?_
  refine J.seq ?_
  refine J.block ?_
  refine J.sreg ?_
  refine RN.bq (no 2) [0, 1, 7, 8, 9, 19, 20] [] 2 [(0, sl s (toL a).length), (1, .int .u32 ((v : Nat) : Int)), (7, sl (glS go) out.length), (8, .int .u64 ((c : Nat) : Int)), (9, .int .i64 ((i : Nat) : Int)), (19, sl s (toL a).length), (20, .int .i64 ((i : Nat) : Int))] k_ ?_
  refine RN.call (r01_limb_c s a i) [0] k_ k_ k_ rfl (fun y5 _ => ?_)
  refine RN.bq (no 2) [0, 1, 7, 8, 9, 21, 23] [] 5 [(0, sl s (toL a).length), (1, .int .u32 ((v : Nat) : Int)), (7, sl (glS go) out.length), (8, .int .u64 ((c : Nat) : Int)), (9, .int .i64 ((i : Nat) : Int)), (21, .int .u64 (((toL a).getD i 0 : Nat) : Int)), (23, .int .u64 (IntKind.u64.wrap ((v : Nat) : Int)))] k_ ?_
  rw [show IntKind.u64.wrap ((v : Nat) : Int) = ((v : Nat) : Int) from uw64b v (by rfl) (by omega)]
  refine RN.bq (no 1) [0, 1, 7, 8, 9, 24] [] 6 [(0, sl s (toL a).length), (1, .int .u32 ((v : Nat) : Int)), (7, sl (glS go) out.length), (8, .int .u64 ((c : Nat) : Int)), (9, .int .i64 ((i : Nat) : Int)), (24, .int .u64 (IntKind.u64.wrap ((((toL a).getD i 0 : Nat) : Int) * ((v : Nat) : Int))))] k_ ?_
  rw [show IntKind.u64.wrap ((((toL a).getD i 0 : Nat) : Int) * ((v : Nat) : Int)) = ((((toL a).getD i 0) * v : Nat) : Int) from uw64b (((toL a).getD i 0) * v) (by simp) (by omega)]
  refine RN.bq (no 2) [0, 1, 7, 9, 26] [] 8 [(0, sl s (toL a).length), (1, .int .u32 ((v : Nat) : Int)), (7, sl (glS go) out.length), (9, .int .i64 ((i : Nat) : Int)), (26, .int .u64 (IntKind.u64.wrap (((((toL a).getD i 0) * v : Nat) : Int) + ((c : Nat) : Int))))] k_ ?_
  rw [show IntKind.u64.wrap (((((toL a).getD i 0) * v : Nat) : Int) + ((c : Nat) : Int)) = (((((toL a).getD i 0) * v) + c : Nat) : Int) from uw64b ((((toL a).getD i 0) * v) + c) (by omega) (by omega)]
  refine RN.bq (no 1) [0, 1, 7, 9, 10] [] 9 [(0, sl s (toL a).length), (1, .int .u32 ((v : Nat) : Int)), (7, sl (glS go) out.length), (9, .int .i64 ((i : Nat) : Int)), (10, .int .u64 (((((toL a).getD i 0) * v) + c : Nat) : Int))] k_ ?_
  refine RN.fin k_ ?_
  refine J.regN ?_
  refine RN.bq (no 3) [0, 1, 9, 10, 27, 29] [] 3 [(0, sl s (toL a).length), (1, .int .u32 ((v : Nat) : Int)), (9, .int .i64 ((i : Nat) : Int)), (10, .int .u64 (((((toL a).getD i 0) * v) + c : Nat) : Int)), (27, sl (glS go) out.length), (29, .int .u32 (IntKind.u32.wrap (((((toL a).getD i 0) * v) + c : Nat) : Int)))] k_ ?_
  rw [show IntKind.u32.wrap (((((toL a).getD i 0) * v) + c : Nat) : Int) = ((((((toL a).getD i 0) * v) + c) % 4294967296 : Nat) : Int) from uw32e ((((toL a).getD i 0) * v) + c) (by rfl)]
  refine RN.new (fun b => .slice (some ⟨b, 0, none⟩) 1 1) (.cells (encU ([((((toL a).getD i 0) * v) + c) % 4294967296] : List Nat)) 107 (0, 0)) k_ k_ (fun w => by kernel_rfl) (fun b6 => ?_)
  refine RN.ot k_ k_ (ot_uapp (T := 36) (e := 107) (by_ := 4) (mi := 0) (b := b6) (k := 1) (c := 1) (x := (.tmp 27)) (y := (.tmp 30)) (go := go) (xs := out) (ys := ([((((toL a).getD i 0) * v) + c) % 4294967296] : List Nat)) [(b6, .cells (encU ([((((toL a).getD i 0) * v) + c) % 4294967296] : List Nat)) 107 (0, 0))] ([]) rfl rfl k_ k_ k_ k_ k_ k_  rfl (by first | decide | exact Nat.zero_lt_one | simp) (by assumption) x_ x_) (fun g7 hg8 => ?_)
  refine RN.dropM 0 rfl ?_
  refine RN.bq (no 2) [0, 1, 9, 31, 33] [] 7 [(0, sl s (toL a).length), (1, .int .u32 ((v : Nat) : Int)), (9, .int .i64 ((i : Nat) : Int)), (31, sl (glS (some g7)) (out ++ ([((((toL a).getD i 0) * v) + c) % 4294967296] : List Nat)).length), (33, .int .u64 (Int.fdiv (((((toL a).getD i 0) * v) + c : Nat) : Int) (2 ^ 32)))] k_ ?_
  rw [show Int.fdiv (((((toL a).getD i 0) * v) + c : Nat) : Int) (2 ^ 32) = ((((((toL a).getD i 0) * v) + c) / 2 ^ 32 : Nat) : Int) from fdivn _ _]
  refine RN.bq (no 2) [0, 1, 7, 8, 9] [] 9 [(0, sl s (toL a).length), (1, .int .u32 ((v : Nat) : Int)), (7, sl (glS (some g7)) (out ++ ([((((toL a).getD i 0) * v) + c) % 4294967296] : List Nat)).length), (8, .int .u64 ((((((toL a).getD i 0) * v) + c) / 2 ^ 32 : Nat) : Int)), (9, .int .i64 ((i : Nat) : Int))] k_ ?_
  refine RN.done k_ ?_
  refine KN.blk ?_
  refine KN.next ?_
  refine J.regN ?_
  refine RN.bq (no 2) [0, 1, 7, 8, 18] [] 2 [(0, sl s (toL a).length), (1, .int .u32 ((v : Nat) : Int)), (7, sl (glS (some g7)) (out ++ ([((((toL a).getD i 0) * v) + c) % 4294967296] : List Nat)).length), (8, .int .u64 ((((((toL a).getD i 0) * v) + c) / 2 ^ 32 : Nat) : Int)), (18, .int .i64 (IntKind.i64.wrap (((i : Nat) : Int) + 1)))] k_ ?_
  rw [show IntKind.i64.wrap (((i : Nat) : Int) + 1) = ((i + 1 : Nat) : Int) from by rw [IntKind.wrap_i64]; omega]
  refine RN.bq (no 1) [0, 1, 7, 8, 9] [] 3 [(0, sl s (toL a).length), (1, .int .u32 ((v : Nat) : Int)), (7, sl (glS (some g7)) (out ++ ([((((toL a).getD i 0) * v) + c) % 4294967296] : List Nat)).length), (8, .int .u64 ((((((toL a).getD i 0) * v) + c) / 2 ^ 32 : Nat) : Int)), (9, .int .i64 ((i + 1 : Nat) : Int))] k_ ?_
  refine RN.done k_ ?_
  refine KN.roundE (i + 1, some g7, out ++ ([((((toL a).getD i 0) * v) + c) % 4294967296] : List Nat), ((((toL a).getD i 0) * v) + c) / 2 ^ 32) [0, 1, 7, 8, 9] [0] (l2 := [(0, sl s (toL a).length), (1, .int .u32 ((v : Nat) : Int)), (7, sl (glS (some g7)) (out ++ ([((((toL a).getD i 0) * v) + c) % 4294967296] : List Nat)).length), (8, .int .u64 ((((((toL a).getD i 0) * v) + c) / 2 ^ 32 : Nat) : Int)), (9, .int .i64 ((i + 1 : Nat) : Int))]) (by (try dsimp only); omega) (by (try dsimp only); exact ⟨by omega, by assumption, hI3.step hv⟩) k_ (by rfl) (by rfl) (by rfl)
 ·replace c4 := of_decide_eq_false c4
  refine J.exit (KX.next (KX.next (KX.hit ?_)))
  refine KN.next ?_
  refine J.sreg ?_
  refine RN.bq (no 1) [34] [] 1 [(34, sl (glS go) out.length)] k_ ?_
  refine RN.shareG [] ([]) rfl (fU (glS go) out) (fun w hb h => fU_gl hb (by assumption) x_) ?_
  refine RN.call (r01_trim (glS go) out y_r01_times) [0] k_ k_ k_ rfl (fun y9 _ => ?_)
  refine RN.bq (no 1) [6] [] 3 [(6, sl y9 (toL (lv out)).length)] k_ ?_
  refine RN.fin k_ ?_
  have e_1 : (toL (W ^ k * (a * v))) = (toL (lv out)) := by rw [(hI3.done (by omega) hv).2]
  refine J.ret (KR.ret (v := sl y9 (toL (lv out)).length) (y9) [none] [0] [] k_ v1_ (trivial) v1_)
theorem and_one {n : Nat} (h : n < 4294967296) : IntKind.u32.wrap (((BitVec.ofInt 32 (n : Int) &&& BitVec.ofInt 32 1).toNat : Nat) : Int) = ((n % 2 : Nat) : Int) := by
  have e := bv_and (b := 32) (x := n) (y := 1) (by omega) (by decide)
  rw [show ((1 : Nat) : Int) = 1 from rfl] at e
  rw [e, Nat.and_one_is_mod]
  exact uw32b _ rfl (by omega)
theorem y_r01_Mul {p : Prop} (h : p := by first | assumption | exact Lb_toL _ | omega | (simp; done) | omega) : p := h
theorem r01_Mul (s : SA) (xs : List Nat) (t : SA) (ys : List Nat) (hx : Lb xs) (hy : Lb ys) (hxl : xs.length ≤ 274877906944) (hyl : ys.length ≤ 274877906944) : Spec Tryz.prog 79 #[sl s xs.length, sl t ys.length] [fU s xs, fU t ys] (ι := SA) (fun y => sl y (toL (nv xs * nv ys)).length) (fun y => True) (fun y => [fU y (toL (nv xs * nv ys))]) := by
 refine Spec.of_body _ (fn := Tryz.f79) k_ rfl k_ (fun X w0 => ?_)
 refine J.fact (φ := xs.length ≤ 140737488355328) (fun w h => by have := (h _ (.head _)).1; omega) (fun hl1 => ?_)
 refine J.fact (φ := ys.length ≤ 140737488355328) (fun w h => by have := (h _ (.tail _ ((.head _)))).1; omega) (fun hl2 => ?_)
 have hnx := toL_nv_len hx _ hxl
 have hny := toL_nv_len hy _ hyl
 refine J.sreg ?_
 refine RN.bq (no 1) [0, 1] [] 1 [(0, sl s xs.length), (1, sl t ys.length)] k_ ?_
 refine RN.fs k_ ?_
 refine RN.bq (no 1) [1, 7] [] 1 [(1, sl t ys.length), (7, sl s xs.length)] k_ ?_
 refine RN.call (r01_Take s xs y_r01_Mul y_r01_Mul) [0] k_ k_ k_ rfl (fun y3 _ => ?_)
 refine RN.bq (no 1) [8, 9] [] 3 [(8, sl y3 (toL (nv xs)).length), (9, sl t ys.length)] k_ ?_
 refine RN.call (r01_Take t ys y_r01_Mul y_r01_Mul) [2] k_ k_ k_ rfl (fun y4 _ => ?_)
 refine RN.bq (no 2) [0, 1] [] 6 [(0, sl y3 (toL (nv xs)).length), (1, sl y4 (toL (nv ys)).length)] k_ ?_
 refine RN.fs k_ ?_
 refine RN.bq (no 1) [0, 1, 5] [] 1 [(0, sl y3 (toL (nv xs)).length), (1, sl y4 (toL (nv ys)).length), (5, .slice none 0 0)] k_ ?_
 refine RN.fin k_ ?_
 refine J.seq ?_
 refine J.sreg ?_
 refine RN.bq (no 1) [0, 1, 5, 6] [] 1 [(0, sl y3 (toL (nv xs)).length), (1, sl y4 (toL (nv ys)).length), (5, .slice none 0 0), (6, .int .i64 0)] k_ ?_
 refine RN.fin k_ ?_
 refine J.block ?_
 refine J.also (fU saNil (toL 0)) (fun w h => fU_nil0 w) ?_
 refine J.loop (ι := (Nat) × (SA) × (Nat)) (fun x => x.1 ≤ (toL (nv ys)).length ∧ x.2.2 = nv xs * lv ((toL (nv ys)).take x.1)) (fun x => (toL (nv ys)).length - x.1) (fun x => [(0, sl y3 (toL (nv xs)).length), (1, sl y4 (toL (nv ys)).length), (5, sl x.2.1 (toL x.2.2).length), (6, .int .i64 ((x.1 : Nat) : Int))]) (fun x => []) (fun x => [fU x.2.1 (toL x.2.2), fU y4 (toL (nv ys)), fU y3 (toL (nv xs)), fU s xs, fU t ys]) (0, saNil, 0) [0, 1, 5, 6] [0, 1, 2, 3, 4] (⟨Nat.zero_le _, by simp [lv]⟩) (by first | kernel_rfl | (simp only [toL_zero]; rfl)) (by first | rfl | (simp only [encQ_zero]; done) | (simp only [encQ_zero]; rfl)) (by rfl) (fun x5 hI => ?_)
 obtain ⟨i, so, o⟩ := x5
 replace hI : i ≤ (toL (nv ys)).length ∧ o = nv xs * lv ((toL (nv ys)).take i) := hI
 obtain ⟨hI1, hI2⟩ := hI
 have hgb : (toL (nv ys)).getD i 0 < 4294967296 := (Lb_toL (nv ys)).getD i
 have hol : (toL o).length ≤ 549755813888 := by rw [hI2]; exact r01_len hnx hny hI1
 have htl : i < (toL (nv ys)).length → (toL (W ^ i * (nv xs * (toL (nv ys)).getD i 0))).length ≤ 549755813889 := fun h => r01_len2 hnx (by omega) hgb
 refine J.seq ?_
 refine J.sreg ?_
 refine RN.bq (no 4) [0, 1, 5, 6, 14] [] 4 [(0, sl y3 (toL (nv xs)).length), (1, sl y4 (toL (nv ys)).length), (5, sl so (toL o).length), (6, .int .i64 ((i : Nat) : Int)), (14, .bool (decide (((i : Nat) : Int) < (((toL (nv ys)).length : Nat) : Int))))] k_ ?_
 refine RN.fin k_ ?_
 refine J.cond (decide (((i : Nat) : Int) < (((toL (nv ys)).length : Nat) : Int))) k_ (fun c6 => ?_) (fun c6 => ?_)
 ·replace c6 := of_decide_eq_true c6
  refine J.skip ?_
  refine KN.next ?_
  refine J.seq ?_
  refine J.block ?_
  refine J.regN ?_
  refine RN.bq (no 4) [0, 1, 6, 17, 18, 19, 20] [] 4 [(0, sl y3 (toL (nv xs)).length), (1, sl y4 (toL (nv ys)).length), (6, .int .i64 ((i : Nat) : Int)), (17, sl so (toL o).length), (18, sl y3 (toL (nv xs)).length), (19, sl y4 (toL (nv ys)).length), (20, .int .i64 ((i : Nat) : Int))] k_ ?_
  refine RN.val _ k_ k_ (q_uidx (t := 36) (x := (.tmp 19)) (ix := (.tmp 20)) (K := .i64) (i0 := ((i : Nat) : Int)) (m := i) (e := 107) 1 rfl k_ k_ k_ k_ k_ (by omega) x_) ?_
  refine RN.val _ k_ k_ (q_uload (T := 107) (x := (.tmp 21)) (m := i) (s := y4) (xs := toL (nv ys)) 1 rfl k_ k_ k_ x_) ?_
  refine RN.bq (no 1) [0, 1, 6, 17, 18, 22, 23] [] 7 [(0, sl y3 (toL (nv xs)).length), (1, sl y4 (toL (nv ys)).length), (6, .int .i64 ((i : Nat) : Int)), (17, sl so (toL o).length), (18, sl y3 (toL (nv xs)).length), (22, .int .u32 (((toL (nv ys)).getD i 0 : Nat) : Int)), (23, .int .i64 ((i : Nat) : Int))] k_ ?_
  refine RN.call (r01_times y3 (nv xs) ((toL (nv ys)).getD i 0) i y_r01_Mul y_r01_Mul y_r01_Mul) [2] k_ k_ k_ rfl (fun y7 _ => ?_)
  refine RN.call (r01_Add_c so o y7 (W ^ i * ((nv xs) * ((toL (nv ys)).getD i 0))) y_r01_Mul y_r01_Mul) [1, 0] k_ k_ k_ rfl (fun y8 _ => ?_)
  refine RN.bq (no 1) [0, 1, 5, 6] [] 10 [(0, sl y3 (toL (nv xs)).length), (1, sl y4 (toL (nv ys)).length), (5, sl y8 (toL (o + (W ^ i * ((nv xs) * ((toL (nv ys)).getD i 0))))).length), (6, .int .i64 ((i : Nat) : Int))] k_ ?_
  refine RN.done k_ ?_
  refine KN.blk ?_
  refine KN.next ?_
  refine J.regN ?_
  refine RN.bq (no 2) [0, 1, 5, 16] [] 2 [(0, sl y3 (toL (nv xs)).length), (1, sl y4 (toL (nv ys)).length), (5, sl y8 (toL (o + (W ^ i * ((nv xs) * ((toL (nv ys)).getD i 0))))).length), (16, .int .i64 (IntKind.i64.wrap (((i : Nat) : Int) + 1)))] k_ ?_
  rw [show IntKind.i64.wrap (((i : Nat) : Int) + 1) = ((i + 1 : Nat) : Int) from by rw [IntKind.wrap_i64]; omega]
  refine RN.bq (no 1) [0, 1, 5, 6] [] 3 [(0, sl y3 (toL (nv xs)).length), (1, sl y4 (toL (nv ys)).length), (5, sl y8 (toL (o + (W ^ i * ((nv xs) * ((toL (nv ys)).getD i 0))))).length), (6, .int .i64 ((i + 1 : Nat) : Int))] k_ ?_
  refine RN.done k_ ?_
  refine KN.roundE (i + 1, y8, o + (W ^ i * ((nv xs) * ((toL (nv ys)).getD i 0)))) [0, 1, 5, 6] [0, 3, 4, 5, 6] (l2 := [(0, sl y3 (toL (nv xs)).length), (1, sl y4 (toL (nv ys)).length), (5, sl y8 (toL (o + (W ^ i * ((nv xs) * ((toL (nv ys)).getD i 0))))).length), (6, .int .i64 ((i + 1 : Nat) : Int))]) (by (try dsimp only); omega) (by (try dsimp only); exact ⟨by omega, by rw [hI2, lv_take_succ', Nat.mul_add, Nat.mul_left_comm]⟩) k_ (by rfl) (by rfl) (by rfl)
 ·replace c6 := of_decide_eq_false c6
  refine J.exit (KX.next (KX.next (KX.hit ?_)))
  refine KN.next ?_
  refine J.sreg ?_
  refine RN.bq (no 2) [4] [] 2 [(4, sl so (toL o).length)] k_ ?_
  refine RN.fin k_ ?_
  have e_1 : (toL (nv xs * nv ys)) = (toL o) := by rw [hI2, take_of_le (by omega), lv_toL]
  refine J.ret (KR.ret (v := sl so (toL o).length) (so) [none] [0] [] k_ v1_ (trivial) v1_)
theorem r01_Mul_c (s : SA) (xs' : Nat) (t : SA) (ys' : Nat) (hxl : (toL xs').length ≤ 274877906944) (hyl : (toL ys').length ≤ 274877906944) : Spec Tryz.prog 79 #[sl s (toL xs').length, sl t (toL ys').length] [fU s (toL xs'), fU t (toL ys')] (ι := SA) (fun y => sl y (toL (xs' * ys')).length) (fun y => True) (fun y => [fU y (toL (xs' * ys'))]) := by
  have H := r01_Mul s (toL xs') t (toL ys') (Lb_toL _) (Lb_toL _) (by first | exact hxl | simpa only [nv_toL, nv_toL] using hxl) (by first | exact hyl | simpa only [nv_toL, nv_toL] using hyl)
  first | exact H | (simp only [nv_toL, lv_toL, validU_toL] at H; exact H)
theorem r01_bit (s : SA) (a : Nat) (i : Nat) (hi : i / 32 < (toL a).length) : Spec Tryz.prog 147 #[sl s (toL a).length, .int .i64 ((i : Nat) : Int)] [fU s (toL a)] (ι := Unit) (fun y => .int .u32 ((a / 2 ^ i % 2 : Nat) : Int)) (fun y => True) (fun y => []) := by
 refine Spec.of_body _ (fn := Tryz.f147) k_ rfl k_ (fun X w0 => ?_)
 refine J.fact (φ := (toL a).length ≤ 140737488355328) (fun w h => by have := (h _ (.head _)).1; omega) (fun hl1 => ?_)
 have hga : (toL a).getD (i / 32) 0 < 4294967296 := (Lb_toL a).getD _
 have hd : (toL a).getD (i / 32) 0 / 2 ^ (i % 32) ≤ (toL a).getD (i / 32) 0 := Nat.div_le_self _ _
 refine J.sreg ?_
 refine RN.bq (no 1) [0, 1] [] 1 [(0, sl s (toL a).length), (1, .int .i64 ((i : Nat) : Int))] k_ ?_
 refine RN.fs k_ ?_
 refine RN.bq (no 3) [1, 5, 7] [] 3 [(1, .int .i64 ((i : Nat) : Int)), (5, sl s (toL a).length), (7, .int .i64 (IntKind.i64.wrap (Int.tdiv ((i : Nat) : Int) 32)))] k_ ?_
 rw [show IntKind.i64.wrap (Int.tdiv ((i : Nat) : Int) 32) = ((i / 32 : Nat) : Int) from by rw [show (32 : Int) = ((32 : Nat) : Int) from rfl, tdivn, IntKind.wrap_i64]; omega]
 refine RN.val _ k_ k_ (q_uidx (t := 36) (x := (.tmp 5)) (ix := (.tmp 7)) (K := .i64) (i0 := ((i / 32 : Nat) : Int)) (m := i / 32) (e := 107) 0 rfl k_ k_ k_ k_ k_ (by omega) x_) ?_
 refine RN.val _ k_ k_ (q_uload (T := 107) (x := (.tmp 8)) (m := i / 32) (s := s) (xs := toL a) 0 rfl k_ k_ k_ x_) ?_
 refine RN.bq (no 2) [9, 11] [] 7 [(9, .int .u32 (((toL a).getD (i / 32) 0 : Nat) : Int)), (11, .int .i64 (Int.tmod ((i : Nat) : Int) 32))] k_ ?_
 rw [show Int.tmod ((i : Nat) : Int) 32 = ((i % 32 : Nat) : Int) from by rw [show (32 : Int) = ((32 : Nat) : Int) from rfl, tmodn]]
 refine RN.bq (no 1) [9, 12] [] 8 [(9, .int .u32 (((toL a).getD (i / 32) 0 : Nat) : Int)), (12, .int .u64 (IntKind.u64.wrap ((i % 32 : Nat) : Int)))] k_ ?_
 rw [show IntKind.u64.wrap ((i % 32 : Nat) : Int) = ((i % 32 : Nat) : Int) from uw64b (i % 32) (by rfl) (by omega)]
 refine RN.val _ k_ k_ (q_shr (T := 107) (T' := 131) (x := (.tmp 9)) (y := (.tmp 12)) (k := .u32) (k' := .u64) (a := (((toL a).getD (i / 32) 0 : Nat) : Int)) (b := ((i % 32 : Nat) : Int)) (m := (i % 32)) k_ k_ k_ (by omega) (by simp only [IntKind.bits]; omega)) ?_
 rw [show Int.fdiv (((toL a).getD (i / 32) 0 : Nat) : Int) (2 ^ (i % 32)) = ((((toL a).getD (i / 32) 0) / 2 ^ (i % 32) : Nat) : Int) from fdivn _ _]
 refine RN.bq (no 1) [14] [] 10 [(14, .int .u32 (IntKind.u32.wrap ((BitVec.ofInt 32 ((((toL a).getD (i / 32) 0) / 2 ^ (i % 32) : Nat) : Int) &&& BitVec.ofInt 32 1).toNat : Nat)))] k_ ?_
 rw [show (IntKind.u32.wrap ((BitVec.ofInt 32 ((((toL a).getD (i / 32) 0) / 2 ^ (i % 32) : Nat) : Int) &&& BitVec.ofInt 32 1).toNat : Nat)) = (((toL a).getD (i / 32) 0 / 2 ^ (i % 32) % 2 : Nat) : Int) from by exact and_one (by omega)]
 refine RN.bq (no 1) [4] [] 11 [(4, .int .u32 (((toL a).getD (i / 32) 0 / 2 ^ (i % 32) % 2 : Nat) : Int))] k_ ?_
 refine RN.fin k_ ?_
 have e_1 : (((a / 2 ^ i % 2 : Nat) : Int) : Int) = ((((toL a).getD (i / 32) 0 / 2 ^ (i % 32) % 2 : Nat) : Int) : Int) := by rw [bit_val]
 refine J.ret (KR.ret (v := .int .u32 (((toL a).getD (i / 32) 0 / 2 ^ (i % 32) % 2 : Nat) : Int)) (()) [none] [] [] k_ v1_ (trivial) v1_)
theorem nv_one : nv [1] = 1 := by rw [← toL_1, nv_toL]
theorem dlen {a o : Nat} (ho : o ≤ 1) : (toL (2 * a + o)).length ≤ (toL a).length + 2 := by
  have h1 : a < W ^ (toL a).length := lt_of_length (Nat.le_refl _)
  have h2 : 2 * a + o < 3 * W ^ (toL a).length := by omega
  apply length_toL
  have h3 : 3 * W ^ (toL a).length ≤ W ^ (toL a).length * W ^ 2 := by rw [Nat.mul_comm 3]; exact Nat.mul_le_mul_left _ (by decide)
  rw [Nat.pow_add]
  exact Nat.lt_of_lt_of_le h2 h3
theorem y_r01_double {p : Prop} (h : p := by first | assumption | exact Lb_toL _ | omega | (simp; done) | first | exact Lb.one (by decide) | (simp; done)) : p := h
theorem r01_double (s : SA) (a : Nat) (o : Nat) (ho : o ≤ 1) (hxl : (toL a).length ≤ 274877906944) : Spec Tryz.prog 146 #[sl s (toL a).length, .int .u32 ((o : Nat) : Int)] [fU s (toL a)] (ι := SA) (fun y => sl y (toL (2 * a + o)).length) (fun y => True) (fun y => [fU y (toL (2 * a + o))]) := by
 refine Spec.of_body _ (fn := Tryz.f146) k_ rfl k_ (fun X w0 => ?_)
 refine J.fact (φ := (toL a).length ≤ 140737488355328) (fun w h => by have := (h _ (.head _)).1; omega) (fun hl1 => ?_)
 have e2 : W ^ 0 * (a * 2) = 2 * a := by rw [Nat.pow_zero, Nat.one_mul, Nat.mul_comm]
 have hl2 := dlen (a := a) (o := 0) (by decide)
 rw [Nat.add_zero] at hl2
 refine J.sreg ?_
 refine RN.bq (no 1) [0, 1] [] 1 [(0, sl s (toL a).length), (1, .int .u32 ((o : Nat) : Int))] k_ ?_
 refine RN.fs k_ ?_
 refine RN.bq (no 1) [1, 6] [] 1 [(1, .int .u32 ((o : Nat) : Int)), (6, sl s (toL a).length)] k_ ?_
 refine RN.call (r01_times s a 2 0 y_r01_double y_r01_double y_r01_double) [0] k_ k_ k_ rfl (fun y2 _ => ?_)
 rw [show toL (W ^ 0 * (a * 2)) = (toL (2 * a)) from by rw [e2]]
 refine RN.bq (no 1) [1, 5] [] 3 [(1, .int .u32 ((o : Nat) : Int)), (5, sl y2 (toL (2 * a)).length)] k_ ?_
 refine RN.fin k_ ?_
 refine J.seq ?_
 refine J.sreg ?_
 refine RN.bq (no 2) [5, 9] [] 2 [(5, sl y2 (toL (2 * a)).length), (9, .bool ((((o : Nat) : Int) : Int) == 1))] k_ ?_
 refine RN.fin k_ ?_
 refine J.cond ((((o : Nat) : Int) : Int) == 1) k_ (fun c3 => ?_) (fun c3 => ?_)
 ·replace c3 := eq_of_beq c3
  refine J.regN ?_
  refine RN.bq (no 1) [10] [] 1 [(10, sl y2 (toL (2 * a)).length)] k_ ?_
  refine RN.new (fun b => .slice (some ⟨b, 0, none⟩) 1 1) (.cells (encU ([1] : List Nat)) 107 (0, 0)) k_ k_ (fun w => by kernel_rfl) (fun b4 => ?_)
  refine RN.share 0 rfl rfl ?_
  refine RN.also (fU (⟨some ⟨b4, 0, none⟩, 1⟩ : SA) ([1] : List Nat)) (fun w h => fU_own (h _ (.head _)) x_ x_) ?_
  refine RN.turn 11 (v := .slice (some ⟨b4, 0, none⟩) 1 1) (v' := sl (⟨some ⟨b4, 0, none⟩, 1⟩ : SA) ([1] : List Nat).length) k_ (sl_eq x_) ?_
  refine RN.call (r01_Add y2 (toL (2 * a)) (⟨some ⟨b4, 0, none⟩, 1⟩ : SA) ([1] : List Nat) y_r01_double y_r01_double y_r01_double y_r01_double) [2, 0] k_ k_ k_ rfl (fun y5 _ => ?_)
  refine RN.bq (no 1) [5] [] 4 [(5, sl y5 (toL (nv (toL (2 * a)) + nv ([1] : List Nat))).length)] k_ ?_
  refine RN.fs k_ ?_
  refine RN.bq (no 2) [4] [] 2 [(4, sl y5 (toL (nv (toL (2 * a)) + nv ([1] : List Nat))).length)] k_ ?_
  refine RN.fin k_ ?_
  have e_1 : (toL (2 * a + o)) = (toL (nv (toL (2 * a)) + nv ([1] : List Nat))) := by rw [nv_toL, nv_one, show o = 1 from by omega]
  refine J.ret (KR.ret (v := sl y5 (toL (nv (toL (2 * a)) + nv ([1] : List Nat))).length) (y5) [none] [0] [] k_ v1_ (trivial) v1_)
 ·replace c3 := ne_of_beq_false c3
  refine J.skip ?_
  refine KN.next ?_
  refine J.sreg ?_
  refine RN.bq (no 2) [4] [] 2 [(4, sl y2 (toL (2 * a)).length)] k_ ?_
  refine RN.fin k_ ?_
  have e_1 : (toL (2 * a + o)) = (toL (2 * a)) := by rw [show o = 0 from by omega, Nat.add_zero]
  refine J.ret (KR.ret (v := sl y2 (toL (2 * a)).length) (y2) [none] [0] [] k_ v1_ (trivial) v1_)
theorem y_r01_FromUint {p : Prop} (h : p := by first | assumption | exact Lb_toL _ | omega | (simp; done) | exact Lb_two (by omega) (by omega)) : p := h
theorem r01_FromUint (v : Nat) (hv : v < 18446744073709551616) : Spec Tryz.prog 80 #[.int .u64 ((v : Nat) : Int)] [] (ι := SA) (fun y => sl y (toL v).length) (fun y => True) (fun y => [fU y (toL v)]) := by
 refine Spec.of_body _ (fn := Tryz.f80) k_ rfl k_ (fun X w0 => ?_)
 refine J.sreg ?_
 refine RN.bq (no 1) [0] [] 1 [(0, .int .u64 ((v : Nat) : Int))] k_ ?_
 refine RN.fs k_ ?_
 refine RN.bq (no 2) [0, 4] [] 2 [(0, .int .u64 ((v : Nat) : Int)), (4, .int .u32 (IntKind.u32.wrap ((v : Nat) : Int)))] k_ ?_
 rw [show IntKind.u32.wrap ((v : Nat) : Int) = ((v % 4294967296 : Nat) : Int) from uw32e v (by rfl)]
 refine RN.bq (no 2) [4, 6] [] 4 [(4, .int .u32 ((v % 4294967296 : Nat) : Int)), (6, .int .u64 (Int.fdiv ((v : Nat) : Int) (2 ^ 32)))] k_ ?_
 rw [show Int.fdiv ((v : Nat) : Int) (2 ^ 32) = ((v / 2 ^ 32 : Nat) : Int) from fdivn _ _]
 refine RN.bq (no 1) [4, 7] [] 5 [(4, .int .u32 ((v % 4294967296 : Nat) : Int)), (7, .int .u32 (IntKind.u32.wrap ((v / 2 ^ 32 : Nat) : Int)))] k_ ?_
 rw [show IntKind.u32.wrap ((v / 2 ^ 32 : Nat) : Int) = (((v / 2 ^ 32) % 4294967296 : Nat) : Int) from uw32e (v / 2 ^ 32) (by rfl)]
 refine RN.new (fun b => .slice (some ⟨b, 0, none⟩) 2 2) (.cells (encU ([v % 4294967296, (v / 2 ^ 32) % 4294967296] : List Nat)) 107 (0, 0)) k_ k_ (fun w => by kernel_rfl) (fun b1 => ?_)
 refine RN.share 0 rfl rfl ?_
 refine RN.also (fU (⟨some ⟨b1, 0, none⟩, 2⟩ : SA) ([v % 4294967296, (v / 2 ^ 32) % 4294967296] : List Nat)) (fun w h => fU_own (h _ (.head _)) (by simp) (by simp)) ?_
 refine RN.turn 8 (v := .slice (some ⟨b1, 0, none⟩) 2 2) (v' := sl (⟨some ⟨b1, 0, none⟩, 2⟩ : SA) ([v % 4294967296, (v / 2 ^ 32) % 4294967296] : List Nat).length) k_ (sl_eq (by simp)) ?_
 refine RN.call (r01_trim (⟨some ⟨b1, 0, none⟩, 2⟩ : SA) ([v % 4294967296, (v / 2 ^ 32) % 4294967296] : List Nat) y_r01_FromUint) [0] k_ k_ k_ rfl (fun y2 _ => ?_)
 refine RN.bq (no 1) [2] [] 8 [(2, sl y2 (toL (lv ([v % 4294967296, (v / 2 ^ 32) % 4294967296] : List Nat))).length)] k_ ?_
 refine RN.fin k_ ?_
 have e_1 : (toL v) = (toL (lv ([v % 4294967296, (v / 2 ^ 32) % 4294967296] : List Nat))) := by rw [lv_two hv]
 refine J.ret (KR.ret (v := sl y2 (toL (lv ([v % 4294967296, (v / 2 ^ 32) % 4294967296] : List Nat))).length) (y2) [none] [0] [] k_ v1_ (trivial) v1_)
theorem r01_Div (s : SA) (xs : List Nat) (t : SA) (ys : List Nat) (hx : Lb xs) (hy : Lb ys) (hxl : xs.length ≤ 274877906942) (hyl : ys.length ≤ 274877906942) : Spec Tryz.prog 119 #[sl s xs.length, sl t ys.length] [fU s xs, fU t ys] (ι := SA × SA) (fun y => .tuple #[sl y.1 (toL (nv xs / nv ys)).length, sl y.2 (toL (if nv ys = 0 then 0 else nv xs % nv ys)).length, .bool (decide (nv ys ≠ 0))]) (fun y => True) (fun y => [fU y.1 (toL (nv xs / nv ys)), fU y.2 (toL (if nv ys = 0 then 0 else nv xs % nv ys))]) := by
 refine Spec.of_body _ (fn := Tryz.f119) k_ rfl k_ (fun X w0 => ?_)
 refine J.fact (φ := xs.length ≤ 140737488355328) (fun w h => by have := (h _ (.head _)).1; omega) (fun hl1 => ?_)
 refine J.fact (φ := ys.length ≤ 140737488355328) (fun w h => by have := (h _ (.tail _ ((.head _)))).1; omega) (fun hl2 => ?_)
 have hnx := toL_nv_len hx _ hxl
 have hny := toL_nv_len hy _ hyl
 refine J.sreg ?_
 refine RN.bq (no 3) [0, 1] [] 3 [(0, sl s xs.length), (1, sl t ys.length)] k_ ?_
 refine RN.fs k_ ?_
 refine RN.bq (no 1) [1, 12] [] 1 [(1, sl t ys.length), (12, sl s xs.length)] k_ ?_
 refine RN.call (r01_Take s xs y_ y_) [0] k_ k_ k_ rfl (fun y3 _ => ?_)
 refine RN.bq (no 1) [13, 14] [] 3 [(13, sl y3 (toL (nv xs)).length), (14, sl t ys.length)] k_ ?_
 refine RN.call (r01_Take t ys y_ y_) [2] k_ k_ k_ rfl (fun y4 _ => ?_)
 refine RN.bq (no 2) [0, 1] [] 6 [(0, sl y3 (toL (nv xs)).length), (1, sl y4 (toL (nv ys)).length)] k_ ?_
 refine RN.fin k_ ?_
 refine J.seq ?_
 refine J.sreg ?_
 refine RN.bq (no 3) [0, 1, 18] [] 3 [(0, sl y3 (toL (nv xs)).length), (1, sl y4 (toL (nv ys)).length), (18, .bool (((((toL (nv ys)).length : Nat) : Int) : Int) == 0))] k_ ?_
 refine RN.fin k_ ?_
 refine J.cond (((((toL (nv ys)).length : Nat) : Int) : Int) == 0) k_ (fun c5 => ?_) (fun c5 => ?_)
 ·replace c5 := eq_of_beq c5
  have h0 : nv ys = 0 := toL_len_eq (by omega)
  refine J.sreg ?_
  refine RN.bq (no 3) [4, 5, 6] [] 3 [(4, .slice none 0 0), (5, .slice none 0 0), (6, .bool false)] k_ ?_
  refine RN.fin k_ ?_
  have e_1 : (toL (nv xs / nv ys)) = ([] : List Nat) := by simp [h0, toL_zero]
  have e_2 : (toL (if nv ys = 0 then 0 else nv xs % nv ys)) = ([] : List Nat) := by simp [h0, toL_zero]
  have e_3 : (decide (nv ys ≠ 0)) = false := by simp [h0, toL_zero]
  refine J.also (fU saNil ([] : List Nat)) (fun w h => fU_nil w) ?_
  refine J.ret (KR.next (KR.ret (v := .tuple #[.slice none 0 0, .slice none 0 0, .bool false]) (⟨saNil, saNil⟩) [none, none, none] [0, 0] [] k_ v3_ (trivial) v3_))
 ·replace c5 := ne_of_beq_false c5
  have h0 : nv ys ≠ 0 := toL_len_ne (by omega)
  refine J.skip ?_
  refine KN.next ?_
  refine J.sreg ?_
  refine RN.bq (no 2) [0, 1, 7, 8] [] 2 [(0, sl y3 (toL (nv xs)).length), (1, sl y4 (toL (nv ys)).length), (7, .slice none 0 0), (8, .slice none 0 0)] k_ ?_
  refine RN.fin k_ ?_
  refine J.seq ?_
  refine J.sreg ?_
  refine RN.bq (no 3) [0, 1, 7, 8, 21] [] 3 [(0, sl y3 (toL (nv xs)).length), (1, sl y4 (toL (nv ys)).length), (7, .slice none 0 0), (8, .slice none 0 0), (21, .int .i64 (IntKind.i64.wrap (32 * (((toL (nv xs)).length : Nat) : Int))))] k_ ?_
  rw [show IntKind.i64.wrap (32 * (((toL (nv xs)).length : Nat) : Int)) = ((32 * ((toL (nv xs)).length) : Nat) : Int) from by rw [IntKind.wrap_i64]; omega]
  refine RN.bq (no 1) [0, 1, 7, 8, 22] [] 4 [(0, sl y3 (toL (nv xs)).length), (1, sl y4 (toL (nv ys)).length), (7, .slice none 0 0), (8, .slice none 0 0), (22, .int .i64 (IntKind.i64.wrap (((32 * ((toL (nv xs)).length) : Nat) : Int) - 1)))] k_ ?_
  rw [show IntKind.i64.wrap (((32 * ((toL (nv xs)).length) : Nat) : Int) - 1) = (((32 * ((toL (nv xs)).length) : Nat) : Int) - 1) from by rw [IntKind.wrap_i64]; omega]
  refine RN.bq (no 1) [0, 1, 7, 8, 9] [] 5 [(0, sl y3 (toL (nv xs)).length), (1, sl y4 (toL (nv ys)).length), (7, .slice none 0 0), (8, .slice none 0 0), (9, .int .i64 (((32 * ((toL (nv xs)).length) : Nat) : Int) - 1))] k_ ?_
  refine RN.fin k_ ?_
  refine J.block ?_
  refine J.also (fU saNil (toL 0)) (fun w h => fU_nil0 w) ?_
  refine J.loop (ι := (Nat) × (SA) × (Nat) × (SA) × (Nat)) (fun x => x.1 ≤ 32 * (toL (nv xs)).length ∧ DivR (nv xs) (nv ys) x.2.2.1 x.2.2.2.2 x.1) (fun x => x.1) (fun x => [(0, sl y3 (toL (nv xs)).length), (1, sl y4 (toL (nv ys)).length), (7, sl x.2.1 (toL x.2.2.1).length), (8, sl x.2.2.2.1 (toL x.2.2.2.2).length), (9, .int .i64 ((x.1 : Int) - 1))]) (fun x => []) (fun x => [fU x.2.1 (toL x.2.2.1), fU x.2.2.2.1 (toL x.2.2.2.2), fU y4 (toL (nv ys)), fU y3 (toL (nv xs)), fU s xs, fU t ys]) (32 * (toL (nv xs)).length, saNil, 0, saNil, 0) [0, 1, 7, 8, 9] [0, 0, 1, 2, 3, 4] (⟨Nat.le_refl _, DivR.start (Nat.pos_of_ne_zero h0)⟩) (by first | kernel_rfl | (simp only [toL_zero]; rfl)) (by first | rfl | (simp only [encQ_zero]; done) | (simp only [encQ_zero]; rfl)) (by rfl) (fun x6 hI => ?_)
  obtain ⟨m, sq, q, sr, r⟩ := x6
  replace hI : m ≤ 32 * (toL (nv xs)).length ∧ DivR (nv xs) (nv ys) q r m := hI
  obtain ⟨hI1, hI2⟩ := hI
  have hql := length_toL_mono hI2.q_le.1
  have hrl := length_toL_mono hI2.q_le.2
  have hdl := dlen (a := r) (o := nv xs / 2 ^ (m - 1) % 2) (by omega)
  refine J.seq ?_
  refine J.sreg ?_
  refine RN.bq (no 2) [0, 1, 7, 8, 9, 24] [] 2 [(0, sl y3 (toL (nv xs)).length), (1, sl y4 (toL (nv ys)).length), (7, sl sq (toL q).length), (8, sl sr (toL r).length), (9, .int .i64 ((m : Int) - 1)), (24, .bool (decide (((m : Int) - 1) ≥ 0)))] k_ ?_
  refine RN.fin k_ ?_
  refine J.cond (decide (((m : Int) - 1) ≥ 0)) k_ (fun c7 => ?_) (fun c7 => ?_)
  ·replace c7 := of_decide_eq_true c7
   have hst := DivR.step (m := m - 1) (by rw [show m - 1 + 1 = m from by omega]; exact hI2)
   rw [show (m : Int) - 1 = ((m - 1 : Nat) : Int) from by omega]
   refine J.skip ?_
   refine KN.next ?_
   refine J.seq ?_
   refine J.block ?_
   refine J.sreg ?_
   refine RN.bq (no 3) [0, 1, 7, 9, 27, 28, 29] [] 3 [(0, sl y3 (toL (nv xs)).length), (1, sl y4 (toL (nv ys)).length), (7, sl sq (toL q).length), (9, .int .i64 ((m - 1 : Nat) : Int)), (27, sl sr (toL r).length), (28, sl y3 (toL (nv xs)).length), (29, .int .i64 ((m - 1 : Nat) : Int))] k_ ?_
   refine RN.call (r01_bit y3 (nv xs) (m - 1) y_) [3] k_ k_ k_ rfl (fun y8 _ => ?_)
   refine RN.call (r01_double sr r ((nv xs) / 2 ^ (m - 1) % 2) y_ y_) [1] k_ k_ k_ rfl (fun y9 _ => ?_)
   refine RN.bq (no 1) [0, 1, 7, 8, 9] [] 6 [(0, sl y3 (toL (nv xs)).length), (1, sl y4 (toL (nv ys)).length), (7, sl sq (toL q).length), (8, sl y9 (toL (2 * r + ((nv xs) / 2 ^ (m - 1) % 2))).length), (9, .int .i64 ((m - 1 : Nat) : Int))] k_ ?_
   refine RN.fs k_ ?_
   refine RN.bq (no 2) [0, 1, 7, 8, 9, 33, 34] [] 2 [(0, sl y3 (toL (nv xs)).length), (1, sl y4 (toL (nv ys)).length), (7, sl sq (toL q).length), (8, sl y9 (toL (2 * r + ((nv xs) / 2 ^ (m - 1) % 2))).length), (9, .int .i64 ((m - 1 : Nat) : Int)), (33, sl y9 (toL (2 * r + ((nv xs) / 2 ^ (m - 1) % 2))).length), (34, sl y4 (toL (nv ys)).length)] k_ ?_
   refine RN.call (r01_Sub_c y9 (2 * r + ((nv xs) / 2 ^ (m - 1) % 2)) y4 (nv ys) y_ y_) [0, 3] k_ k_ k_ rfl (fun y10 _ => ?_)
   refine RN.bq (no 5) [0, 1, 7, 8, 9, 10, 11] [] 8 [(0, sl y3 (toL (nv xs)).length), (1, sl y4 (toL (nv ys)).length), (7, sl sq (toL q).length), (8, sl y9 (toL (2 * r + ((nv xs) / 2 ^ (m - 1) % 2))).length), (9, .int .i64 ((m - 1 : Nat) : Int)), (10, sl y10 (toL ((2 * r + ((nv xs) / 2 ^ (m - 1) % 2)) - (nv ys))).length), (11, .bool (decide ((nv ys) ≤ (2 * r + ((nv xs) / 2 ^ (m - 1) % 2)))))] k_ ?_
   refine RN.fs k_ ?_
   refine RN.bq (no 1) [0, 1, 7, 8, 9, 10, 38] [] 1 [(0, sl y3 (toL (nv xs)).length), (1, sl y4 (toL (nv ys)).length), (7, sl sq (toL q).length), (8, sl y9 (toL (2 * r + ((nv xs) / 2 ^ (m - 1) % 2))).length), (9, .int .i64 ((m - 1 : Nat) : Int)), (10, sl y10 (toL ((2 * r + ((nv xs) / 2 ^ (m - 1) % 2)) - (nv ys))).length), (38, .bool (decide ((nv ys) ≤ (2 * r + ((nv xs) / 2 ^ (m - 1) % 2)))))] k_ ?_
   refine RN.fin k_ ?_
   refine J.cond (decide ((nv ys) ≤ (2 * r + ((nv xs) / 2 ^ (m - 1) % 2)))) k_ (fun c11 => ?_) (fun c11 => ?_)
   ·replace c11 := of_decide_eq_true c11
    have hbr := c11
    refine J.regN ?_
    refine RN.bq (no 2) [0, 1, 9, 39, 40] [] 2 [(0, sl y3 (toL (nv xs)).length), (1, sl y4 (toL (nv ys)).length), (9, .int .i64 ((m - 1 : Nat) : Int)), (39, sl y10 (toL ((2 * r + ((nv xs) / 2 ^ (m - 1) % 2)) - (nv ys))).length), (40, sl sq (toL q).length)] k_ ?_
    refine RN.call (r01_double sq q 1 y_ y_) [2] k_ k_ k_ rfl (fun y12 _ => ?_)
    refine RN.bq (no 2) [0, 1, 7, 8, 9] [] 5 [(0, sl y3 (toL (nv xs)).length), (1, sl y4 (toL (nv ys)).length), (7, sl y12 (toL (2 * q + 1)).length), (8, sl y10 (toL ((2 * r + ((nv xs) / 2 ^ (m - 1) % 2)) - (nv ys))).length), (9, .int .i64 ((m - 1 : Nat) : Int))] k_ ?_
    refine RN.done k_ ?_
    refine KN.blk ?_
    refine KN.next ?_
    refine J.regN ?_
    refine RN.bq (no 2) [0, 1, 7, 8, 26] [] 2 [(0, sl y3 (toL (nv xs)).length), (1, sl y4 (toL (nv ys)).length), (7, sl y12 (toL (2 * q + 1)).length), (8, sl y10 (toL ((2 * r + ((nv xs) / 2 ^ (m - 1) % 2)) - (nv ys))).length), (26, .int .i64 (IntKind.i64.wrap (((m - 1 : Nat) : Int) - 1)))] k_ ?_
    rw [show IntKind.i64.wrap (((m - 1 : Nat) : Int) - 1) = (((m - 1 : Nat) : Int) - 1) from by rw [IntKind.wrap_i64]; omega]
    refine RN.bq (no 1) [0, 1, 7, 8, 9] [] 3 [(0, sl y3 (toL (nv xs)).length), (1, sl y4 (toL (nv ys)).length), (7, sl y12 (toL (2 * q + 1)).length), (8, sl y10 (toL ((2 * r + ((nv xs) / 2 ^ (m - 1) % 2)) - (nv ys))).length), (9, .int .i64 (((m - 1 : Nat) : Int) - 1))] k_ ?_
    refine RN.done k_ ?_
    refine KN.roundE (m - 1, y12, 2 * q + 1, y10, (2 * r + ((nv xs) / 2 ^ (m - 1) % 2)) - (nv ys)) [0, 1, 7, 8, 9] [0, 1, 5, 6, 7, 8] (l2 := [(0, sl y3 (toL (nv xs)).length), (1, sl y4 (toL (nv ys)).length), (7, sl y12 (toL (2 * q + 1)).length), (8, sl y10 (toL ((2 * r + ((nv xs) / 2 ^ (m - 1) % 2)) - (nv ys))).length), (9, .int .i64 (((m - 1 : Nat) : Int) - 1))]) (by (try dsimp only); omega) (by (try dsimp only); first | (have hs := hst; rw [if_pos hbr, if_pos hbr] at hs; exact ⟨by omega, hs⟩) | (have hs := hst; rw [if_neg hbr, if_neg hbr] at hs; exact ⟨by omega, hs⟩)) k_ (by rfl) (by rfl) (by rfl)
   ·replace c11 := of_decide_eq_false c11
    have hbr := c11
    refine J.regN ?_
    refine RN.bq (no 1) [0, 1, 8, 9, 42] [] 1 [(0, sl y3 (toL (nv xs)).length), (1, sl y4 (toL (nv ys)).length), (8, sl y9 (toL (2 * r + ((nv xs) / 2 ^ (m - 1) % 2))).length), (9, .int .i64 ((m - 1 : Nat) : Int)), (42, sl sq (toL q).length)] k_ ?_
    refine RN.call (r01_double sq q 0 y_ y_) [2] k_ k_ k_ rfl (fun y13 _ => ?_)
    refine RN.bq (no 1) [0, 1, 7, 8, 9] [] 3 [(0, sl y3 (toL (nv xs)).length), (1, sl y4 (toL (nv ys)).length), (7, sl y13 (toL (2 * q + 0)).length), (8, sl y9 (toL (2 * r + ((nv xs) / 2 ^ (m - 1) % 2))).length), (9, .int .i64 ((m - 1 : Nat) : Int))] k_ ?_
    refine RN.done k_ ?_
    refine KN.blk ?_
    refine KN.next ?_
    refine J.regN ?_
    refine RN.bq (no 2) [0, 1, 7, 8, 26] [] 2 [(0, sl y3 (toL (nv xs)).length), (1, sl y4 (toL (nv ys)).length), (7, sl y13 (toL (2 * q + 0)).length), (8, sl y9 (toL (2 * r + ((nv xs) / 2 ^ (m - 1) % 2))).length), (26, .int .i64 (IntKind.i64.wrap (((m - 1 : Nat) : Int) - 1)))] k_ ?_
    rw [show IntKind.i64.wrap (((m - 1 : Nat) : Int) - 1) = (((m - 1 : Nat) : Int) - 1) from by rw [IntKind.wrap_i64]; omega]
    refine RN.bq (no 1) [0, 1, 7, 8, 9] [] 3 [(0, sl y3 (toL (nv xs)).length), (1, sl y4 (toL (nv ys)).length), (7, sl y13 (toL (2 * q + 0)).length), (8, sl y9 (toL (2 * r + ((nv xs) / 2 ^ (m - 1) % 2))).length), (9, .int .i64 (((m - 1 : Nat) : Int) - 1))] k_ ?_
    refine RN.done k_ ?_
    refine KN.roundE (m - 1, y13, 2 * q + 0, y9, 2 * r + ((nv xs) / 2 ^ (m - 1) % 2)) [0, 1, 7, 8, 9] [0, 2, 5, 6, 7, 8] (l2 := [(0, sl y3 (toL (nv xs)).length), (1, sl y4 (toL (nv ys)).length), (7, sl y13 (toL (2 * q + 0)).length), (8, sl y9 (toL (2 * r + ((nv xs) / 2 ^ (m - 1) % 2))).length), (9, .int .i64 (((m - 1 : Nat) : Int) - 1))]) (by (try dsimp only); omega) (by (try dsimp only); first | (have hs := hst; rw [if_pos hbr, if_pos hbr] at hs; exact ⟨by omega, hs⟩) | (have hs := hst; rw [if_neg hbr, if_neg hbr] at hs; exact ⟨by omega, hs⟩)) k_ (by rfl) (by rfl) (by rfl)
  ·replace c7 := of_decide_eq_false c7
   have hm0 : m = 0 := by omega
   subst hm0
   have hdn := hI2.done
   refine J.exit (KX.next (KX.next (KX.hit ?_)))
   refine KN.next ?_
   refine J.sreg ?_
   refine RN.bq (no 5) [4, 5, 6] [] 5 [(4, sl sq (toL q).length), (5, sl sr (toL r).length), (6, .bool true)] k_ ?_
   refine RN.fin k_ ?_
   have e_1 : (toL (nv xs / nv ys)) = (toL q) := by first | (rw [← hdn.1]; done) | (rw [if_neg h0, ← hdn.2]; done) | simp [h0]
   have e_2 : (toL (if nv ys = 0 then 0 else nv xs % nv ys)) = (toL r) := by first | (rw [← hdn.1]; done) | (rw [if_neg h0, ← hdn.2]; done) | simp [h0]
   have e_3 : (decide (nv ys ≠ 0)) = true := by first | (rw [← hdn.1]; done) | (rw [if_neg h0, ← hdn.2]; done) | simp [h0]
   refine J.ret (KR.ret (v := .tuple #[sl sq (toL q).length, sl sr (toL r).length, .bool true]) (⟨sq, sr⟩) [none, none, none] [0, 1] [] k_ v3_ (trivial) v3_)
theorem r01_Div_c (s : SA) (xs' : Nat) (t : SA) (ys' : Nat) (hxl : (toL xs').length ≤ 274877906942) (hyl : (toL ys').length ≤ 274877906942) : Spec Tryz.prog 119 #[sl s (toL xs').length, sl t (toL ys').length] [fU s (toL xs'), fU t (toL ys')] (ι := SA × SA) (fun y => .tuple #[sl y.1 (toL (xs' / ys')).length, sl y.2 (toL (if ys' = 0 then 0 else xs' % ys')).length, .bool (decide (ys' ≠ 0))]) (fun y => True) (fun y => [fU y.1 (toL (xs' / ys')), fU y.2 (toL (if ys' = 0 then 0 else xs' % ys'))]) := by
  have H := r01_Div s (toL xs') t (toL ys') (Lb_toL _) (Lb_toL _) (by first | exact hxl | simpa only [nv_toL, nv_toL] using hxl) (by first | exact hyl | simpa only [nv_toL, nv_toL] using hyl)
  first | exact H | (simp only [nv_toL, lv_toL, validU_toL] at H; exact H)
theorem r01_Gcd (s : SA) (xs : List Nat) (t : SA) (ys : List Nat) (hx : Lb xs) (hy : Lb ys) (hxl : xs.length ≤ 274877906942) (hyl : ys.length ≤ 274877906942) : Spec Tryz.prog 118 #[sl s xs.length, sl t ys.length] [fU s xs, fU t ys] (ι := SA) (fun y => sl y (toL (Nat.gcd (nv xs) (nv ys))).length) (fun y => True) (fun y => [fU y (toL (Nat.gcd (nv xs) (nv ys)))]) := by
 refine Spec.of_body _ (fn := Tryz.f118) k_ rfl k_ (fun X w0 => ?_)
 refine J.fact (φ := xs.length ≤ 140737488355328) (fun w h => by have := (h _ (.head _)).1; omega) (fun hl1 => ?_)
 refine J.fact (φ := ys.length ≤ 140737488355328) (fun w h => by have := (h _ (.tail _ ((.head _)))).1; omega) (fun hl2 => ?_)
 have hnx := toL_nv_len hx _ hxl
 have hny := toL_nv_len hy _ hyl
 refine J.sreg ?_
 refine RN.bq (no 1) [0, 1] [] 1 [(0, sl s xs.length), (1, sl t ys.length)] k_ ?_
 refine RN.fs k_ ?_
 refine RN.bq (no 1) [1, 8] [] 1 [(1, sl t ys.length), (8, sl s xs.length)] k_ ?_
 refine RN.call (r01_Take s xs y_ y_) [0] k_ k_ k_ rfl (fun y3 _ => ?_)
 refine RN.bq (no 1) [9, 10] [] 3 [(9, sl y3 (toL (nv xs)).length), (10, sl t ys.length)] k_ ?_
 refine RN.call (r01_Take t ys y_ y_) [2] k_ k_ k_ rfl (fun y4 _ => ?_)
 refine RN.bq (no 2) [0, 1] [] 6 [(0, sl y3 (toL (nv xs)).length), (1, sl y4 (toL (nv ys)).length)] k_ ?_
 refine RN.fin k_ ?_
 refine J.seq ?_
 refine J.block ?_
 refine J.loop (ι := (SA) × (Nat) × (SA) × (Nat)) (fun x => (toL x.2.1).length ≤ 274877906942 ∧ (toL x.2.2.2).length ≤ 274877906942 ∧ Nat.gcd x.2.1 x.2.2.2 = Nat.gcd (nv xs) (nv ys)) (fun x => x.2.2.2) (fun x => [(0, sl x.1 (toL x.2.1).length), (1, sl x.2.2.1 (toL x.2.2.2).length)]) (fun x => []) (fun x => [fU x.1 (toL x.2.1), fU x.2.2.1 (toL x.2.2.2), fU y4 (toL (nv ys)), fU y3 (toL (nv xs)), fU s xs, fU t ys]) (y3, nv xs, y4, nv ys) [0, 1] [1, 0, 0, 1, 2, 3] (⟨hnx, hny, rfl⟩) k_ (by first | rfl | (simp only [encQ_zero]; done) | (simp only [encQ_zero]; rfl)) (by rfl) (fun x5 hI => ?_)
 obtain ⟨sa, a, sb, b⟩ := x5
 replace hI : (toL a).length ≤ 274877906942 ∧ (toL b).length ≤ 274877906942 ∧ Nat.gcd a b = Nat.gcd (nv xs) (nv ys) := hI
 obtain ⟨hI1, hI2, hI3⟩ := hI
 refine J.seq ?_
 refine J.sreg ?_
 refine RN.bq (no 3) [0, 1, 14] [] 3 [(0, sl sa (toL a).length), (1, sl sb (toL b).length), (14, .bool (decide ((((toL b).length : Nat) : Int) > 0)))] k_ ?_
 refine RN.fin k_ ?_
 refine J.cond (decide ((((toL b).length : Nat) : Int) > 0)) k_ (fun c6 => ?_) (fun c6 => ?_)
 ·replace c6 := of_decide_eq_true c6
  have h0 : b ≠ 0 := toL_len_ne (by omega)
  refine J.skip ?_
  refine KN.next ?_
  refine J.block ?_
  refine J.sreg ?_
  refine RN.bq (no 2) [1, 16, 17] [] 2 [(1, sl sb (toL b).length), (16, sl sa (toL a).length), (17, sl sb (toL b).length)] k_ ?_
  refine RN.call (r01_Div_c sa a sb b y_ y_) [0, 1] k_ k_ k_ rfl (fun y7 _ => ?_)
  rw [show (if b = 0 then 0 else a % b) = a % b from if_neg h0]
  refine RN.bq (no 7) [1, 6] [] 10 [(1, sl sb (toL b).length), (6, sl y7.2 (toL (a % b)).length)] k_ ?_
  refine RN.fin k_ ?_
  refine J.regN ?_
  refine RN.bq (no 4) [0, 1] [] 4 [(0, sl sb (toL b).length), (1, sl y7.2 (toL (a % b)).length)] k_ ?_
  refine RN.done k_ ?_
  refine KN.blk ?_
  have hm := Nat.mod_lt a (Nat.pos_of_ne_zero h0)
  refine KN.roundE (sb, b, y7.2, a % b) [0, 1] [3, 1, 4, 5, 6, 7] (l2 := [(0, sl sb (toL b).length), (1, sl y7.2 (toL (a % b)).length)]) (by (try dsimp only); exact hm) (by (try dsimp only); exact ⟨hI2, Nat.le_trans (length_toL_mono (Nat.le_of_lt hm)) hI2, by rw [Nat.gcd_comm, ← Nat.gcd_rec, Nat.gcd_comm]; exact hI3⟩) k_ (by rfl) (by rfl) (by rfl)
 ·replace c6 := of_decide_eq_false c6
  have h0 : b = 0 := toL_len_eq (by omega)
  refine J.exit (KX.next (KX.next (KX.hit ?_)))
  refine KN.next ?_
  refine J.sreg ?_
  refine RN.bq (no 2) [4] [] 2 [(4, sl sa (toL a).length)] k_ ?_
  refine RN.fin k_ ?_
  have e_1 : (toL (Nat.gcd (nv xs) (nv ys))) = (toL a) := by simp [← hI3, h0]
  refine J.ret (KR.ret (v := sl sa (toL a).length) (sa) [none] [0] [] k_ v1_ (trivial) v1_)
theorem r01_Gcd_c (s : SA) (xs' : Nat) (t : SA) (ys' : Nat) (hxl : (toL xs').length ≤ 274877906942) (hyl : (toL ys').length ≤ 274877906942) : Spec Tryz.prog 118 #[sl s (toL xs').length, sl t (toL ys').length] [fU s (toL xs'), fU t (toL ys')] (ι := SA) (fun y => sl y (toL (Nat.gcd xs' ys')).length) (fun y => True) (fun y => [fU y (toL (Nat.gcd xs' ys'))]) := by
  have H := r01_Gcd s (toL xs') t (toL ys') (Lb_toL _) (Lb_toL _) (by first | exact hxl | simpa only [nv_toL, nv_toL] using hxl) (by first | exact hyl | simpa only [nv_toL, nv_toL] using hyl)
  first | exact H | (simp only [nv_toL, lv_toL, validU_toL] at H; exact H)
theorem same_step {xs ys : List Nat} {i : Nat} (h : ∀ j, j < i → xs.getD j 0 = ys.getD j 0) (hi : xs.getD i 0 = ys.getD i 0) : ∀ j, j < i + 1 → xs.getD j 0 = ys.getD j 0 := by
  intro j hj
  by_cases e : j = i
  · subst e; exact hi
  · exact h j (by omega)
theorem ext_getD {xs ys : List Nat} (hl : xs.length = ys.length) (h : ∀ j, j < xs.length → xs.getD j 0 = ys.getD j 0) : xs = ys := by
  apply List.ext_getElem hl
  intro i h1 h2
  have := h i h1
  simpa [List.getD_eq_getElem?_getD, h1, h2] using this
theorem r01_Same (s : SA) (xs : List Nat) (t : SA) (ys : List Nat) : Spec Tryz.prog 53 #[sl s xs.length, sl t ys.length] [fU s xs, fU t ys] (ι := Unit) (fun y => .bool (decide (xs = ys))) (fun y => True) (fun y => []) := by
 refine Spec.of_body _ (fn := Tryz.f53) k_ rfl k_ (fun X w0 => ?_)
 refine J.fact (φ := xs.length ≤ 140737488355328) (fun w h => by have := (h _ (.head _)).1; omega) (fun hl1 => ?_)
 refine J.fact (φ := ys.length ≤ 140737488355328) (fun w h => by have := (h _ (.tail _ ((.head _)))).1; omega) (fun hl2 => ?_)
 refine J.sreg ?_
 refine RN.bq (no 1) [0, 1] [] 1 [(0, sl s xs.length), (1, sl t ys.length)] k_ ?_
 refine RN.fin k_ ?_
 refine J.seq ?_
 refine J.sreg ?_
 refine RN.bq (no 5) [0, 1, 10] [] 5 [(0, sl s xs.length), (1, sl t ys.length), (10, .bool ((((xs.length : Nat) : Int) : Int) != ((ys.length : Nat) : Int)))] k_ ?_
 refine RN.fin k_ ?_
 refine J.cond ((((xs.length : Nat) : Int) : Int) != ((ys.length : Nat) : Int)) k_ (fun c3 => ?_) (fun c3 => ?_)
 ·replace c3 := bne_iff_ne.1 c3
  refine J.sreg ?_
  refine RN.bq (no 1) [4] [] 1 [(4, .bool false)] k_ ?_
  refine RN.fin k_ ?_
  have e_1 : (decide (xs = ys)) = false := by exact decide_eq_false (fun h => by subst h; omega)
  refine J.ret (KR.next (KR.ret (v := .bool false) (()) [none] [] [] k_ v1_ (trivial) v1_))
 ·replace c3 := bne_eq_false_iff_eq.1 c3
  refine J.skip ?_
  refine KN.next ?_
  refine J.seq ?_
  refine J.sreg ?_
  refine RN.bq (no 1) [0, 1, 5] [] 1 [(0, sl s xs.length), (1, sl t ys.length), (5, .int .i64 0)] k_ ?_
  refine RN.fin k_ ?_
  refine J.block ?_
  refine J.loop (ι := (Nat)) (fun x => x ≤ xs.length ∧ ∀ j, j < x → xs.getD j 0 = ys.getD j 0) (fun x => xs.length - x) (fun x => [(0, sl s xs.length), (1, sl t ys.length), (5, .int .i64 ((x : Nat) : Int))]) (fun x => []) (fun x => [fU s xs, fU t ys]) (0) [0, 1, 5] [0, 1] (⟨Nat.zero_le _, fun j hj => absurd hj (Nat.not_lt_zero _)⟩) k_ (by first | rfl | (simp only [encQ_zero]; done) | (simp only [encQ_zero]; rfl)) (by rfl) (fun i hI => ?_)
  replace hI : i ≤ xs.length ∧ ∀ j, j < i → xs.getD j 0 = ys.getD j 0 := hI
  refine J.seq ?_
  refine J.sreg ?_
  refine RN.bq (no 4) [0, 1, 5, 14] [] 4 [(0, sl s xs.length), (1, sl t ys.length), (5, .int .i64 ((i : Nat) : Int)), (14, .bool (decide (((i : Nat) : Int) < ((xs.length : Nat) : Int))))] k_ ?_
  refine RN.fin k_ ?_
  refine J.cond (decide (((i : Nat) : Int) < ((xs.length : Nat) : Int))) k_ (fun c4 => ?_) (fun c4 => ?_)
  ·replace c4 := of_decide_eq_true c4
   refine J.skip ?_
   refine KN.next ?_
   refine J.seq ?_
   refine J.block ?_
   refine J.seq ?_
   refine J.regD k_ [] ?_
   refine RD.bq (nl [0, 1, 4, 5]) [0, 1, 5, 17, 18, 21, 22] [] [(0, sl s xs.length), (1, sl t ys.length), (5, .int .i64 ((i : Nat) : Int)), (17, sl s xs.length), (18, .int .i64 ((i : Nat) : Int)), (21, sl t ys.length), (22, .int .i64 ((i : Nat) : Int))] k_ k_ ?_
   refine RD.val (i := 2) _ k_ k_ k_ (q_uidx (t := 36) (x := (.tmp 17)) (ix := (.tmp 18)) (K := .i64) (i0 := ((i : Nat) : Int)) (m := i) (e := 107) 0 rfl k_ k_ k_ k_ k_ (by omega) x_) ?_
   refine RD.val (i := 3) _ k_ k_ k_ (q_uload (T := 107) (x := (.tmp 19)) (m := i) (s := s) (xs := xs) 0 rfl k_ k_ k_ x_) ?_
   refine RD.val (i := 6) _ k_ k_ k_ (q_uidx (t := 36) (x := (.tmp 21)) (ix := (.tmp 22)) (K := .i64) (i0 := ((i : Nat) : Int)) (m := i) (e := 107) 1 rfl k_ k_ k_ k_ k_ (by omega) x_) ?_
   refine RD.val (i := 7) _ k_ k_ k_ (q_uload (T := 107) (x := (.tmp 23)) (m := i) (s := t) (xs := ys) 1 rfl k_ k_ k_ x_) ?_
   refine RD.bq (nl [8]) [0, 1, 5, 25] [] [(0, sl s xs.length), (1, sl t ys.length), (5, .int .i64 ((i : Nat) : Int)), (25, .bool ((((xs.getD i 0 : Nat) : Int) : Int) != ((ys.getD i 0 : Nat) : Int)))] k_ k_ ?_
   refine RD.done k_ ?_
   refine KN.next ?_
   refine J.cond ((((xs.getD i 0 : Nat) : Int) : Int) != ((ys.getD i 0 : Nat) : Int)) k_ (fun c5 => ?_) (fun c5 => ?_)
   ·replace c5 := bne_iff_ne.1 c5
    refine J.sreg ?_
    refine RN.bq (no 1) [4] [] 1 [(4, .bool false)] k_ ?_
    refine RN.fin k_ ?_
    have e_1 : (decide (xs = ys)) = false := by exact decide_eq_false (fun h => by subst h; omega)
    refine J.ret (KR.blk (KR.next (KR.next (KR.blk (KR.next (KR.ret (v := .bool false) (()) [none] [] [] k_ v1_ (trivial) v1_))))))
   ·replace c5 := bne_eq_false_iff_eq.1 c5
    refine J.skip ?_
    refine KN.blk ?_
    refine KN.next ?_
    refine J.regN ?_
    refine RN.bq (no 2) [0, 1, 16] [] 2 [(0, sl s xs.length), (1, sl t ys.length), (16, .int .i64 (IntKind.i64.wrap (((i : Nat) : Int) + 1)))] k_ ?_
    rw [show IntKind.i64.wrap (((i : Nat) : Int) + 1) = ((i + 1 : Nat) : Int) from by rw [IntKind.wrap_i64]; omega]
    refine RN.bq (no 1) [0, 1, 5] [] 3 [(0, sl s xs.length), (1, sl t ys.length), (5, .int .i64 ((i + 1 : Nat) : Int))] k_ ?_
    refine RN.done k_ ?_
    refine KN.roundE (i + 1) [0, 1, 5] [0, 1] (l2 := [(0, sl s xs.length), (1, sl t ys.length), (5, .int .i64 ((i + 1 : Nat) : Int))]) (by (try dsimp only); omega) (by (try dsimp only); exact ⟨by omega, same_step hI.2 (by omega)⟩) k_ (by rfl) (by rfl) (by rfl)
  ·replace c4 := of_decide_eq_false c4
   refine J.exit (KX.next (KX.next (KX.hit ?_)))
   refine KN.next ?_
   refine J.sreg ?_
   refine RN.bq (no 1) [4] [] 1 [(4, .bool true)] k_ ?_
   refine RN.fin k_ ?_
   have e_1 : (decide (xs = ys)) = true := by exact decide_eq_true (ext_getD (by omega) (fun j hj => hI.2 j (by omega)))
   refine J.ret (KR.ret (v := .bool true) (()) [none] [] [] k_ v1_ (trivial) v1_)
end Go.Proofs.YtbiifkfbkaejlaaGreat.E
