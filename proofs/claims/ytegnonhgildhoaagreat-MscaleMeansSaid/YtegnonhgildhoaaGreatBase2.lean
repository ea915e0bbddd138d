import Derived.Test.YtegnonhgildhoaaGreatBase
namespace Go.Proofs.YtegnonhgildhoaaGreat.E
open Go Go.RowKit
set_option linter.unusedVariables false
set_option linter.unusedSimpArgs false
theorem y_natural_reduce {p : Prop} (h : p := by first | assumption | exact Lb_toL _ | omega | (simp; done) | exact Nat.mod_lt _ (by decide)) : p := h
theorem natural_reduce (b : Nat) (o : Nat) (n : Nat) (cap : Nat) (xs : List Nat) (s : SA) (v : Nat) (q : Nat) (hL : Lb xs) (hn : o + n ≤ xs.length) (hlen : xs.length ≤ 2199023255552) (hvn : (toL v).length < n) (hq : q < 4294967296) : SpecM Tryz.prog 148 #[.slice (some ⟨b, o, none⟩) n cap, sl s (toL v).length, .int .u64 ((q : Nat) : Int)] [(b, .cells (encU xs) 82 (0, 0))] [fU s (toL v)] (ι := List Nat × Bool) (fun y => .bool y.2) (fun y => y.1.length = xs.length ∧ Lb y.1 ∧ (∀ i, (i < o ∨ o + n ≤ i) → y.1.getD i 0 = xs.getD i 0) ∧ svl y.1 o n + q * v = svl xs o n + W ^ n * (if y.2 then 1 else 0)) (fun y => [(b, .cells (encU y.1) 82 (0, 0))]) (fun y => []) := by
  refine SpecM.of_body _ (fn := Tryz.f148) k_ rfl k_ (fun X w0 => ?_)
  refine J.fact (φ := (toL v).length ≤ 140737488355328) (fun w h => by have := (h _ (.head _)).1; omega) (fun hl1 => ?_)
  refine J.sreg ?_
  refine RN.bq (no 1) [0, 1, 2] [] (k' := 1) (l' := [(0, .slice (some ⟨b, o, none⟩) n cap), (1, sl s (toL v).length), (2, .int .u64 ((q : Nat) : Int))]) k_ ?_
  refine RN.done k_ ?_
  refine KN.next ?_
  refine J.sreg ?_
  refine RN.bq (no 2) [0, 1, 2, 7, 8] [] (k' := 2) (l' := [(0, .slice (some ⟨b, o, none⟩) n cap), (1, sl s (toL v).length), (2, .int .u64 ((q : Nat) : Int)), (7, .int .u64 0), (8, .int .u32 0)]) k_ ?_
  refine RN.done k_ ?_
  refine KN.next ?_
  refine J.seq ?_
  refine J.sreg ?_
  refine RN.bq (no 3) [0, 1, 2, 7, 8, 12, 13] [] (k' := 3) (l' := [(0, .slice (some ⟨b, o, none⟩) n cap), (1, sl s (toL v).length), (2, .int .u64 ((q : Nat) : Int)), (7, .int .u64 0), (8, .int .u32 0), (12, .int .i64 ((n : Nat) : Int)), (13, .int .i64 0)]) k_ ?_
  refine RN.done k_ ?_
  refine KN.next ?_
  refine J.block ?_
  refine J.loop (ι := (Nat) × (List Nat) × (Nat) × (Nat)) (fun x => x.1 ≤ n ∧ RedI xs (toL v) q o x.2.1 x.1 x.2.2.1 x.2.2.2) (fun x => n - x.1) (fun x => [(0, .slice (some ⟨b, o, none⟩) n cap), (1, sl s (toL v).length), (2, .int .u64 ((q : Nat) : Int)), (7, .int .u64 ((x.2.2.1 : Nat) : Int)), (8, .int .u32 ((x.2.2.2 : Nat) : Int)), (12, .int .i64 ((n : Nat) : Int)), (13, .int .i64 ((x.1 : Nat) : Int))]) (fun x => [(b, .cells (encU x.2.1) 82 (0, 0))]) (fun x => [fU s (toL v)]) (0, xs, 0, 0) [0, 1, 2, 7, 8, 12, 13] [0] (⟨Nat.zero_le _, RedI.start hL⟩) k_ (by first | rfl | (simp only [encQ_zero]; done) | (simp only [encQ_zero]; rfl)) (by rfl) (fun x2 hI => ?_)
  obtain ⟨k, out, c, bo⟩ := x2
  replace hI : k ≤ n ∧ RedI xs (toL v) q o out k c bo := hI
  obtain ⟨hI1, hI2⟩ := hI
  have hI3 := hI2.1
  have hI4 := hI2.2.2.2.1
  have hI5 := hI2.2.2.2.2.1
  have hga : out.getD (o + k) 0 < 4294967296 := hI2.2.1.getD _
  have hgv : (toL v).getD k 0 < 4294967296 := (Lb_toL v).getD k
  have hqy : q * (toL v).getD k 0 ≤ 4294967295 * 4294967295 := Nat.mul_le_mul (by omega) (by omega)
  have hq0 : q * 0 = 0 := Nat.mul_zero q
  refine J.sreg ?_
  refine RN.bq (no 1) [0, 1, 2, 7, 8, 12, 13, 14] [] (k' := 1) (l' := [(0, .slice (some ⟨b, o, none⟩) n cap), (1, sl s (toL v).length), (2, .int .u64 ((q : Nat) : Int)), (7, .int .u64 ((c : Nat) : Int)), (8, .int .u32 ((bo : Nat) : Int)), (12, .int .i64 ((n : Nat) : Int)), (13, .int .i64 ((k : Nat) : Int)), (14, .bool (decide (((k : Nat) : Int) < ((n : Nat) : Int))))]) k_ ?_
  refine RN.done k_ ?_
  refine KN.next ?_
  refine J.seq ?_
  refine J.cond (decide (((k : Nat) : Int) < ((n : Nat) : Int))) k_ (fun c3 => ?_) (fun c3 => ?_)
  · skip
    replace c3 := of_decide_eq_true c3
    refine J.skip ?_
    refine KN.next ?_
    refine J.seq ?_
    refine J.block ?_
    refine J.sreg ?_
    refine RN.bq (no 2) [0, 1, 2, 7, 8, 9, 12, 13] [] (k' := 2) (l' := [(0, .slice (some ⟨b, o, none⟩) n cap), (1, sl s (toL v).length), (2, .int .u64 ((q : Nat) : Int)), (7, .int .u64 ((c : Nat) : Int)), (8, .int .u32 ((bo : Nat) : Int)), (9, .int .i64 ((k : Nat) : Int)), (12, .int .i64 ((n : Nat) : Int)), (13, .int .i64 ((k : Nat) : Int))]) k_ ?_
    refine RN.done k_ ?_
    refine KN.next ?_
    refine J.sreg ?_
    refine RN.bq (no 1) [0, 1, 2, 7, 8, 9, 10, 12, 13] [] (k' := 1) (l' := [(0, .slice (some ⟨b, o, none⟩) n cap), (1, sl s (toL v).length), (2, .int .u64 ((q : Nat) : Int)), (7, .int .u64 ((c : Nat) : Int)), (8, .int .u32 ((bo : Nat) : Int)), (9, .int .i64 ((k : Nat) : Int)), (10, .int .u64 0), (12, .int .i64 ((n : Nat) : Int)), (13, .int .i64 ((k : Nat) : Int))]) k_ ?_
    refine RN.done k_ ?_
    refine KN.next ?_
    refine J.seq ?_
    refine J.sreg ?_
    refine RN.bq (no 4) [0, 1, 2, 7, 8, 9, 10, 12, 13, 19] [] (k' := 4) (l' := [(0, .slice (some ⟨b, o, none⟩) n cap), (1, sl s (toL v).length), (2, .int .u64 ((q : Nat) : Int)), (7, .int .u64 ((c : Nat) : Int)), (8, .int .u32 ((bo : Nat) : Int)), (9, .int .i64 ((k : Nat) : Int)), (10, .int .u64 0), (12, .int .i64 ((n : Nat) : Int)), (13, .int .i64 ((k : Nat) : Int)), (19, .bool (decide (((k : Nat) : Int) < (((toL v).length : Nat) : Int))))]) k_ ?_
    refine RN.done k_ ?_
    refine KN.next ?_
    refine J.cond (decide (((k : Nat) : Int) < (((toL v).length : Nat) : Int))) k_ (fun c4 => ?_) (fun c4 => ?_)
    · skip
      replace c4 := of_decide_eq_true c4
      refine J.regN ?_
      refine RN.bq (no 2) [0, 1, 2, 7, 8, 9, 12, 13, 20, 21] [] (k' := 2) (l' := [(0, .slice (some ⟨b, o, none⟩) n cap), (1, sl s (toL v).length), (2, .int .u64 ((q : Nat) : Int)), (7, .int .u64 ((c : Nat) : Int)), (8, .int .u32 ((bo : Nat) : Int)), (9, .int .i64 ((k : Nat) : Int)), (12, .int .i64 ((n : Nat) : Int)), (13, .int .i64 ((k : Nat) : Int)), (20, sl s (toL v).length), (21, .int .i64 ((k : Nat) : Int))]) k_ ?_
      refine RN.val _ k_ k_ (q_uidx (t := 23) (x := (.tmp 20)) (ix := (.tmp 21)) (K := .i64) (i0 := ((k : Nat) : Int)) (m := k) (e := 82) 0 rfl k_ k_ k_ k_ k_ (by omega) x_) ?_
      refine RN.val _ k_ k_ (q_uload (T := 82) (x := (.tmp 22)) (m := k) (s := s) (xs := toL v) 0 rfl k_ k_ k_ x_) ?_
      refine RN.bq (no 1) [0, 1, 2, 7, 8, 9, 12, 13, 24] [] (k' := 5) (l' := [(0, .slice (some ⟨b, o, none⟩) n cap), (1, sl s (toL v).length), (2, .int .u64 ((q : Nat) : Int)), (7, .int .u64 ((c : Nat) : Int)), (8, .int .u32 ((bo : Nat) : Int)), (9, .int .i64 ((k : Nat) : Int)), (12, .int .i64 ((n : Nat) : Int)), (13, .int .i64 ((k : Nat) : Int)), (24, .int .u64 (IntKind.u64.wrap (((toL v).getD k 0 : Nat) : Int)))]) k_ ?_
      rw [show IntKind.u64.wrap (((toL v).getD k 0 : Nat) : Int) = (((toL v).getD k 0 : Nat) : Int) from uw64b ((toL v).getD k 0) (by rfl) (by omega)]
      refine RN.bq (no 1) [0, 1, 2, 7, 8, 9, 10, 12, 13] [] (k' := 6) (l' := [(0, .slice (some ⟨b, o, none⟩) n cap), (1, sl s (toL v).length), (2, .int .u64 ((q : Nat) : Int)), (7, .int .u64 ((c : Nat) : Int)), (8, .int .u32 ((bo : Nat) : Int)), (9, .int .i64 ((k : Nat) : Int)), (10, .int .u64 (((toL v).getD k 0 : Nat) : Int)), (12, .int .i64 ((n : Nat) : Int)), (13, .int .i64 ((k : Nat) : Int))]) k_ ?_
      refine RN.done k_ ?_
      refine KN.next ?_
      refine J.sreg ?_
      refine RN.bq (no 4) [0, 1, 2, 8, 9, 12, 13, 25, 28] [] (k' := 4) (l' := [(0, .slice (some ⟨b, o, none⟩) n cap), (1, sl s (toL v).length), (2, .int .u64 ((q : Nat) : Int)), (8, .int .u32 ((bo : Nat) : Int)), (9, .int .i64 ((k : Nat) : Int)), (12, .int .i64 ((n : Nat) : Int)), (13, .int .i64 ((k : Nat) : Int)), (25, .int .u64 ((c : Nat) : Int)), (28, .int .u64 (IntKind.u64.wrap (((q : Nat) : Int) * (((toL v).getD k 0 : Nat) : Int))))]) k_ ?_
      rw [show IntKind.u64.wrap (((q : Nat) : Int) * (((toL v).getD k 0 : Nat) : Int)) = ((q * ((toL v).getD k 0) : Nat) : Int) from uw64b (q * ((toL v).getD k 0)) (by simp) (by omega)]
      refine RN.bq (no 1) [0, 1, 2, 8, 9, 12, 13, 29] [] (k' := 5) (l' := [(0, .slice (some ⟨b, o, none⟩) n cap), (1, sl s (toL v).length), (2, .int .u64 ((q : Nat) : Int)), (8, .int .u32 ((bo : Nat) : Int)), (9, .int .i64 ((k : Nat) : Int)), (12, .int .i64 ((n : Nat) : Int)), (13, .int .i64 ((k : Nat) : Int)), (29, .int .u64 (IntKind.u64.wrap (((c : Nat) : Int) + ((q * ((toL v).getD k 0) : Nat) : Int))))]) k_ ?_
      rw [show IntKind.u64.wrap (((c : Nat) : Int) + ((q * ((toL v).getD k 0) : Nat) : Int)) = ((c + (q * ((toL v).getD k 0)) : Nat) : Int) from uw64b (c + (q * ((toL v).getD k 0))) (by omega) (by omega)]
      refine RN.bq (no 1) [0, 1, 2, 7, 8, 9, 12, 13] [] (k' := 6) (l' := [(0, .slice (some ⟨b, o, none⟩) n cap), (1, sl s (toL v).length), (2, .int .u64 ((q : Nat) : Int)), (7, .int .u64 ((c + (q * ((toL v).getD k 0)) : Nat) : Int)), (8, .int .u32 ((bo : Nat) : Int)), (9, .int .i64 ((k : Nat) : Int)), (12, .int .i64 ((n : Nat) : Int)), (13, .int .i64 ((k : Nat) : Int))]) k_ ?_
      refine RN.done k_ ?_
      refine KN.next ?_
      refine J.sreg ?_
      refine RN.bq (no 4) [0, 1, 2, 7, 8, 12, 13, 31, 32, 33, 34] [] (k' := 4) (l' := [(0, .slice (some ⟨b, o, none⟩) n cap), (1, sl s (toL v).length), (2, .int .u64 ((q : Nat) : Int)), (7, .int .u64 ((c + (q * ((toL v).getD k 0)) : Nat) : Int)), (8, .int .u32 ((bo : Nat) : Int)), (12, .int .i64 ((n : Nat) : Int)), (13, .int .i64 ((k : Nat) : Int)), (31, .slice (some ⟨b, o, none⟩) n cap), (32, .int .i64 ((k : Nat) : Int)), (33, .slice (some ⟨b, o, none⟩) n cap), (34, .int .i64 ((k : Nat) : Int))]) k_ ?_
      refine RN.val _ k_ k_ (q_oidxo (t := 23) (x := (.tmp 33)) (ix := (.tmp 34)) (b := b) (o := o) (n := n) (c := cap) (K := .i64) (i0 := ((k : Nat) : Int)) (m := k) (e := 82) k_ k_ k_ k_ k_ (by omega) x_) ?_
      refine RN.val _ k_ k_ (q_oload (mi := 0) (T := 82) (x := (.tmp 35)) (m := (o + k)) (xs := out) rfl k_ k_ k_ x_) ?_
      refine RN.bq (no 2) [0, 1, 2, 7, 8, 12, 13, 31, 32, 36, 38] [] (k' := 8) (l' := [(0, .slice (some ⟨b, o, none⟩) n cap), (1, sl s (toL v).length), (2, .int .u64 ((q : Nat) : Int)), (7, .int .u64 ((c + (q * ((toL v).getD k 0)) : Nat) : Int)), (8, .int .u32 ((bo : Nat) : Int)), (12, .int .i64 ((n : Nat) : Int)), (13, .int .i64 ((k : Nat) : Int)), (31, .slice (some ⟨b, o, none⟩) n cap), (32, .int .i64 ((k : Nat) : Int)), (36, .int .u32 ((out.getD (o + k) 0 : Nat) : Int)), (38, .int .u32 (IntKind.u32.wrap ((c + (q * ((toL v).getD k 0)) : Nat) : Int)))]) k_ ?_
      rw [show IntKind.u32.wrap ((c + (q * ((toL v).getD k 0)) : Nat) : Int) = (((c + (q * ((toL v).getD k 0))) % 4294967296 : Nat) : Int) from uw32e (c + (q * ((toL v).getD k 0))) (by rfl)]
      refine RN.bq (no 1) [0, 1, 2, 7, 12, 13, 31, 32, 36, 38, 39] [] (k' := 9) (l' := [(0, .slice (some ⟨b, o, none⟩) n cap), (1, sl s (toL v).length), (2, .int .u64 ((q : Nat) : Int)), (7, .int .u64 ((c + (q * ((toL v).getD k 0)) : Nat) : Int)), (12, .int .i64 ((n : Nat) : Int)), (13, .int .i64 ((k : Nat) : Int)), (31, .slice (some ⟨b, o, none⟩) n cap), (32, .int .i64 ((k : Nat) : Int)), (36, .int .u32 ((out.getD (o + k) 0 : Nat) : Int)), (38, .int .u32 (((c + (q * ((toL v).getD k 0))) % 4294967296 : Nat) : Int)), (39, .int .u32 ((bo : Nat) : Int))]) k_ ?_
      refine RN.call (bits_Sub32 (out.getD (o + k) 0) ((c + (q * ((toL v).getD k 0))) % 4294967296) bo y_natural_reduce y_natural_reduce y_natural_reduce) [] k_ k_ k_ rfl (fun y5 _ => ?_)
      refine RN.bq (no 3) [0, 1, 2, 7, 12, 13, 31, 32, 41, 42] [] (k' := 13) (l' := [(0, .slice (some ⟨b, o, none⟩) n cap), (1, sl s (toL v).length), (2, .int .u64 ((q : Nat) : Int)), (7, .int .u64 ((c + (q * ((toL v).getD k 0)) : Nat) : Int)), (12, .int .i64 ((n : Nat) : Int)), (13, .int .i64 ((k : Nat) : Int)), (31, .slice (some ⟨b, o, none⟩) n cap), (32, .int .i64 ((k : Nat) : Int)), (41, .int .u32 ((((out.getD (o + k) 0) + 4294967296 - ((c + (q * ((toL v).getD k 0))) % 4294967296) - bo) % 4294967296 : Nat) : Int)), (42, .int .u32 ((if (out.getD (o + k) 0) < ((c + (q * ((toL v).getD k 0))) % 4294967296) + bo then 1 else 0 : Nat) : Int))]) k_ ?_
      refine RN.val _ k_ k_ (q_oidxo (t := 23) (x := (.tmp 31)) (ix := (.tmp 32)) (b := b) (o := o) (n := n) (c := cap) (K := .i64) (i0 := ((k : Nat) : Int)) (m := k) (e := 82) k_ k_ k_ k_ k_ (by omega) x_) ?_
      refine RN.ot k_ k_ (ot_ustore (mi := 0) (T := 82) (x := (.tmp 43)) (y := (.tmp 41)) (b := b) (m := (o + k)) (xs := out) (v := ((((out.getD (o + k) 0) + 4294967296 - ((c + (q * ((toL v).getD k 0))) % 4294967296) - bo) % 4294967296 : Nat) : Int)) (v0 := ((out.getD (o + k) 0) + 4294967296 - ((c + (q * ((toL v).getD k 0))) % 4294967296) - bo) % 4294967296) rfl k_ k_ k_ k_ k_ (by omega) x_) (fun _ _ => ?_)
      refine RN.bq (no 1) [0, 1, 2, 7, 8, 12, 13] [] (k' := 16) (l' := [(0, .slice (some ⟨b, o, none⟩) n cap), (1, sl s (toL v).length), (2, .int .u64 ((q : Nat) : Int)), (7, .int .u64 ((c + (q * ((toL v).getD k 0)) : Nat) : Int)), (8, .int .u32 ((if (out.getD (o + k) 0) < ((c + (q * ((toL v).getD k 0))) % 4294967296) + bo then 1 else 0 : Nat) : Int)), (12, .int .i64 ((n : Nat) : Int)), (13, .int .i64 ((k : Nat) : Int))]) k_ ?_
      refine RN.done k_ ?_
      refine KN.next ?_
      refine J.regN ?_
      refine RN.bq (no 2) [0, 1, 2, 8, 12, 13, 45] [] (k' := 2) (l' := [(0, .slice (some ⟨b, o, none⟩) n cap), (1, sl s (toL v).length), (2, .int .u64 ((q : Nat) : Int)), (8, .int .u32 ((if (out.getD (o + k) 0) < ((c + (q * ((toL v).getD k 0))) % 4294967296) + bo then 1 else 0 : Nat) : Int)), (12, .int .i64 ((n : Nat) : Int)), (13, .int .i64 ((k : Nat) : Int)), (45, .int .u64 (Int.fdiv ((c + (q * ((toL v).getD k 0)) : Nat) : Int) (2 ^ 32)))]) k_ ?_
      rw [show Int.fdiv ((c + (q * ((toL v).getD k 0)) : Nat) : Int) (2 ^ 32) = (((c + (q * ((toL v).getD k 0))) / 2 ^ 32 : Nat) : Int) from fdivn _ _]
      refine RN.bq (no 1) [0, 1, 2, 7, 8, 12, 13] [] (k' := 3) (l' := [(0, .slice (some ⟨b, o, none⟩) n cap), (1, sl s (toL v).length), (2, .int .u64 ((q : Nat) : Int)), (7, .int .u64 (((c + (q * ((toL v).getD k 0))) / 2 ^ 32 : Nat) : Int)), (8, .int .u32 ((if (out.getD (o + k) 0) < ((c + (q * ((toL v).getD k 0))) % 4294967296) + bo then 1 else 0 : Nat) : Int)), (12, .int .i64 ((n : Nat) : Int)), (13, .int .i64 ((k : Nat) : Int))]) k_ ?_
      refine RN.done k_ ?_
      refine KN.blk ?_
      refine KN.next ?_
      refine J.regN ?_
      refine RN.bq (no 1) [0, 1, 2, 7, 8, 12, 46] [] (k' := 1) (l' := [(0, .slice (some ⟨b, o, none⟩) n cap), (1, sl s (toL v).length), (2, .int .u64 ((q : Nat) : Int)), (7, .int .u64 (((c + (q * ((toL v).getD k 0))) / 2 ^ 32 : Nat) : Int)), (8, .int .u32 ((if (out.getD (o + k) 0) < ((c + (q * ((toL v).getD k 0))) % 4294967296) + bo then 1 else 0 : Nat) : Int)), (12, .int .i64 ((n : Nat) : Int)), (46, .int .i64 (IntKind.i64.wrap (((k : Nat) : Int) + 1)))]) k_ ?_
      rw [show IntKind.i64.wrap (((k : Nat) : Int) + 1) = ((k + 1 : Nat) : Int) from by rw [IntKind.wrap_i64]; omega]
      refine RN.bq (no 1) [0, 1, 2, 7, 8, 12, 13] [] (k' := 2) (l' := [(0, .slice (some ⟨b, o, none⟩) n cap), (1, sl s (toL v).length), (2, .int .u64 ((q : Nat) : Int)), (7, .int .u64 (((c + (q * ((toL v).getD k 0))) / 2 ^ 32 : Nat) : Int)), (8, .int .u32 ((if (out.getD (o + k) 0) < ((c + (q * ((toL v).getD k 0))) % 4294967296) + bo then 1 else 0 : Nat) : Int)), (12, .int .i64 ((n : Nat) : Int)), (13, .int .i64 ((k + 1 : Nat) : Int))]) k_ ?_
      refine RN.done k_ ?_
      refine KN.roundE (k + 1, out.set (o + k) (((out.getD (o + k) 0) + 4294967296 - ((c + (q * ((toL v).getD k 0))) % 4294967296) - bo) % 4294967296), (c + (q * ((toL v).getD k 0))) / 2 ^ 32, if (out.getD (o + k) 0) < ((c + (q * ((toL v).getD k 0))) % 4294967296) + bo then 1 else 0) [0, 1, 2, 7, 8, 12, 13] [0] (l2 := [(0, .slice (some ⟨b, o, none⟩) n cap), (1, sl s (toL v).length), (2, .int .u64 ((q : Nat) : Int)), (7, .int .u64 (((c + (q * ((toL v).getD k 0))) / 2 ^ 32 : Nat) : Int)), (8, .int .u32 ((if (out.getD (o + k) 0) < ((c + (q * ((toL v).getD k 0))) % 4294967296) + bo then 1 else 0 : Nat) : Int)), (12, .int .i64 ((n : Nat) : Int)), (13, .int .i64 ((k + 1 : Nat) : Int))]) (by (try dsimp only); omega) (by (try dsimp only); exact ⟨by omega, hI2.step (Lb_toL v) (by omega) (by first | rfl | (rw [getD_ge (by omega)])) rfl⟩) k_ (by rfl) (by rfl) (by rfl)
    · skip
      replace c4 := of_decide_eq_false c4
      refine J.skip ?_
      refine KN.next ?_
      refine J.sreg ?_
      refine RN.bq (no 4) [0, 1, 2, 8, 9, 12, 13, 25, 28] [] (k' := 4) (l' := [(0, .slice (some ⟨b, o, none⟩) n cap), (1, sl s (toL v).length), (2, .int .u64 ((q : Nat) : Int)), (8, .int .u32 ((bo : Nat) : Int)), (9, .int .i64 ((k : Nat) : Int)), (12, .int .i64 ((n : Nat) : Int)), (13, .int .i64 ((k : Nat) : Int)), (25, .int .u64 ((c : Nat) : Int)), (28, .int .u64 (IntKind.u64.wrap (((q : Nat) : Int) * 0)))]) k_ ?_
      rw [show IntKind.u64.wrap (((q : Nat) : Int) * 0) = ((q * 0 : Nat) : Int) from uw64b (q * 0) (by simp) (by omega)]
      refine RN.bq (no 1) [0, 1, 2, 8, 9, 12, 13, 29] [] (k' := 5) (l' := [(0, .slice (some ⟨b, o, none⟩) n cap), (1, sl s (toL v).length), (2, .int .u64 ((q : Nat) : Int)), (8, .int .u32 ((bo : Nat) : Int)), (9, .int .i64 ((k : Nat) : Int)), (12, .int .i64 ((n : Nat) : Int)), (13, .int .i64 ((k : Nat) : Int)), (29, .int .u64 (IntKind.u64.wrap (((c : Nat) : Int) + ((q * 0 : Nat) : Int))))]) k_ ?_
      rw [show IntKind.u64.wrap (((c : Nat) : Int) + ((q * 0 : Nat) : Int)) = ((c + (q * 0) : Nat) : Int) from uw64b (c + (q * 0)) (by omega) (by omega)]
      refine RN.bq (no 1) [0, 1, 2, 7, 8, 9, 12, 13] [] (k' := 6) (l' := [(0, .slice (some ⟨b, o, none⟩) n cap), (1, sl s (toL v).length), (2, .int .u64 ((q : Nat) : Int)), (7, .int .u64 ((c + (q * 0) : Nat) : Int)), (8, .int .u32 ((bo : Nat) : Int)), (9, .int .i64 ((k : Nat) : Int)), (12, .int .i64 ((n : Nat) : Int)), (13, .int .i64 ((k : Nat) : Int))]) k_ ?_
      refine RN.done k_ ?_
      refine KN.next ?_
      refine J.sreg ?_
      refine RN.bq (no 4) [0, 1, 2, 7, 8, 12, 13, 31, 32, 33, 34] [] (k' := 4) (l' := [(0, .slice (some ⟨b, o, none⟩) n cap), (1, sl s (toL v).length), (2, .int .u64 ((q : Nat) : Int)), (7, .int .u64 ((c + (q * 0) : Nat) : Int)), (8, .int .u32 ((bo : Nat) : Int)), (12, .int .i64 ((n : Nat) : Int)), (13, .int .i64 ((k : Nat) : Int)), (31, .slice (some ⟨b, o, none⟩) n cap), (32, .int .i64 ((k : Nat) : Int)), (33, .slice (some ⟨b, o, none⟩) n cap), (34, .int .i64 ((k : Nat) : Int))]) k_ ?_
      refine RN.val _ k_ k_ (q_oidxo (t := 23) (x := (.tmp 33)) (ix := (.tmp 34)) (b := b) (o := o) (n := n) (c := cap) (K := .i64) (i0 := ((k : Nat) : Int)) (m := k) (e := 82) k_ k_ k_ k_ k_ (by omega) x_) ?_
      refine RN.val _ k_ k_ (q_oload (mi := 0) (T := 82) (x := (.tmp 35)) (m := (o + k)) (xs := out) rfl k_ k_ k_ x_) ?_
      refine RN.bq (no 2) [0, 1, 2, 7, 8, 12, 13, 31, 32, 36, 38] [] (k' := 8) (l' := [(0, .slice (some ⟨b, o, none⟩) n cap), (1, sl s (toL v).length), (2, .int .u64 ((q : Nat) : Int)), (7, .int .u64 ((c + (q * 0) : Nat) : Int)), (8, .int .u32 ((bo : Nat) : Int)), (12, .int .i64 ((n : Nat) : Int)), (13, .int .i64 ((k : Nat) : Int)), (31, .slice (some ⟨b, o, none⟩) n cap), (32, .int .i64 ((k : Nat) : Int)), (36, .int .u32 ((out.getD (o + k) 0 : Nat) : Int)), (38, .int .u32 (IntKind.u32.wrap ((c + (q * 0) : Nat) : Int)))]) k_ ?_
      rw [show IntKind.u32.wrap ((c + (q * 0) : Nat) : Int) = (((c + (q * 0)) % 4294967296 : Nat) : Int) from uw32e (c + (q * 0)) (by rfl)]
      refine RN.bq (no 1) [0, 1, 2, 7, 12, 13, 31, 32, 36, 38, 39] [] (k' := 9) (l' := [(0, .slice (some ⟨b, o, none⟩) n cap), (1, sl s (toL v).length), (2, .int .u64 ((q : Nat) : Int)), (7, .int .u64 ((c + (q * 0) : Nat) : Int)), (12, .int .i64 ((n : Nat) : Int)), (13, .int .i64 ((k : Nat) : Int)), (31, .slice (some ⟨b, o, none⟩) n cap), (32, .int .i64 ((k : Nat) : Int)), (36, .int .u32 ((out.getD (o + k) 0 : Nat) : Int)), (38, .int .u32 (((c + (q * 0)) % 4294967296 : Nat) : Int)), (39, .int .u32 ((bo : Nat) : Int))]) k_ ?_
      refine RN.call (bits_Sub32 (out.getD (o + k) 0) ((c + (q * 0)) % 4294967296) bo y_natural_reduce y_natural_reduce y_natural_reduce) [] k_ k_ k_ rfl (fun y6 _ => ?_)
      refine RN.bq (no 3) [0, 1, 2, 7, 12, 13, 31, 32, 41, 42] [] (k' := 13) (l' := [(0, .slice (some ⟨b, o, none⟩) n cap), (1, sl s (toL v).length), (2, .int .u64 ((q : Nat) : Int)), (7, .int .u64 ((c + (q * 0) : Nat) : Int)), (12, .int .i64 ((n : Nat) : Int)), (13, .int .i64 ((k : Nat) : Int)), (31, .slice (some ⟨b, o, none⟩) n cap), (32, .int .i64 ((k : Nat) : Int)), (41, .int .u32 ((((out.getD (o + k) 0) + 4294967296 - ((c + (q * 0)) % 4294967296) - bo) % 4294967296 : Nat) : Int)), (42, .int .u32 ((if (out.getD (o + k) 0) < ((c + (q * 0)) % 4294967296) + bo then 1 else 0 : Nat) : Int))]) k_ ?_
      refine RN.val _ k_ k_ (q_oidxo (t := 23) (x := (.tmp 31)) (ix := (.tmp 32)) (b := b) (o := o) (n := n) (c := cap) (K := .i64) (i0 := ((k : Nat) : Int)) (m := k) (e := 82) k_ k_ k_ k_ k_ (by omega) x_) ?_
      refine RN.ot k_ k_ (ot_ustore (mi := 0) (T := 82) (x := (.tmp 43)) (y := (.tmp 41)) (b := b) (m := (o + k)) (xs := out) (v := ((((out.getD (o + k) 0) + 4294967296 - ((c + (q * 0)) % 4294967296) - bo) % 4294967296 : Nat) : Int)) (v0 := ((out.getD (o + k) 0) + 4294967296 - ((c + (q * 0)) % 4294967296) - bo) % 4294967296) rfl k_ k_ k_ k_ k_ (by omega) x_) (fun _ _ => ?_)
      refine RN.bq (no 1) [0, 1, 2, 7, 8, 12, 13] [] (k' := 16) (l' := [(0, .slice (some ⟨b, o, none⟩) n cap), (1, sl s (toL v).length), (2, .int .u64 ((q : Nat) : Int)), (7, .int .u64 ((c + (q * 0) : Nat) : Int)), (8, .int .u32 ((if (out.getD (o + k) 0) < ((c + (q * 0)) % 4294967296) + bo then 1 else 0 : Nat) : Int)), (12, .int .i64 ((n : Nat) : Int)), (13, .int .i64 ((k : Nat) : Int))]) k_ ?_
      refine RN.done k_ ?_
      refine KN.next ?_
      refine J.regN ?_
      refine RN.bq (no 2) [0, 1, 2, 8, 12, 13, 45] [] (k' := 2) (l' := [(0, .slice (some ⟨b, o, none⟩) n cap), (1, sl s (toL v).length), (2, .int .u64 ((q : Nat) : Int)), (8, .int .u32 ((if (out.getD (o + k) 0) < ((c + (q * 0)) % 4294967296) + bo then 1 else 0 : Nat) : Int)), (12, .int .i64 ((n : Nat) : Int)), (13, .int .i64 ((k : Nat) : Int)), (45, .int .u64 (Int.fdiv ((c + (q * 0) : Nat) : Int) (2 ^ 32)))]) k_ ?_
      rw [show Int.fdiv ((c + (q * 0) : Nat) : Int) (2 ^ 32) = (((c + (q * 0)) / 2 ^ 32 : Nat) : Int) from fdivn _ _]
      refine RN.bq (no 1) [0, 1, 2, 7, 8, 12, 13] [] (k' := 3) (l' := [(0, .slice (some ⟨b, o, none⟩) n cap), (1, sl s (toL v).length), (2, .int .u64 ((q : Nat) : Int)), (7, .int .u64 (((c + (q * 0)) / 2 ^ 32 : Nat) : Int)), (8, .int .u32 ((if (out.getD (o + k) 0) < ((c + (q * 0)) % 4294967296) + bo then 1 else 0 : Nat) : Int)), (12, .int .i64 ((n : Nat) : Int)), (13, .int .i64 ((k : Nat) : Int))]) k_ ?_
      refine RN.done k_ ?_
      refine KN.blk ?_
      refine KN.next ?_
      refine J.regN ?_
      refine RN.bq (no 1) [0, 1, 2, 7, 8, 12, 46] [] (k' := 1) (l' := [(0, .slice (some ⟨b, o, none⟩) n cap), (1, sl s (toL v).length), (2, .int .u64 ((q : Nat) : Int)), (7, .int .u64 (((c + (q * 0)) / 2 ^ 32 : Nat) : Int)), (8, .int .u32 ((if (out.getD (o + k) 0) < ((c + (q * 0)) % 4294967296) + bo then 1 else 0 : Nat) : Int)), (12, .int .i64 ((n : Nat) : Int)), (46, .int .i64 (IntKind.i64.wrap (((k : Nat) : Int) + 1)))]) k_ ?_
      rw [show IntKind.i64.wrap (((k : Nat) : Int) + 1) = ((k + 1 : Nat) : Int) from by rw [IntKind.wrap_i64]; omega]
      refine RN.bq (no 1) [0, 1, 2, 7, 8, 12, 13] [] (k' := 2) (l' := [(0, .slice (some ⟨b, o, none⟩) n cap), (1, sl s (toL v).length), (2, .int .u64 ((q : Nat) : Int)), (7, .int .u64 (((c + (q * 0)) / 2 ^ 32 : Nat) : Int)), (8, .int .u32 ((if (out.getD (o + k) 0) < ((c + (q * 0)) % 4294967296) + bo then 1 else 0 : Nat) : Int)), (12, .int .i64 ((n : Nat) : Int)), (13, .int .i64 ((k + 1 : Nat) : Int))]) k_ ?_
      refine RN.done k_ ?_
      refine KN.roundE (k + 1, out.set (o + k) (((out.getD (o + k) 0) + 4294967296 - ((c + (q * 0)) % 4294967296) - bo) % 4294967296), (c + (q * 0)) / 2 ^ 32, if (out.getD (o + k) 0) < ((c + (q * 0)) % 4294967296) + bo then 1 else 0) [0, 1, 2, 7, 8, 12, 13] [0] (l2 := [(0, .slice (some ⟨b, o, none⟩) n cap), (1, sl s (toL v).length), (2, .int .u64 ((q : Nat) : Int)), (7, .int .u64 (((c + (q * 0)) / 2 ^ 32 : Nat) : Int)), (8, .int .u32 ((if (out.getD (o + k) 0) < ((c + (q * 0)) % 4294967296) + bo then 1 else 0 : Nat) : Int)), (12, .int .i64 ((n : Nat) : Int)), (13, .int .i64 ((k + 1 : Nat) : Int))]) (by (try dsimp only); omega) (by (try dsimp only); exact ⟨by omega, hI2.step (Lb_toL v) (by omega) (by first | rfl | (rw [getD_ge (by omega)])) rfl⟩) k_ (by rfl) (by rfl) (by rfl)
  · skip
    replace c3 := of_decide_eq_false c3
    refine J.exit (KX.next (KX.next (KX.hit ?_)))
    refine KN.next ?_
    refine J.sreg ?_
    refine RN.bq (no 3) [6] [] (k' := 3) (l' := [(6, .bool ((((bo : Nat) : Int) : Int) != 0))]) k_ ?_
    refine RN.done k_ ?_
    refine KN.next ?_
    have e_1 : (((out, bo != 0) : List Nat × Bool).2) = ((((bo : Nat) : Int) : Int) != 0) := by rcases (show bo = 0 ∨ bo = 1 from (by omega)) with rfl | rfl <;> rfl
    refine J.ret (KR.retM (v := .bool ((((bo : Nat) : Int) : Int) != 0)) (((out, bo != 0) : List Nat × Bool)) [none] [] [] k_ v1_ (⟨hI3, hI2.2.1, fun i hi => hI2.2.2.1 i (by omega), by have := hI2.done (by omega) (Lb_toL v) hq; rw [lv_toL, show k = n from by omega] at this; rw [this]; rcases (show bo = 0 ∨ bo = 1 from (by omega)) with rfl | rfl <;> rfl⟩) v1_ v1_)
theorem natural_restore (b : Nat) (o : Nat) (n : Nat) (cap : Nat) (xs : List Nat) (s : SA) (v : Nat) (hL : Lb xs) (hn : o + n ≤ xs.length) (hlen : xs.length ≤ 2199023255552) (hvn : (toL v).length ≤ n) : SpecM Tryz.prog 149 #[.slice (some ⟨b, o, none⟩) n cap, sl s (toL v).length] [(b, .cells (encU xs) 82 (0, 0))] [fU s (toL v)] (ι := List Nat × Nat) (fun y => .tuple #[]) (fun y => y.1.length = xs.length ∧ Lb y.1 ∧ (∀ i, (i < o ∨ o + n ≤ i) → y.1.getD i 0 = xs.getD i 0) ∧ y.2 ≤ 1 ∧ svl y.1 o n + W ^ n * y.2 = svl xs o n + v) (fun y => [(b, .cells (encU y.1) 82 (0, 0))]) (fun y => []) := by
  refine SpecM.of_body _ (fn := Tryz.f149) k_ rfl k_ (fun X w0 => ?_)
  refine J.fact (φ := (toL v).length ≤ 140737488355328) (fun w h => by have := (h _ (.head _)).1; omega) (fun hl1 => ?_)
  refine J.sreg ?_
  refine RN.bq (no 1) [0, 1, 4] [] (k' := 1) (l' := [(0, .slice (some ⟨b, o, none⟩) n cap), (1, sl s (toL v).length), (4, .int .u32 0)]) k_ ?_
  refine RN.done k_ ?_
  refine KN.next ?_
  refine J.sreg ?_
  refine RN.bq (no 3) [0, 1, 4, 8, 9] [] (k' := 3) (l' := [(0, .slice (some ⟨b, o, none⟩) n cap), (1, sl s (toL v).length), (4, .int .u32 0), (8, .int .i64 ((n : Nat) : Int)), (9, .int .i64 0)]) k_ ?_
  refine RN.done k_ ?_
  refine KN.next ?_
  refine J.block ?_
  refine J.loop (ι := (Nat) × (List Nat) × (Nat)) (fun x => x.1 ≤ n ∧ ResI xs (toL v) o x.2.1 x.1 x.2.2) (fun x => n - x.1) (fun x => [(0, .slice (some ⟨b, o, none⟩) n cap), (1, sl s (toL v).length), (4, .int .u32 ((x.2.2 : Nat) : Int)), (8, .int .i64 ((n : Nat) : Int)), (9, .int .i64 ((x.1 : Nat) : Int))]) (fun x => [(b, .cells (encU x.2.1) 82 (0, 0))]) (fun x => [fU s (toL v)]) (0, xs, 0) [0, 1, 4, 8, 9] [0] (⟨Nat.zero_le _, ResI.start hL⟩) k_ (by first | rfl | (simp only [encQ_zero]; done) | (simp only [encQ_zero]; rfl)) (by rfl) (fun x2 hI => ?_)
  obtain ⟨k, out, c⟩ := x2
  replace hI : k ≤ n ∧ ResI xs (toL v) o out k c := hI
  obtain ⟨hI1, hI2⟩ := hI
  have hI3 := hI2.1
  have hI4 := hI2.2.2.2.1
  have hga : out.getD (o + k) 0 < 4294967296 := hI2.2.1.getD _
  have hgv : (toL v).getD k 0 < 4294967296 := (Lb_toL v).getD k
  refine J.sreg ?_
  refine RN.bq (no 1) [0, 1, 4, 8, 9, 10] [] (k' := 1) (l' := [(0, .slice (some ⟨b, o, none⟩) n cap), (1, sl s (toL v).length), (4, .int .u32 ((c : Nat) : Int)), (8, .int .i64 ((n : Nat) : Int)), (9, .int .i64 ((k : Nat) : Int)), (10, .bool (decide (((k : Nat) : Int) < ((n : Nat) : Int))))]) k_ ?_
  refine RN.done k_ ?_
  refine KN.next ?_
  refine J.seq ?_
  refine J.cond (decide (((k : Nat) : Int) < ((n : Nat) : Int))) k_ (fun c3 => ?_) (fun c3 => ?_)
  · skip
    replace c3 := of_decide_eq_true c3
    refine J.skip ?_
    refine KN.next ?_
    refine J.seq ?_
    refine J.block ?_
    refine J.sreg ?_
    refine RN.bq (no 2) [0, 1, 4, 5, 8, 9] [] (k' := 2) (l' := [(0, .slice (some ⟨b, o, none⟩) n cap), (1, sl s (toL v).length), (4, .int .u32 ((c : Nat) : Int)), (5, .int .i64 ((k : Nat) : Int)), (8, .int .i64 ((n : Nat) : Int)), (9, .int .i64 ((k : Nat) : Int))]) k_ ?_
    refine RN.done k_ ?_
    refine KN.next ?_
    refine J.sreg ?_
    refine RN.bq (no 1) [0, 1, 4, 5, 6, 8, 9] [] (k' := 1) (l' := [(0, .slice (some ⟨b, o, none⟩) n cap), (1, sl s (toL v).length), (4, .int .u32 ((c : Nat) : Int)), (5, .int .i64 ((k : Nat) : Int)), (6, .int .u32 0), (8, .int .i64 ((n : Nat) : Int)), (9, .int .i64 ((k : Nat) : Int))]) k_ ?_
    refine RN.done k_ ?_
    refine KN.next ?_
    refine J.seq ?_
    refine J.sreg ?_
    refine RN.bq (no 4) [0, 1, 4, 5, 6, 8, 9, 15] [] (k' := 4) (l' := [(0, .slice (some ⟨b, o, none⟩) n cap), (1, sl s (toL v).length), (4, .int .u32 ((c : Nat) : Int)), (5, .int .i64 ((k : Nat) : Int)), (6, .int .u32 0), (8, .int .i64 ((n : Nat) : Int)), (9, .int .i64 ((k : Nat) : Int)), (15, .bool (decide (((k : Nat) : Int) < (((toL v).length : Nat) : Int))))]) k_ ?_
    refine RN.done k_ ?_
    refine KN.next ?_
    refine J.cond (decide (((k : Nat) : Int) < (((toL v).length : Nat) : Int))) k_ (fun c4 => ?_) (fun c4 => ?_)
    · skip
      replace c4 := of_decide_eq_true c4
      refine J.regN ?_
      refine RN.bq (no 2) [0, 1, 4, 5, 8, 9, 16, 17] [] (k' := 2) (l' := [(0, .slice (some ⟨b, o, none⟩) n cap), (1, sl s (toL v).length), (4, .int .u32 ((c : Nat) : Int)), (5, .int .i64 ((k : Nat) : Int)), (8, .int .i64 ((n : Nat) : Int)), (9, .int .i64 ((k : Nat) : Int)), (16, sl s (toL v).length), (17, .int .i64 ((k : Nat) : Int))]) k_ ?_
      refine RN.val _ k_ k_ (q_uidx (t := 23) (x := (.tmp 16)) (ix := (.tmp 17)) (K := .i64) (i0 := ((k : Nat) : Int)) (m := k) (e := 82) 0 rfl k_ k_ k_ k_ k_ (by omega) x_) ?_
      refine RN.val _ k_ k_ (q_uload (T := 82) (x := (.tmp 18)) (m := k) (s := s) (xs := toL v) 0 rfl k_ k_ k_ x_) ?_
      refine RN.bq (no 1) [0, 1, 4, 5, 6, 8, 9] [] (k' := 5) (l' := [(0, .slice (some ⟨b, o, none⟩) n cap), (1, sl s (toL v).length), (4, .int .u32 ((c : Nat) : Int)), (5, .int .i64 ((k : Nat) : Int)), (6, .int .u32 (((toL v).getD k 0 : Nat) : Int)), (8, .int .i64 ((n : Nat) : Int)), (9, .int .i64 ((k : Nat) : Int))]) k_ ?_
      refine RN.done k_ ?_
      refine KN.next ?_
      refine J.regN ?_
      refine RN.bq (no 4) [0, 1, 4, 6, 8, 9, 21, 22, 23, 24] [] (k' := 4) (l' := [(0, .slice (some ⟨b, o, none⟩) n cap), (1, sl s (toL v).length), (4, .int .u32 ((c : Nat) : Int)), (6, .int .u32 (((toL v).getD k 0 : Nat) : Int)), (8, .int .i64 ((n : Nat) : Int)), (9, .int .i64 ((k : Nat) : Int)), (21, .slice (some ⟨b, o, none⟩) n cap), (22, .int .i64 ((k : Nat) : Int)), (23, .slice (some ⟨b, o, none⟩) n cap), (24, .int .i64 ((k : Nat) : Int))]) k_ ?_
      refine RN.val _ k_ k_ (q_oidxo (t := 23) (x := (.tmp 23)) (ix := (.tmp 24)) (b := b) (o := o) (n := n) (c := cap) (K := .i64) (i0 := ((k : Nat) : Int)) (m := k) (e := 82) k_ k_ k_ k_ k_ (by omega) x_) ?_
      refine RN.val _ k_ k_ (q_oload (mi := 0) (T := 82) (x := (.tmp 25)) (m := (o + k)) (xs := out) rfl k_ k_ k_ x_) ?_
      refine RN.bq (no 2) [0, 1, 8, 9, 21, 22, 26, 27, 28] [] (k' := 8) (l' := [(0, .slice (some ⟨b, o, none⟩) n cap), (1, sl s (toL v).length), (8, .int .i64 ((n : Nat) : Int)), (9, .int .i64 ((k : Nat) : Int)), (21, .slice (some ⟨b, o, none⟩) n cap), (22, .int .i64 ((k : Nat) : Int)), (26, .int .u32 ((out.getD (o + k) 0 : Nat) : Int)), (27, .int .u32 (((toL v).getD k 0 : Nat) : Int)), (28, .int .u32 ((c : Nat) : Int))]) k_ ?_
      refine RN.call (bits_Add32 (out.getD (o + k) 0) ((toL v).getD k 0) c y_ y_ y_) [] k_ k_ k_ rfl (fun y5 _ => ?_)
      refine RN.bq (no 3) [0, 1, 8, 9, 21, 22, 30, 31] [] (k' := 12) (l' := [(0, .slice (some ⟨b, o, none⟩) n cap), (1, sl s (toL v).length), (8, .int .i64 ((n : Nat) : Int)), (9, .int .i64 ((k : Nat) : Int)), (21, .slice (some ⟨b, o, none⟩) n cap), (22, .int .i64 ((k : Nat) : Int)), (30, .int .u32 ((((out.getD (o + k) 0) + ((toL v).getD k 0) + c) % 4294967296 : Nat) : Int)), (31, .int .u32 ((((out.getD (o + k) 0) + ((toL v).getD k 0) + c) / 4294967296 : Nat) : Int))]) k_ ?_
      refine RN.val _ k_ k_ (q_oidxo (t := 23) (x := (.tmp 21)) (ix := (.tmp 22)) (b := b) (o := o) (n := n) (c := cap) (K := .i64) (i0 := ((k : Nat) : Int)) (m := k) (e := 82) k_ k_ k_ k_ k_ (by omega) x_) ?_
      refine RN.ot k_ k_ (ot_ustore (mi := 0) (T := 82) (x := (.tmp 32)) (y := (.tmp 30)) (b := b) (m := (o + k)) (xs := out) (v := ((((out.getD (o + k) 0) + ((toL v).getD k 0) + c) % 4294967296 : Nat) : Int)) (v0 := ((out.getD (o + k) 0) + ((toL v).getD k 0) + c) % 4294967296) rfl k_ k_ k_ k_ k_ (by omega) x_) (fun _ _ => ?_)
      refine RN.bq (no 1) [0, 1, 4, 8, 9] [] (k' := 15) (l' := [(0, .slice (some ⟨b, o, none⟩) n cap), (1, sl s (toL v).length), (4, .int .u32 ((((out.getD (o + k) 0) + ((toL v).getD k 0) + c) / 4294967296 : Nat) : Int)), (8, .int .i64 ((n : Nat) : Int)), (9, .int .i64 ((k : Nat) : Int))]) k_ ?_
      refine RN.done k_ ?_
      refine KN.blk ?_
      refine KN.next ?_
      refine J.regN ?_
      refine RN.bq (no 1) [0, 1, 4, 8, 33] [] (k' := 1) (l' := [(0, .slice (some ⟨b, o, none⟩) n cap), (1, sl s (toL v).length), (4, .int .u32 ((((out.getD (o + k) 0) + ((toL v).getD k 0) + c) / 4294967296 : Nat) : Int)), (8, .int .i64 ((n : Nat) : Int)), (33, .int .i64 (IntKind.i64.wrap (((k : Nat) : Int) + 1)))]) k_ ?_
      rw [show IntKind.i64.wrap (((k : Nat) : Int) + 1) = ((k + 1 : Nat) : Int) from by rw [IntKind.wrap_i64]; omega]
      refine RN.bq (no 1) [0, 1, 4, 8, 9] [] (k' := 2) (l' := [(0, .slice (some ⟨b, o, none⟩) n cap), (1, sl s (toL v).length), (4, .int .u32 ((((out.getD (o + k) 0) + ((toL v).getD k 0) + c) / 4294967296 : Nat) : Int)), (8, .int .i64 ((n : Nat) : Int)), (9, .int .i64 ((k + 1 : Nat) : Int))]) k_ ?_
      refine RN.done k_ ?_
      refine KN.roundE (k + 1, out.set (o + k) (((out.getD (o + k) 0) + ((toL v).getD k 0) + c) % 4294967296), ((out.getD (o + k) 0) + ((toL v).getD k 0) + c) / 4294967296) [0, 1, 4, 8, 9] [0] (l2 := [(0, .slice (some ⟨b, o, none⟩) n cap), (1, sl s (toL v).length), (4, .int .u32 ((((out.getD (o + k) 0) + ((toL v).getD k 0) + c) / 4294967296 : Nat) : Int)), (8, .int .i64 ((n : Nat) : Int)), (9, .int .i64 ((k + 1 : Nat) : Int))]) (by (try dsimp only); omega) (by (try dsimp only); exact ⟨by omega, hI2.step (Lb_toL v) (by omega) (by first | rfl | (rw [getD_ge (by omega)])) rfl⟩) k_ (by rfl) (by rfl) (by rfl)
    · skip
      replace c4 := of_decide_eq_false c4
      refine J.skip ?_
      refine KN.next ?_
      refine J.regN ?_
      refine RN.bq (no 4) [0, 1, 4, 6, 8, 9, 21, 22, 23, 24] [] (k' := 4) (l' := [(0, .slice (some ⟨b, o, none⟩) n cap), (1, sl s (toL v).length), (4, .int .u32 ((c : Nat) : Int)), (6, .int .u32 0), (8, .int .i64 ((n : Nat) : Int)), (9, .int .i64 ((k : Nat) : Int)), (21, .slice (some ⟨b, o, none⟩) n cap), (22, .int .i64 ((k : Nat) : Int)), (23, .slice (some ⟨b, o, none⟩) n cap), (24, .int .i64 ((k : Nat) : Int))]) k_ ?_
      refine RN.val _ k_ k_ (q_oidxo (t := 23) (x := (.tmp 23)) (ix := (.tmp 24)) (b := b) (o := o) (n := n) (c := cap) (K := .i64) (i0 := ((k : Nat) : Int)) (m := k) (e := 82) k_ k_ k_ k_ k_ (by omega) x_) ?_
      refine RN.val _ k_ k_ (q_oload (mi := 0) (T := 82) (x := (.tmp 25)) (m := (o + k)) (xs := out) rfl k_ k_ k_ x_) ?_
      refine RN.bq (no 2) [0, 1, 8, 9, 21, 22, 26, 27, 28] [] (k' := 8) (l' := [(0, .slice (some ⟨b, o, none⟩) n cap), (1, sl s (toL v).length), (8, .int .i64 ((n : Nat) : Int)), (9, .int .i64 ((k : Nat) : Int)), (21, .slice (some ⟨b, o, none⟩) n cap), (22, .int .i64 ((k : Nat) : Int)), (26, .int .u32 ((out.getD (o + k) 0 : Nat) : Int)), (27, .int .u32 0), (28, .int .u32 ((c : Nat) : Int))]) k_ ?_
      refine RN.call (bits_Add32 (out.getD (o + k) 0) 0 c y_ y_ y_) [] k_ k_ k_ rfl (fun y6 _ => ?_)
      refine RN.bq (no 3) [0, 1, 8, 9, 21, 22, 30, 31] [] (k' := 12) (l' := [(0, .slice (some ⟨b, o, none⟩) n cap), (1, sl s (toL v).length), (8, .int .i64 ((n : Nat) : Int)), (9, .int .i64 ((k : Nat) : Int)), (21, .slice (some ⟨b, o, none⟩) n cap), (22, .int .i64 ((k : Nat) : Int)), (30, .int .u32 ((((out.getD (o + k) 0) + 0 + c) % 4294967296 : Nat) : Int)), (31, .int .u32 ((((out.getD (o + k) 0) + 0 + c) / 4294967296 : Nat) : Int))]) k_ ?_
      refine RN.val _ k_ k_ (q_oidxo (t := 23) (x := (.tmp 21)) (ix := (.tmp 22)) (b := b) (o := o) (n := n) (c := cap) (K := .i64) (i0 := ((k : Nat) : Int)) (m := k) (e := 82) k_ k_ k_ k_ k_ (by omega) x_) ?_
      refine RN.ot k_ k_ (ot_ustore (mi := 0) (T := 82) (x := (.tmp 32)) (y := (.tmp 30)) (b := b) (m := (o + k)) (xs := out) (v := ((((out.getD (o + k) 0) + 0 + c) % 4294967296 : Nat) : Int)) (v0 := ((out.getD (o + k) 0) + 0 + c) % 4294967296) rfl k_ k_ k_ k_ k_ (by omega) x_) (fun _ _ => ?_)
      refine RN.bq (no 1) [0, 1, 4, 8, 9] [] (k' := 15) (l' := [(0, .slice (some ⟨b, o, none⟩) n cap), (1, sl s (toL v).length), (4, .int .u32 ((((out.getD (o + k) 0) + 0 + c) / 4294967296 : Nat) : Int)), (8, .int .i64 ((n : Nat) : Int)), (9, .int .i64 ((k : Nat) : Int))]) k_ ?_
      refine RN.done k_ ?_
      refine KN.blk ?_
      refine KN.next ?_
      refine J.regN ?_
      refine RN.bq (no 1) [0, 1, 4, 8, 33] [] (k' := 1) (l' := [(0, .slice (some ⟨b, o, none⟩) n cap), (1, sl s (toL v).length), (4, .int .u32 ((((out.getD (o + k) 0) + 0 + c) / 4294967296 : Nat) : Int)), (8, .int .i64 ((n : Nat) : Int)), (33, .int .i64 (IntKind.i64.wrap (((k : Nat) : Int) + 1)))]) k_ ?_
      rw [show IntKind.i64.wrap (((k : Nat) : Int) + 1) = ((k + 1 : Nat) : Int) from by rw [IntKind.wrap_i64]; omega]
      refine RN.bq (no 1) [0, 1, 4, 8, 9] [] (k' := 2) (l' := [(0, .slice (some ⟨b, o, none⟩) n cap), (1, sl s (toL v).length), (4, .int .u32 ((((out.getD (o + k) 0) + 0 + c) / 4294967296 : Nat) : Int)), (8, .int .i64 ((n : Nat) : Int)), (9, .int .i64 ((k + 1 : Nat) : Int))]) k_ ?_
      refine RN.done k_ ?_
      refine KN.roundE (k + 1, out.set (o + k) (((out.getD (o + k) 0) + 0 + c) % 4294967296), ((out.getD (o + k) 0) + 0 + c) / 4294967296) [0, 1, 4, 8, 9] [0] (l2 := [(0, .slice (some ⟨b, o, none⟩) n cap), (1, sl s (toL v).length), (4, .int .u32 ((((out.getD (o + k) 0) + 0 + c) / 4294967296 : Nat) : Int)), (8, .int .i64 ((n : Nat) : Int)), (9, .int .i64 ((k + 1 : Nat) : Int))]) (by (try dsimp only); omega) (by (try dsimp only); exact ⟨by omega, hI2.step (Lb_toL v) (by omega) (by first | rfl | (rw [getD_ge (by omega)])) rfl⟩) k_ (by rfl) (by rfl) (by rfl)
  · skip
    replace c3 := of_decide_eq_false c3
    refine J.exit (KX.next (KX.next (KX.hit ?_)))
    refine KN.retM (v := .tuple #[]) (((out, c) : List Nat × Nat)) [] [] [] k_ rfl (⟨hI3, hI2.2.1, fun i hi => hI2.2.2.1 i (by omega), hI4, by have := hI2.done (by omega); rw [lv_toL, show k = n from by omega] at this; exact this⟩) rfl rfl
theorem y_natural_divide {p : Prop} (h : p := by first | assumption | exact Lb_toL _ | omega | (simp; done) | first | exact hv2 | exact hD.2.1 | exact hD.2.2.1 | exact hRd.1 | exact r2 | ((try simp); omega)) : p := h
theorem natural_divide (s : SA) (a : Nat) (t : SA) (b : Nat) (hb2 : 2 ≤ (toL b).length) (hab : (toL b).length ≤ (toL a).length) (hxl : (toL a).length ≤ 1099511627776) : Spec Tryz.prog 140 #[sl s (toL a).length, sl t (toL b).length] [fU s (toL a), fU t (toL b)] (ι := SA × SA) (fun y => .tuple #[sl y.1 (toL (a / b)).length, sl y.2 (toL (a % b)).length]) (fun y => True) (fun y => [fU y.1 (toL (a / b)), fU y.2 (toL (a % b))]) := by
  refine Spec.of_body _ (fn := Tryz.f140) k_ rfl k_ (fun X w0 => ?_)
  refine J.fact (φ := (toL a).length ≤ 140737488355328) (fun w h => by have := (h _ (.head _)).1; omega) (fun hl1 => ?_)
  refine J.fact (φ := (toL b).length ≤ 140737488355328) (fun w h => by have := (h _ (.tail _ ((.head _)))).1; omega) (fun hl2 => ?_)
  have hlb : (toL b).getD ((toL b).length - 1) 0 < 4294967296 := (Lb_toL b).getD _
  refine J.sreg ?_
  refine RN.bq (no 2) [0, 1] [] (k' := 2) (l' := [(0, sl s (toL a).length), (1, sl t (toL b).length)]) k_ ?_
  refine RN.done k_ ?_
  refine KN.next ?_
  refine J.sreg ?_
  refine RN.bq (no 4) [0, 1, 13, 16] [] (k' := 4) (l' := [(0, sl s (toL a).length), (1, sl t (toL b).length), (13, sl t (toL b).length), (16, .int .i64 (IntKind.i64.wrap ((((toL b).length : Nat) : Int) - 1)))]) k_ ?_
  rw [show IntKind.i64.wrap ((((toL b).length : Nat) : Int) - 1) = ((((toL b).length) - 1 : Nat) : Int) from by rw [IntKind.wrap_i64]; omega]
  refine RN.val _ k_ k_ (q_uidx (t := 23) (x := (.tmp 13)) (ix := (.tmp 16)) (K := .i64) (i0 := ((((toL b).length) - 1 : Nat) : Int)) (m := ((toL b).length) - 1) (e := 82) 1 rfl k_ k_ k_ k_ k_ (by omega) x_) ?_
  refine RN.val _ k_ k_ (q_uload (T := 82) (x := (.tmp 17)) (m := ((toL b).length) - 1) (s := t) (xs := toL b) 1 rfl k_ k_ k_ x_) ?_
  refine RN.call (bits_LeadingZeros32 ((toL b).getD (((toL b).length) - 1) 0) y_natural_divide) [] k_ k_ k_ rfl (fun y3 _ => ?_)
  obtain ⟨kk, hkk⟩ : ∃ z, z = 32 - bl ((toL b).getD ((toL b).length - 1) 0) := ⟨_, rfl⟩
  rw [show 32 - bl ((toL b).getD (((toL b).length) - 1) 0) = kk from hkk.symm]
  have hnl := norm_len (b := b) (n := (toL b).length - 1) (by omega) hkk
  obtain ⟨V, hV⟩ : ∃ V, V = b * 2 ^ kk := ⟨_, rfl⟩
  obtain ⟨A, hA⟩ : ∃ A, A = a * 2 ^ kk := ⟨_, rfl⟩
  rw [← hV] at hnl
  clear hkk hlb
  obtain ⟨hvl', hvt, hby⟩ := hnl
  have hvl : (toL V).length = (toL b).length := by omega
  have hvW : V < W ^ (toL b).length := lt_of_length (by omega)
  have hV0 : 0 < V := Nat.lt_of_lt_of_le (Nat.mul_pos (by decide) (Wpos _)) hvt
  refine RN.bq (no 4) [0, 1, 6, 7] [] (k' := 11) (l' := [(0, sl s (toL a).length), (1, sl t (toL b).length), (6, .int .i64 ((kk : Nat) : Int)), (7, .int .i64 (((toL b).length : Nat) : Int))]) k_ ?_
  refine RN.done k_ ?_
  refine KN.next ?_
  refine J.sreg ?_
  refine RN.bq (no 2) [0, 1, 6, 7, 22, 23] [] (k' := 2) (l' := [(0, sl s (toL a).length), (1, sl t (toL b).length), (6, .int .i64 ((kk : Nat) : Int)), (7, .int .i64 (((toL b).length : Nat) : Int)), (22, sl s (toL a).length), (23, .int .i64 ((kk : Nat) : Int))]) k_ ?_
  refine RN.callM (natural_shifted s a kk y_natural_divide y_natural_divide) [] ([]) [0] k_ k_ k_ rfl rfl (fun y1 h4 => ?_)
  obtain ⟨hu1, hu2, hu3⟩ := h4
  refine RN.bq (no 2) [0, 6, 7, 24, 25, 26] [] (k' := 5) (l' := [(0, sl s (toL a).length), (6, .int .i64 ((kk : Nat) : Int)), (7, .int .i64 (((toL b).length : Nat) : Int)), (24, .slice (some ⟨y1.1, 0, none⟩) ((toL a).length + 1) ((toL a).length + 1)), (25, sl t (toL b).length), (26, .int .i64 ((kk : Nat) : Int))]) k_ ?_
  refine RN.callM (natural_shifted t b kk y_natural_divide y_natural_divide) [] ([(y1.1, .cells (encU y1.2) 82 (0, 0))]) [1] k_ k_ k_ rfl rfl (fun y2 h5 => ?_)
  obtain ⟨hv1, hv2, hv3⟩ := h5
  refine RN.share 0 rfl rfl ?_
  refine RN.also (fU (⟨some ⟨y2.1, 0, none⟩, (toL b).length + 1⟩ : SA) y2.2) (fun w h => fU_own (h _ (.head _)) x_ x_) ?_
  refine RN.turn 27 (v := .slice (some ⟨y2.1, 0, none⟩) ((toL b).length + 1) ((toL b).length + 1)) (v' := sl (⟨some ⟨y2.1, 0, none⟩, (toL b).length + 1⟩ : SA) y2.2.length) k_ (sl_eq x_) ?_
  refine RN.call (natural_trimmed (⟨some ⟨y2.1, 0, none⟩, (toL b).length + 1⟩ : SA) y2.2 y_natural_divide) [0] k_ k_ k_ rfl (fun y6 _ => ?_)
  rw [show toL (lv y2.2) = (toL V) from by rw [hv3, ← hV]]
  refine RN.bq (no 2) [0, 6, 7, 8, 9] [] (k' := 9) (l' := [(0, sl s (toL a).length), (6, .int .i64 ((kk : Nat) : Int)), (7, .int .i64 (((toL b).length : Nat) : Int)), (8, .slice (some ⟨y1.1, 0, none⟩) ((toL a).length + 1) ((toL a).length + 1)), (9, sl y6 (toL V).length)]) k_ ?_
  refine RN.done k_ ?_
  refine KN.next ?_
  refine J.sreg ?_
  refine RN.bq (no 4) [6, 7, 8, 9, 32] [] (k' := 4) (l' := [(6, .int .i64 ((kk : Nat) : Int)), (7, .int .i64 (((toL b).length : Nat) : Int)), (8, .slice (some ⟨y1.1, 0, none⟩) ((toL a).length + 1) ((toL a).length + 1)), (9, sl y6 (toL V).length), (32, .int .i64 (IntKind.i64.wrap ((((toL a).length : Nat) : Int) - (((toL b).length : Nat) : Int))))]) k_ ?_
  rw [show IntKind.i64.wrap ((((toL a).length : Nat) : Int) - (((toL b).length : Nat) : Int)) = ((((toL a).length) - ((toL b).length) : Nat) : Int) from by rw [IntKind.wrap_i64]; omega]
  refine RN.bq (no 1) [6, 7, 8, 9, 33] [] (k' := 5) (l' := [(6, .int .i64 ((kk : Nat) : Int)), (7, .int .i64 (((toL b).length : Nat) : Int)), (8, .slice (some ⟨y1.1, 0, none⟩) ((toL a).length + 1) ((toL a).length + 1)), (9, sl y6 (toL V).length), (33, .int .i64 (IntKind.i64.wrap (((((toL a).length) - ((toL b).length) : Nat) : Int) + 1)))]) k_ ?_
  rw [show IntKind.i64.wrap (((((toL a).length) - ((toL b).length) : Nat) : Int) + 1) = (((((toL a).length) - ((toL b).length)) + 1 : Nat) : Int) from by rw [IntKind.wrap_i64]; omega]
  refine RN.make (e := 0) (m := ((((toL a).length) - ((toL b).length)) + 1)) (.cells (encU (List.replicate ((((toL a).length) - ((toL b).length)) + 1) 0)) 82 (0, 0)) k_ k_ (fun w => (q_make1 (t := 23) (m := ((((toL a).length) - ((toL b).length)) + 1)) (by_ := 4) (K := .i64) (K' := .i64) (n1 := (((((toL a).length) - ((toL b).length)) + 1 : Nat) : Int)) (n2 := (((((toL a).length) - ((toL b).length)) + 1 : Nat) : Int)) (x := (.tmp 33)) (y := (.tmp 33)) (e := 82) k_ k_ k_ (by omega) (by omega) k_ k_ rfl (by omega) (by omega) w).trans (by rw [encU_rep])) (fun b7 => ?_)
  refine RN.bq (no 1) [4, 6, 7, 8, 9] [] (k' := 7) (l' := [(4, .slice (some ⟨b7, 0, none⟩) ((((toL a).length) - ((toL b).length)) + 1) ((((toL a).length) - ((toL b).length)) + 1)), (6, .int .i64 ((kk : Nat) : Int)), (7, .int .i64 (((toL b).length : Nat) : Int)), (8, .slice (some ⟨y1.1, 0, none⟩) ((toL a).length + 1) ((toL a).length + 1)), (9, sl y6 (toL V).length)]) k_ ?_
  refine RN.done k_ ?_
  refine KN.next ?_
  refine J.seq ?_
  refine J.sreg ?_
  refine RN.bq (no 3) [4, 6, 7, 8, 9, 37] [] (k' := 3) (l' := [(4, .slice (some ⟨b7, 0, none⟩) ((((toL a).length) - ((toL b).length)) + 1) ((((toL a).length) - ((toL b).length)) + 1)), (6, .int .i64 ((kk : Nat) : Int)), (7, .int .i64 (((toL b).length : Nat) : Int)), (8, .slice (some ⟨y1.1, 0, none⟩) ((toL a).length + 1) ((toL a).length + 1)), (9, sl y6 (toL V).length), (37, .int .i64 (IntKind.i64.wrap ((((((toL a).length) - ((toL b).length)) + 1 : Nat) : Int) - 1)))]) k_ ?_
  rw [show IntKind.i64.wrap ((((((toL a).length) - ((toL b).length)) + 1 : Nat) : Int) - 1) = ((((((toL a).length) - ((toL b).length)) + 1 : Nat) : Int) - 1) from by rw [IntKind.wrap_i64]; omega]
  refine RN.bq (no 1) [4, 6, 7, 8, 9, 10] [] (k' := 4) (l' := [(4, .slice (some ⟨b7, 0, none⟩) ((((toL a).length) - ((toL b).length)) + 1) ((((toL a).length) - ((toL b).length)) + 1)), (6, .int .i64 ((kk : Nat) : Int)), (7, .int .i64 (((toL b).length : Nat) : Int)), (8, .slice (some ⟨y1.1, 0, none⟩) ((toL a).length + 1) ((toL a).length + 1)), (9, sl y6 (toL V).length), (10, .int .i64 ((((((toL a).length) - ((toL b).length)) + 1 : Nat) : Int) - 1))]) k_ ?_
  refine RN.done k_ ?_
  refine KN.next ?_
  refine J.block ?_
  refine J.loop (ι := (Nat) × (List Nat) × (List Nat)) (fun x => DivI A V (toL b).length (toL a).length x.2.1 x.2.2 x.1) (fun x => x.1) (fun x => [(4, .slice (some ⟨b7, 0, none⟩) ((((toL a).length) - ((toL b).length)) + 1) ((((toL a).length) - ((toL b).length)) + 1)), (6, .int .i64 ((kk : Nat) : Int)), (7, .int .i64 (((toL b).length : Nat) : Int)), (8, .slice (some ⟨y1.1, 0, none⟩) ((toL a).length + 1) ((toL a).length + 1)), (9, sl y6 (toL V).length), (10, .int .i64 ((x.1 : Int) - 1))]) (fun x => [(b7, .cells (encU x.2.2) 82 (0, 0)), (y1.1, .cells (encU x.2.1) 82 (0, 0))]) (fun x => [fU y6 (toL V), fU (⟨some ⟨y2.1, 0, none⟩, (toL b).length + 1⟩ : SA) y2.2, fBlk y2.1 (.cells (encU y2.2) 82 (0, 0)), fU s (toL a), fU t (toL b)]) ((toL a).length - (toL b).length + 1, y1.2, List.replicate ((((toL a).length) - ((toL b).length)) + 1) 0) [4, 6, 7, 8, 9, 10] [0, 1, 2, 3, 4] (by rw [hA, hV]; exact DivI.start rfl (by omega) hab hu1 hu2 hu3) k_ (by first | rfl | (simp only [encQ_zero]; done) | (simp only [encQ_zero]; rfl)) (by rfl) (fun x8 hD => ?_)
  obtain ⟨m, u, q⟩ := x8
  replace hD : DivI A V (toL b).length (toL a).length u q m := hD
  have hu := hD.1
  have hqL := hD.2.2.2.1
  have hmle := hD.2.2.2.2.1
  refine J.seq ?_
  refine J.sreg ?_
  refine RN.bq (no 2) [4, 6, 7, 8, 9, 10, 39] [] (k' := 2) (l' := [(4, .slice (some ⟨b7, 0, none⟩) ((((toL a).length) - ((toL b).length)) + 1) ((((toL a).length) - ((toL b).length)) + 1)), (6, .int .i64 ((kk : Nat) : Int)), (7, .int .i64 (((toL b).length : Nat) : Int)), (8, .slice (some ⟨y1.1, 0, none⟩) ((toL a).length + 1) ((toL a).length + 1)), (9, sl y6 (toL V).length), (10, .int .i64 ((m : Int) - 1)), (39, .bool (decide (((m : Int) - 1) ≥ 0)))]) k_ ?_
  refine RN.done k_ ?_
  refine KN.next ?_
  refine J.cond (decide (((m : Int) - 1) ≥ 0)) k_ (fun c9 => ?_) (fun c9 => ?_)
  · skip
    replace c9 := of_decide_eq_true c9
    have hm0 : 0 < m := by omega
    obtain ⟨hp1, hp2, hp3, hp4⟩ := hD.parts hvl hb2 hvt hm0
    have hg1 : u.getD (m - 1 + (toL b).length - 1) 0 < 4294967296 := hD.2.1.getD _
    have hg2 : u.getD (m - 1 + (toL b).length - 2) 0 < 4294967296 := hD.2.1.getD _
    have hg3 : (toL V).getD ((toL b).length - 1) 0 < 4294967296 := (Lb_toL _).getD _
    have hg4 : (toL V).getD ((toL b).length - 2) 0 < 4294967296 := (Lb_toL _).getD _
    rw [show (m : Int) - 1 = ((m - 1 : Nat) : Int) from by omega]
    refine J.skip ?_
    refine KN.next ?_
    refine J.seq ?_
    refine J.block ?_
    refine J.seq ?_
    refine J.regD k_ [] ?_
    refine RD.bat k_ [(0, none), (1, none), (2, none), (3, none)] [4, 6, 7, 8, 9, 10, 42, 45] [] (L' := [3, 2, 1, 0]) (l' := [(4, .slice (some ⟨b7, 0, none⟩) ((((toL a).length) - ((toL b).length)) + 1) ((((toL a).length) - ((toL b).length)) + 1)), (6, .int .i64 ((kk : Nat) : Int)), (7, .int .i64 (((toL b).length : Nat) : Int)), (8, .slice (some ⟨y1.1, 0, none⟩) ((toL a).length + 1) ((toL a).length + 1)), (9, sl y6 (toL V).length), (10, .int .i64 ((m - 1 : Nat) : Int)), (42, .slice (some ⟨y1.1, 0, none⟩) ((toL a).length + 1) ((toL a).length + 1)), (45, .int .i64 (IntKind.i64.wrap (((m - 1 : Nat) : Int) + (((toL b).length : Nat) : Int))))]) k_ ?_
    rw [show IntKind.i64.wrap (((m - 1 : Nat) : Int) + (((toL b).length : Nat) : Int)) = (((m - 1) + ((toL b).length) : Nat) : Int) from by rw [IntKind.wrap_i64]; omega]
    refine RD.bat k_ [(6, none), (7, none), (8, none), (9, none)] [4, 6, 7, 8, 9, 10, 42, 45, 48, 51] [] (L' := [9, 8, 7, 6, 3, 2, 1, 0]) (l' := [(4, .slice (some ⟨b7, 0, none⟩) ((((toL a).length) - ((toL b).length)) + 1) ((((toL a).length) - ((toL b).length)) + 1)), (6, .int .i64 ((kk : Nat) : Int)), (7, .int .i64 (((toL b).length : Nat) : Int)), (8, .slice (some ⟨y1.1, 0, none⟩) ((toL a).length + 1) ((toL a).length + 1)), (9, sl y6 (toL V).length), (10, .int .i64 ((m - 1 : Nat) : Int)), (42, .slice (some ⟨y1.1, 0, none⟩) ((toL a).length + 1) ((toL a).length + 1)), (45, .int .i64 (((m - 1) + ((toL b).length) : Nat) : Int)), (48, .slice (some ⟨y1.1, 0, none⟩) ((toL a).length + 1) ((toL a).length + 1)), (51, .int .i64 (IntKind.i64.wrap (((m - 1 : Nat) : Int) + (((toL b).length : Nat) : Int))))]) k_ ?_
    rw [show IntKind.i64.wrap (((m - 1 : Nat) : Int) + (((toL b).length : Nat) : Int)) = (((m - 1) + ((toL b).length) : Nat) : Int) from by rw [IntKind.wrap_i64]; omega]
    refine RD.bat k_ [(10, none)] [4, 6, 7, 8, 9, 10, 42, 45, 48, 52] [] (L' := [10, 9, 8, 7, 6, 3, 2, 1, 0]) (l' := [(4, .slice (some ⟨b7, 0, none⟩) ((((toL a).length) - ((toL b).length)) + 1) ((((toL a).length) - ((toL b).length)) + 1)), (6, .int .i64 ((kk : Nat) : Int)), (7, .int .i64 (((toL b).length : Nat) : Int)), (8, .slice (some ⟨y1.1, 0, none⟩) ((toL a).length + 1) ((toL a).length + 1)), (9, sl y6 (toL V).length), (10, .int .i64 ((m - 1 : Nat) : Int)), (42, .slice (some ⟨y1.1, 0, none⟩) ((toL a).length + 1) ((toL a).length + 1)), (45, .int .i64 (((m - 1) + ((toL b).length) : Nat) : Int)), (48, .slice (some ⟨y1.1, 0, none⟩) ((toL a).length + 1) ((toL a).length + 1)), (52, .int .i64 (IntKind.i64.wrap ((((m - 1) + ((toL b).length) : Nat) : Int) - 1)))]) k_ ?_
    rw [show IntKind.i64.wrap ((((m - 1) + ((toL b).length) : Nat) : Int) - 1) = ((((m - 1) + ((toL b).length)) - 1 : Nat) : Int) from by rw [IntKind.wrap_i64]; omega]
    refine RD.bat k_ [(13, none), (14, none), (15, none), (16, none)] [4, 6, 7, 8, 9, 10, 42, 45, 48, 52, 55, 58] [] (L' := [16, 15, 14, 13, 10, 9, 8, 7, 6, 3, 2, 1, 0]) (l' := [(4, .slice (some ⟨b7, 0, none⟩) ((((toL a).length) - ((toL b).length)) + 1) ((((toL a).length) - ((toL b).length)) + 1)), (6, .int .i64 ((kk : Nat) : Int)), (7, .int .i64 (((toL b).length : Nat) : Int)), (8, .slice (some ⟨y1.1, 0, none⟩) ((toL a).length + 1) ((toL a).length + 1)), (9, sl y6 (toL V).length), (10, .int .i64 ((m - 1 : Nat) : Int)), (42, .slice (some ⟨y1.1, 0, none⟩) ((toL a).length + 1) ((toL a).length + 1)), (45, .int .i64 (((m - 1) + ((toL b).length) : Nat) : Int)), (48, .slice (some ⟨y1.1, 0, none⟩) ((toL a).length + 1) ((toL a).length + 1)), (52, .int .i64 ((((m - 1) + ((toL b).length)) - 1 : Nat) : Int)), (55, .slice (some ⟨y1.1, 0, none⟩) ((toL a).length + 1) ((toL a).length + 1)), (58, .int .i64 (IntKind.i64.wrap (((m - 1 : Nat) : Int) + (((toL b).length : Nat) : Int))))]) k_ ?_
    rw [show IntKind.i64.wrap (((m - 1 : Nat) : Int) + (((toL b).length : Nat) : Int)) = (((m - 1) + ((toL b).length) : Nat) : Int) from by rw [IntKind.wrap_i64]; omega]
    refine RD.bat k_ [(17, none)] [4, 6, 7, 8, 9, 10, 42, 45, 48, 52, 55, 59] [] (L' := [17, 16, 15, 14, 13, 10, 9, 8, 7, 6, 3, 2, 1, 0]) (l' := [(4, .slice (some ⟨b7, 0, none⟩) ((((toL a).length) - ((toL b).length)) + 1) ((((toL a).length) - ((toL b).length)) + 1)), (6, .int .i64 ((kk : Nat) : Int)), (7, .int .i64 (((toL b).length : Nat) : Int)), (8, .slice (some ⟨y1.1, 0, none⟩) ((toL a).length + 1) ((toL a).length + 1)), (9, sl y6 (toL V).length), (10, .int .i64 ((m - 1 : Nat) : Int)), (42, .slice (some ⟨y1.1, 0, none⟩) ((toL a).length + 1) ((toL a).length + 1)), (45, .int .i64 (((m - 1) + ((toL b).length) : Nat) : Int)), (48, .slice (some ⟨y1.1, 0, none⟩) ((toL a).length + 1) ((toL a).length + 1)), (52, .int .i64 ((((m - 1) + ((toL b).length)) - 1 : Nat) : Int)), (55, .slice (some ⟨y1.1, 0, none⟩) ((toL a).length + 1) ((toL a).length + 1)), (59, .int .i64 (IntKind.i64.wrap ((((m - 1) + ((toL b).length) : Nat) : Int) - 2)))]) k_ ?_
    rw [show IntKind.i64.wrap ((((m - 1) + ((toL b).length) : Nat) : Int) - 2) = ((((m - 1) + ((toL b).length)) - 2 : Nat) : Int) from by rw [IntKind.wrap_i64]; omega]
    refine RD.bat k_ [(20, none), (21, none), (22, none)] [4, 6, 7, 8, 9, 10, 42, 45, 48, 52, 55, 59, 62, 64] [] (L' := [22, 21, 20, 17, 16, 15, 14, 13, 10, 9, 8, 7, 6, 3, 2, 1, 0]) (l' := [(4, .slice (some ⟨b7, 0, none⟩) ((((toL a).length) - ((toL b).length)) + 1) ((((toL a).length) - ((toL b).length)) + 1)), (6, .int .i64 ((kk : Nat) : Int)), (7, .int .i64 (((toL b).length : Nat) : Int)), (8, .slice (some ⟨y1.1, 0, none⟩) ((toL a).length + 1) ((toL a).length + 1)), (9, sl y6 (toL V).length), (10, .int .i64 ((m - 1 : Nat) : Int)), (42, .slice (some ⟨y1.1, 0, none⟩) ((toL a).length + 1) ((toL a).length + 1)), (45, .int .i64 (((m - 1) + ((toL b).length) : Nat) : Int)), (48, .slice (some ⟨y1.1, 0, none⟩) ((toL a).length + 1) ((toL a).length + 1)), (52, .int .i64 ((((m - 1) + ((toL b).length)) - 1 : Nat) : Int)), (55, .slice (some ⟨y1.1, 0, none⟩) ((toL a).length + 1) ((toL a).length + 1)), (59, .int .i64 ((((m - 1) + ((toL b).length)) - 2 : Nat) : Int)), (62, sl y6 (toL V).length), (64, .int .i64 (IntKind.i64.wrap ((((toL b).length : Nat) : Int) - 1)))]) k_ ?_
    rw [show IntKind.i64.wrap ((((toL b).length : Nat) : Int) - 1) = ((((toL b).length) - 1 : Nat) : Int) from by rw [IntKind.wrap_i64]; omega]
    refine RD.bat k_ [(25, none), (26, none), (27, none)] [4, 6, 7, 8, 9, 10, 42, 45, 48, 52, 55, 59, 62, 64, 67, 69] [] (L' := [27, 26, 25, 22, 21, 20, 17, 16, 15, 14, 13, 10, 9, 8, 7, 6, 3, 2, 1, 0]) (l' := [(4, .slice (some ⟨b7, 0, none⟩) ((((toL a).length) - ((toL b).length)) + 1) ((((toL a).length) - ((toL b).length)) + 1)), (6, .int .i64 ((kk : Nat) : Int)), (7, .int .i64 (((toL b).length : Nat) : Int)), (8, .slice (some ⟨y1.1, 0, none⟩) ((toL a).length + 1) ((toL a).length + 1)), (9, sl y6 (toL V).length), (10, .int .i64 ((m - 1 : Nat) : Int)), (42, .slice (some ⟨y1.1, 0, none⟩) ((toL a).length + 1) ((toL a).length + 1)), (45, .int .i64 (((m - 1) + ((toL b).length) : Nat) : Int)), (48, .slice (some ⟨y1.1, 0, none⟩) ((toL a).length + 1) ((toL a).length + 1)), (52, .int .i64 ((((m - 1) + ((toL b).length)) - 1 : Nat) : Int)), (55, .slice (some ⟨y1.1, 0, none⟩) ((toL a).length + 1) ((toL a).length + 1)), (59, .int .i64 ((((m - 1) + ((toL b).length)) - 2 : Nat) : Int)), (62, sl y6 (toL V).length), (64, .int .i64 ((((toL b).length) - 1 : Nat) : Int)), (67, sl y6 (toL V).length), (69, .int .i64 (IntKind.i64.wrap ((((toL b).length : Nat) : Int) - 2)))]) k_ ?_
    rw [show IntKind.i64.wrap ((((toL b).length : Nat) : Int) - 2) = ((((toL b).length) - 2 : Nat) : Int) from by rw [IntKind.wrap_i64]; omega]
    refine RD.val (i := 4) _ k_ k_ k_ (q_oidx (t := 23) (x := (.tmp 42)) (ix := (.tmp 45)) (b := y1.1) (n := ((toL a).length + 1)) (c := ((toL a).length + 1)) (K := .i64) (i0 := (((m - 1) + ((toL b).length) : Nat) : Int)) (m := (m - 1) + ((toL b).length)) (e := 82) (sz := 1) k_ k_ k_ k_ k_ (by omega) x_) ?_
    refine RD.val (i := 5) _ k_ k_ k_ (q_oload (mi := 1) (T := 82) (x := (.tmp 46)) (m := (m - 1) + ((toL b).length)) (xs := u) rfl k_ k_ k_ x_) ?_
    refine RD.val (i := 11) _ k_ k_ k_ (q_oidx (t := 23) (x := (.tmp 48)) (ix := (.tmp 52)) (b := y1.1) (n := ((toL a).length + 1)) (c := ((toL a).length + 1)) (K := .i64) (i0 := ((((m - 1) + ((toL b).length)) - 1 : Nat) : Int)) (m := ((m - 1) + ((toL b).length)) - 1) (e := 82) (sz := 1) k_ k_ k_ k_ k_ (by omega) x_) ?_
    refine RD.val (i := 12) _ k_ k_ k_ (q_oload (mi := 1) (T := 82) (x := (.tmp 53)) (m := ((m - 1) + ((toL b).length)) - 1) (xs := u) rfl k_ k_ k_ x_) ?_
    refine RD.val (i := 18) _ k_ k_ k_ (q_oidx (t := 23) (x := (.tmp 55)) (ix := (.tmp 59)) (b := y1.1) (n := ((toL a).length + 1)) (c := ((toL a).length + 1)) (K := .i64) (i0 := ((((m - 1) + ((toL b).length)) - 2 : Nat) : Int)) (m := ((m - 1) + ((toL b).length)) - 2) (e := 82) (sz := 1) k_ k_ k_ k_ k_ (by omega) x_) ?_
    refine RD.val (i := 19) _ k_ k_ k_ (q_oload (mi := 1) (T := 82) (x := (.tmp 60)) (m := ((m - 1) + ((toL b).length)) - 2) (xs := u) rfl k_ k_ k_ x_) ?_
    refine RD.val (i := 23) _ k_ k_ k_ (q_uidx (t := 23) (x := (.tmp 62)) (ix := (.tmp 64)) (K := .i64) (i0 := ((((toL b).length) - 1 : Nat) : Int)) (m := ((toL b).length) - 1) (e := 82) 0 rfl k_ k_ k_ k_ k_ (by omega) x_) ?_
    refine RD.val (i := 24) _ k_ k_ k_ (q_uload (T := 82) (x := (.tmp 65)) (m := ((toL b).length) - 1) (s := y6) (xs := toL V) 0 rfl k_ k_ k_ x_) ?_
    refine RD.val (i := 28) _ k_ k_ k_ (q_uidx (t := 23) (x := (.tmp 67)) (ix := (.tmp 69)) (K := .i64) (i0 := ((((toL b).length) - 2 : Nat) : Int)) (m := ((toL b).length) - 2) (e := 82) 0 rfl k_ k_ k_ k_ k_ (by omega) x_) ?_
    refine RD.val (i := 29) _ k_ k_ k_ (q_uload (T := 82) (x := (.tmp 70)) (m := ((toL b).length) - 2) (s := y6) (xs := toL V) 0 rfl k_ k_ k_ x_) ?_
    refine RD.call (i := 30) (natural_guess (u.getD ((m - 1) + ((toL b).length)) 0) (u.getD (((m - 1) + ((toL b).length)) - 1) 0) (u.getD (((m - 1) + ((toL b).length)) - 2) 0) ((toL V).getD (((toL b).length) - 1) 0) ((toL V).getD (((toL b).length) - 2) 0) y_natural_divide y_natural_divide y_natural_divide y_natural_divide y_natural_divide y_natural_divide) [] k_ k_ k_ k_ k_ rfl (fun y10 _ => ?_)
    obtain ⟨x, hx⟩ : ∃ x, x = min (((u.getD (m - 1 + (toL b).length) 0 * 4294967296 + u.getD (m - 1 + (toL b).length - 1) 0) * 4294967296 + u.getD (m - 1 + (toL b).length - 2) 0) / ((toL V).getD ((toL b).length - 1) 0 * 4294967296 + (toL V).getD ((toL b).length - 2) 0)) 4294967295 := ⟨_, rfl⟩
    rw [show min ((((u.getD ((m - 1) + ((toL b).length)) 0) * 4294967296 + (u.getD (((m - 1) + ((toL b).length)) - 1) 0)) * 4294967296 + (u.getD (((m - 1) + ((toL b).length)) - 2) 0)) / (((toL V).getD (((toL b).length) - 1) 0) * 4294967296 + ((toL V).getD (((toL b).length) - 2) 0))) 4294967295 = x from hx.symm]
    obtain ⟨hx1, hx2, hx4⟩ := hp4 x hx
    have hx3 : x ≤ 4294967295 := by rw [hx]; exact Nat.min_le_right _ _
    clear hx hp4
    refine RD.bat k_ [(31, none)] [4, 6, 7, 8, 9, 10, 11] [] (L' := [31, 30, 29, 28, 24, 23, 19, 18, 12, 11, 5, 4, 27, 26, 25, 22, 21, 20, 17, 16, 15, 14, 13, 10, 9, 8, 7, 6, 3, 2, 1, 0]) (l' := [(4, .slice (some ⟨b7, 0, none⟩) ((((toL a).length) - ((toL b).length)) + 1) ((((toL a).length) - ((toL b).length)) + 1)), (6, .int .i64 ((kk : Nat) : Int)), (7, .int .i64 (((toL b).length : Nat) : Int)), (8, .slice (some ⟨y1.1, 0, none⟩) ((toL a).length + 1) ((toL a).length + 1)), (9, sl y6 (toL V).length), (10, .int .i64 ((m - 1 : Nat) : Int)), (11, .int .u64 ((x : Nat) : Int))]) k_ ?_
    refine RD.done k_ ?_
    refine KN.next ?_
    refine J.seq ?_
    refine J.sreg ?_
    refine RN.bq (no 5) [4, 6, 7, 8, 9, 10, 11, 73, 74, 77] [] (k' := 5) (l' := [(4, .slice (some ⟨b7, 0, none⟩) ((((toL a).length) - ((toL b).length)) + 1) ((((toL a).length) - ((toL b).length)) + 1)), (6, .int .i64 ((kk : Nat) : Int)), (7, .int .i64 (((toL b).length : Nat) : Int)), (8, .slice (some ⟨y1.1, 0, none⟩) ((toL a).length + 1) ((toL a).length + 1)), (9, sl y6 (toL V).length), (10, .int .i64 ((m - 1 : Nat) : Int)), (11, .int .u64 ((x : Nat) : Int)), (73, .slice (some ⟨y1.1, 0, none⟩) ((toL a).length + 1) ((toL a).length + 1)), (74, .int .i64 ((m - 1 : Nat) : Int)), (77, .int .i64 (IntKind.i64.wrap (((m - 1 : Nat) : Int) + (((toL b).length : Nat) : Int))))]) k_ ?_
    rw [show IntKind.i64.wrap (((m - 1 : Nat) : Int) + (((toL b).length : Nat) : Int)) = (((m - 1) + ((toL b).length) : Nat) : Int) from by rw [IntKind.wrap_i64]; omega]
    refine RN.bq (no 1) [4, 6, 7, 8, 9, 10, 11, 73, 74, 78] [] (k' := 6) (l' := [(4, .slice (some ⟨b7, 0, none⟩) ((((toL a).length) - ((toL b).length)) + 1) ((((toL a).length) - ((toL b).length)) + 1)), (6, .int .i64 ((kk : Nat) : Int)), (7, .int .i64 (((toL b).length : Nat) : Int)), (8, .slice (some ⟨y1.1, 0, none⟩) ((toL a).length + 1) ((toL a).length + 1)), (9, sl y6 (toL V).length), (10, .int .i64 ((m - 1 : Nat) : Int)), (11, .int .u64 ((x : Nat) : Int)), (73, .slice (some ⟨y1.1, 0, none⟩) ((toL a).length + 1) ((toL a).length + 1)), (74, .int .i64 ((m - 1 : Nat) : Int)), (78, .int .i64 (IntKind.i64.wrap ((((m - 1) + ((toL b).length) : Nat) : Int) + 1)))]) k_ ?_
    rw [show IntKind.i64.wrap ((((m - 1) + ((toL b).length) : Nat) : Int) + 1) = ((((m - 1) + ((toL b).length)) + 1 : Nat) : Int) from by rw [IntKind.wrap_i64]; omega]
    refine RN.val _ k_ k_ (q_oslice (t := 23) (x := (.tmp 73)) (lo := (m - 1)) (hi := (((m - 1) + ((toL b).length)) + 1)) (b := y1.1) (n := ((toL a).length + 1)) (c := ((toL a).length + 1)) (e := 82) ((toL b).length + 1) k_ k_ (.inr ⟨(.tmp 74), .i64, ((m - 1 : Nat) : Int), rfl, by kernel_rfl, by omega⟩) (.inr ⟨(.tmp 78), .i64, ((((m - 1) + ((toL b).length)) + 1 : Nat) : Int), rfl, by kernel_rfl, by omega⟩) k_ k_ x_ x_ x_ (by omega)) ?_
    refine RN.bq (no 2) [4, 6, 7, 8, 9, 10, 11, 79, 80, 81] [] (k' := 9) (l' := [(4, .slice (some ⟨b7, 0, none⟩) ((((toL a).length) - ((toL b).length)) + 1) ((((toL a).length) - ((toL b).length)) + 1)), (6, .int .i64 ((kk : Nat) : Int)), (7, .int .i64 (((toL b).length : Nat) : Int)), (8, .slice (some ⟨y1.1, 0, none⟩) ((toL a).length + 1) ((toL a).length + 1)), (9, sl y6 (toL V).length), (10, .int .i64 ((m - 1 : Nat) : Int)), (11, .int .u64 ((x : Nat) : Int)), (79, .slice (some ⟨y1.1, m - 1, none⟩) ((toL b).length + 1) (((toL a).length + 1) - (m - 1))), (80, sl y6 (toL V).length), (81, .int .u64 ((x : Nat) : Int))]) k_ ?_
    refine RN.callM (natural_reduce y1.1 (m - 1) ((toL b).length + 1) (((toL a).length + 1) - (m - 1)) u y6 V x y_natural_divide y_natural_divide y_natural_divide y_natural_divide y_natural_divide) [(b7, .cells (encU q) 82 (0, 0))] ([]) [0] k_ k_ k_ rfl rfl (fun w1 h11 => ?_)
    obtain ⟨r1, r2, r3, r4⟩ := h11
    refine RN.done k_ ?_
    refine KN.next ?_
    refine J.cond (w1.2) k_ (fun c12 => ?_) (fun c12 => ?_)
    · skip
      have r5 : svl w1.1 (m - 1) ((toL b).length + 1) + x * V = svl u (m - 1) ((toL b).length + 1) + W ^ ((toL b).length + 1) := by have := r4; rw [c12] at this; simpa using this
      refine J.sreg ?_
      refine RN.bq (no 5) [4, 6, 7, 8, 9, 10, 11, 83, 84, 87] [] (k' := 5) (l' := [(4, .slice (some ⟨b7, 0, none⟩) ((((toL a).length) - ((toL b).length)) + 1) ((((toL a).length) - ((toL b).length)) + 1)), (6, .int .i64 ((kk : Nat) : Int)), (7, .int .i64 (((toL b).length : Nat) : Int)), (8, .slice (some ⟨y1.1, 0, none⟩) ((toL a).length + 1) ((toL a).length + 1)), (9, sl y6 (toL V).length), (10, .int .i64 ((m - 1 : Nat) : Int)), (11, .int .u64 ((x : Nat) : Int)), (83, .slice (some ⟨y1.1, 0, none⟩) ((toL a).length + 1) ((toL a).length + 1)), (84, .int .i64 ((m - 1 : Nat) : Int)), (87, .int .i64 (IntKind.i64.wrap (((m - 1 : Nat) : Int) + (((toL b).length : Nat) : Int))))]) k_ ?_
      rw [show IntKind.i64.wrap (((m - 1 : Nat) : Int) + (((toL b).length : Nat) : Int)) = (((m - 1) + ((toL b).length) : Nat) : Int) from by rw [IntKind.wrap_i64]; omega]
      refine RN.bq (no 1) [4, 6, 7, 8, 9, 10, 11, 83, 84, 88] [] (k' := 6) (l' := [(4, .slice (some ⟨b7, 0, none⟩) ((((toL a).length) - ((toL b).length)) + 1) ((((toL a).length) - ((toL b).length)) + 1)), (6, .int .i64 ((kk : Nat) : Int)), (7, .int .i64 (((toL b).length : Nat) : Int)), (8, .slice (some ⟨y1.1, 0, none⟩) ((toL a).length + 1) ((toL a).length + 1)), (9, sl y6 (toL V).length), (10, .int .i64 ((m - 1 : Nat) : Int)), (11, .int .u64 ((x : Nat) : Int)), (83, .slice (some ⟨y1.1, 0, none⟩) ((toL a).length + 1) ((toL a).length + 1)), (84, .int .i64 ((m - 1 : Nat) : Int)), (88, .int .i64 (IntKind.i64.wrap ((((m - 1) + ((toL b).length) : Nat) : Int) + 1)))]) k_ ?_
      rw [show IntKind.i64.wrap ((((m - 1) + ((toL b).length) : Nat) : Int) + 1) = ((((m - 1) + ((toL b).length)) + 1 : Nat) : Int) from by rw [IntKind.wrap_i64]; omega]
      refine RN.val _ k_ k_ (q_oslice (t := 23) (x := (.tmp 83)) (lo := (m - 1)) (hi := (((m - 1) + ((toL b).length)) + 1)) (b := y1.1) (n := ((toL a).length + 1)) (c := ((toL a).length + 1)) (e := 82) ((toL b).length + 1) k_ k_ (.inr ⟨(.tmp 84), .i64, ((m - 1 : Nat) : Int), rfl, by kernel_rfl, by omega⟩) (.inr ⟨(.tmp 88), .i64, ((((m - 1) + ((toL b).length)) + 1 : Nat) : Int), rfl, by kernel_rfl, by omega⟩) k_ k_ x_ x_ x_ (by omega)) ?_
      refine RN.bq (no 1) [4, 6, 7, 8, 9, 10, 11, 89, 90] [] (k' := 8) (l' := [(4, .slice (some ⟨b7, 0, none⟩) ((((toL a).length) - ((toL b).length)) + 1) ((((toL a).length) - ((toL b).length)) + 1)), (6, .int .i64 ((kk : Nat) : Int)), (7, .int .i64 (((toL b).length : Nat) : Int)), (8, .slice (some ⟨y1.1, 0, none⟩) ((toL a).length + 1) ((toL a).length + 1)), (9, sl y6 (toL V).length), (10, .int .i64 ((m - 1 : Nat) : Int)), (11, .int .u64 ((x : Nat) : Int)), (89, .slice (some ⟨y1.1, m - 1, none⟩) ((toL b).length + 1) (((toL a).length + 1) - (m - 1))), (90, sl y6 (toL V).length)]) k_ ?_
      refine RN.callM (natural_restore y1.1 (m - 1) ((toL b).length + 1) (((toL a).length + 1) - (m - 1)) w1.1 y6 V y_natural_divide y_natural_divide y_natural_divide y_natural_divide) [(b7, .cells (encU q) 82 (0, 0))] ([]) [0] k_ k_ k_ rfl rfl (fun w2 h13 => ?_)
      obtain ⟨q1, q2, q3, q4, q5⟩ := h13
      have ho := red_over r5 q5 (svl_lt r2 _ _) (svl_lt q2 _ _) q4 hV0 (Nat.le_trans (Nat.le_of_lt hvW) (Nat.pow_le_pow_right (by decide) (by omega))) hx2
      have hx0 := ho.2.2
      refine RN.done k_ ?_
      refine KN.next ?_
      refine J.regN ?_
      refine RN.bq (no 2) [4, 6, 7, 8, 9, 10, 93] [] (k' := 2) (l' := [(4, .slice (some ⟨b7, 0, none⟩) ((((toL a).length) - ((toL b).length)) + 1) ((((toL a).length) - ((toL b).length)) + 1)), (6, .int .i64 ((kk : Nat) : Int)), (7, .int .i64 (((toL b).length : Nat) : Int)), (8, .slice (some ⟨y1.1, 0, none⟩) ((toL a).length + 1) ((toL a).length + 1)), (9, sl y6 (toL V).length), (10, .int .i64 ((m - 1 : Nat) : Int)), (93, .int .u64 (IntKind.u64.wrap (((x : Nat) : Int) - 1)))]) k_ ?_
      rw [show IntKind.u64.wrap (((x : Nat) : Int) - 1) = ((x - 1 : Nat) : Int) from uw64b (x - 1) (by omega) (by omega)]
      refine RN.bq (no 1) [4, 6, 7, 8, 9, 10, 11] [] (k' := 3) (l' := [(4, .slice (some ⟨b7, 0, none⟩) ((((toL a).length) - ((toL b).length)) + 1) ((((toL a).length) - ((toL b).length)) + 1)), (6, .int .i64 ((kk : Nat) : Int)), (7, .int .i64 (((toL b).length : Nat) : Int)), (8, .slice (some ⟨y1.1, 0, none⟩) ((toL a).length + 1) ((toL a).length + 1)), (9, sl y6 (toL V).length), (10, .int .i64 ((m - 1 : Nat) : Int)), (11, .int .u64 ((x - 1 : Nat) : Int))]) k_ ?_
      refine RN.done k_ ?_
      refine KN.next ?_
      refine J.regN ?_
      refine RN.bq (no 4) [4, 6, 7, 8, 9, 10, 94, 95, 97] [] (k' := 4) (l' := [(4, .slice (some ⟨b7, 0, none⟩) ((((toL a).length) - ((toL b).length)) + 1) ((((toL a).length) - ((toL b).length)) + 1)), (6, .int .i64 ((kk : Nat) : Int)), (7, .int .i64 (((toL b).length : Nat) : Int)), (8, .slice (some ⟨y1.1, 0, none⟩) ((toL a).length + 1) ((toL a).length + 1)), (9, sl y6 (toL V).length), (10, .int .i64 ((m - 1 : Nat) : Int)), (94, .slice (some ⟨b7, 0, none⟩) ((((toL a).length) - ((toL b).length)) + 1) ((((toL a).length) - ((toL b).length)) + 1)), (95, .int .i64 ((m - 1 : Nat) : Int)), (97, .int .u32 (IntKind.u32.wrap ((x - 1 : Nat) : Int)))]) k_ ?_
      rw [show IntKind.u32.wrap ((x - 1 : Nat) : Int) = ((x - 1 : Nat) : Int) from uw32b (x - 1) (by rfl) (by omega)]
      refine RN.val _ k_ k_ (q_oidx (t := 23) (x := (.tmp 94)) (ix := (.tmp 95)) (b := b7) (n := ((((toL a).length) - ((toL b).length)) + 1)) (c := ((((toL a).length) - ((toL b).length)) + 1)) (K := .i64) (i0 := ((m - 1 : Nat) : Int)) (m := m - 1) (e := 82) (sz := 1) k_ k_ k_ k_ k_ (by omega) x_) ?_
      refine RN.ot k_ k_ (ot_ustore (mi := 0) (T := 82) (x := (.tmp 98)) (y := (.tmp 97)) (b := b7) (m := m - 1) (xs := q) (v := ((x - 1 : Nat) : Int)) (v0 := x - 1) rfl k_ k_ k_ k_ k_ (by omega) x_) (fun _ _ => ?_)
      refine RN.done k_ ?_
      refine KN.blk ?_
      refine KN.next ?_
      refine J.regN ?_
      refine RN.bq (no 2) [4, 6, 7, 8, 9, 41] [] (k' := 2) (l' := [(4, .slice (some ⟨b7, 0, none⟩) ((((toL a).length) - ((toL b).length)) + 1) ((((toL a).length) - ((toL b).length)) + 1)), (6, .int .i64 ((kk : Nat) : Int)), (7, .int .i64 (((toL b).length : Nat) : Int)), (8, .slice (some ⟨y1.1, 0, none⟩) ((toL a).length + 1) ((toL a).length + 1)), (9, sl y6 (toL V).length), (41, .int .i64 (IntKind.i64.wrap (((m - 1 : Nat) : Int) - 1)))]) k_ ?_
      rw [show IntKind.i64.wrap (((m - 1 : Nat) : Int) - 1) = (((m - 1 : Nat) : Int) - 1) from by rw [IntKind.wrap_i64]; omega]
      refine RN.bq (no 1) [4, 6, 7, 8, 9, 10] [] (k' := 3) (l' := [(4, .slice (some ⟨b7, 0, none⟩) ((((toL a).length) - ((toL b).length)) + 1) ((((toL a).length) - ((toL b).length)) + 1)), (6, .int .i64 ((kk : Nat) : Int)), (7, .int .i64 (((toL b).length : Nat) : Int)), (8, .slice (some ⟨y1.1, 0, none⟩) ((toL a).length + 1) ((toL a).length + 1)), (9, sl y6 (toL V).length), (10, .int .i64 (((m - 1 : Nat) : Int) - 1))]) k_ ?_
      refine RN.done k_ ?_
      refine KN.roundE (m - 1, w2.1, q.set (m - 1) (x - 1)) [4, 6, 7, 8, 9, 10] [0, 1, 2, 3, 4] (l2 := [(4, .slice (some ⟨b7, 0, none⟩) ((((toL a).length) - ((toL b).length)) + 1) ((((toL a).length) - ((toL b).length)) + 1)), (6, .int .i64 ((kk : Nat) : Int)), (7, .int .i64 (((toL b).length : Nat) : Int)), (8, .slice (some ⟨y1.1, 0, none⟩) ((toL a).length + 1) ((toL a).length + 1)), (9, sl y6 (toL V).length), (10, .int .i64 (((m - 1 : Nat) : Int) - 1))]) (by (try dsimp only); omega) (by (try dsimp only); first | (rw [he.2]; exact hD.step (by omega) hab hvW hV0 hm0 (by omega) r2 r3 he.1 hx4) | (rw [ho.2.1]; exact hD.step (by omega) hab hvW hV0 hm0 (by omega) q2 (fun i hi => (q3 i hi).trans (r3 i hi)) ho.1 hx4)) k_ (by rfl) (by rfl) (by rfl)
    · skip
      have r5 : svl w1.1 (m - 1) ((toL b).length + 1) + x * V = svl u (m - 1) ((toL b).length + 1) := by have := r4; rw [c12] at this; simpa using this
      have he := red_exact (n := 0) r5 hV0 hx1
      refine J.skip ?_
      refine KN.next ?_
      refine J.regN ?_
      refine RN.bq (no 4) [4, 6, 7, 8, 9, 10, 94, 95, 97] [] (k' := 4) (l' := [(4, .slice (some ⟨b7, 0, none⟩) ((((toL a).length) - ((toL b).length)) + 1) ((((toL a).length) - ((toL b).length)) + 1)), (6, .int .i64 ((kk : Nat) : Int)), (7, .int .i64 (((toL b).length : Nat) : Int)), (8, .slice (some ⟨y1.1, 0, none⟩) ((toL a).length + 1) ((toL a).length + 1)), (9, sl y6 (toL V).length), (10, .int .i64 ((m - 1 : Nat) : Int)), (94, .slice (some ⟨b7, 0, none⟩) ((((toL a).length) - ((toL b).length)) + 1) ((((toL a).length) - ((toL b).length)) + 1)), (95, .int .i64 ((m - 1 : Nat) : Int)), (97, .int .u32 (IntKind.u32.wrap ((x : Nat) : Int)))]) k_ ?_
      rw [show IntKind.u32.wrap ((x : Nat) : Int) = ((x : Nat) : Int) from uw32b x (by rfl) (by omega)]
      refine RN.val _ k_ k_ (q_oidx (t := 23) (x := (.tmp 94)) (ix := (.tmp 95)) (b := b7) (n := ((((toL a).length) - ((toL b).length)) + 1)) (c := ((((toL a).length) - ((toL b).length)) + 1)) (K := .i64) (i0 := ((m - 1 : Nat) : Int)) (m := m - 1) (e := 82) (sz := 1) k_ k_ k_ k_ k_ (by omega) x_) ?_
      refine RN.ot k_ k_ (ot_ustore (mi := 0) (T := 82) (x := (.tmp 98)) (y := (.tmp 97)) (b := b7) (m := m - 1) (xs := q) (v := ((x : Nat) : Int)) (v0 := x) rfl k_ k_ k_ k_ k_ (by omega) x_) (fun _ _ => ?_)
      refine RN.done k_ ?_
      refine KN.blk ?_
      refine KN.next ?_
      refine J.regN ?_
      refine RN.bq (no 2) [4, 6, 7, 8, 9, 41] [] (k' := 2) (l' := [(4, .slice (some ⟨b7, 0, none⟩) ((((toL a).length) - ((toL b).length)) + 1) ((((toL a).length) - ((toL b).length)) + 1)), (6, .int .i64 ((kk : Nat) : Int)), (7, .int .i64 (((toL b).length : Nat) : Int)), (8, .slice (some ⟨y1.1, 0, none⟩) ((toL a).length + 1) ((toL a).length + 1)), (9, sl y6 (toL V).length), (41, .int .i64 (IntKind.i64.wrap (((m - 1 : Nat) : Int) - 1)))]) k_ ?_
      rw [show IntKind.i64.wrap (((m - 1 : Nat) : Int) - 1) = (((m - 1 : Nat) : Int) - 1) from by rw [IntKind.wrap_i64]; omega]
      refine RN.bq (no 1) [4, 6, 7, 8, 9, 10] [] (k' := 3) (l' := [(4, .slice (some ⟨b7, 0, none⟩) ((((toL a).length) - ((toL b).length)) + 1) ((((toL a).length) - ((toL b).length)) + 1)), (6, .int .i64 ((kk : Nat) : Int)), (7, .int .i64 (((toL b).length : Nat) : Int)), (8, .slice (some ⟨y1.1, 0, none⟩) ((toL a).length + 1) ((toL a).length + 1)), (9, sl y6 (toL V).length), (10, .int .i64 (((m - 1 : Nat) : Int) - 1))]) k_ ?_
      refine RN.done k_ ?_
      refine KN.roundE (m - 1, w1.1, q.set (m - 1) x) [4, 6, 7, 8, 9, 10] [0, 1, 2, 3, 4] (l2 := [(4, .slice (some ⟨b7, 0, none⟩) ((((toL a).length) - ((toL b).length)) + 1) ((((toL a).length) - ((toL b).length)) + 1)), (6, .int .i64 ((kk : Nat) : Int)), (7, .int .i64 (((toL b).length : Nat) : Int)), (8, .slice (some ⟨y1.1, 0, none⟩) ((toL a).length + 1) ((toL a).length + 1)), (9, sl y6 (toL V).length), (10, .int .i64 (((m - 1 : Nat) : Int) - 1))]) (by (try dsimp only); omega) (by (try dsimp only); first | (rw [he.2]; exact hD.step (by omega) hab hvW hV0 hm0 (by omega) r2 r3 he.1 hx4) | (rw [ho.2.1]; exact hD.step (by omega) hab hvW hV0 hm0 (by omega) q2 (fun i hi => (q3 i hi).trans (r3 i hi)) ho.1 hx4)) k_ (by rfl) (by rfl) (by rfl)
  · skip
    replace c9 := of_decide_eq_false c9
    have hm0 : m = 0 := by omega
    subst hm0
    have hD' := hD
    rw [hA, hV] at hD'
    obtain ⟨hd1, hd2, hd3⟩ := hD'.done
    refine J.exit (KX.next (KX.next (KX.hit ?_)))
    refine KN.next ?_
    refine J.sreg ?_
    refine RN.bq (no 1) [4, 6, 8, 99] [] (k' := 1) (l' := [(4, .slice (some ⟨b7, 0, none⟩) ((((toL a).length) - ((toL b).length)) + 1) ((((toL a).length) - ((toL b).length)) + 1)), (6, .int .i64 ((kk : Nat) : Int)), (8, .slice (some ⟨y1.1, 0, none⟩) ((toL a).length + 1) ((toL a).length + 1)), (99, .int .i64 (((toL b).length : Nat) : Int))]) k_ ?_
    refine RN.make (e := 0) (m := ((toL b).length)) (.cells (encU (List.replicate ((toL b).length) 0)) 82 (0, 0)) k_ k_ (fun w => (q_make1 (t := 23) (m := ((toL b).length)) (by_ := 4) (K := .i64) (K' := .i64) (n1 := (((toL b).length : Nat) : Int)) (n2 := (((toL b).length : Nat) : Int)) (x := (.tmp 99)) (y := (.tmp 99)) (e := 82) k_ k_ k_ (by omega) (by omega) k_ k_ rfl (by omega) (by omega) w).trans (by rw [encU_rep])) (fun b14 => ?_)
    refine RN.bq (no 1) [4, 5, 6, 8] [] (k' := 3) (l' := [(4, .slice (some ⟨b7, 0, none⟩) ((((toL a).length) - ((toL b).length)) + 1) ((((toL a).length) - ((toL b).length)) + 1)), (5, .slice (some ⟨b14, 0, none⟩) ((toL b).length) ((toL b).length)), (6, .int .i64 ((kk : Nat) : Int)), (8, .slice (some ⟨y1.1, 0, none⟩) ((toL a).length + 1) ((toL a).length + 1))]) k_ ?_
    refine RN.done k_ ?_
    refine KN.next ?_
    refine J.seq ?_
    refine J.sreg ?_
    refine RN.bq (no 3) [4, 5, 6, 8, 102, 103] [] (k' := 3) (l' := [(4, .slice (some ⟨b7, 0, none⟩) ((((toL a).length) - ((toL b).length)) + 1) ((((toL a).length) - ((toL b).length)) + 1)), (5, .slice (some ⟨b14, 0, none⟩) ((toL b).length) ((toL b).length)), (6, .int .i64 ((kk : Nat) : Int)), (8, .slice (some ⟨y1.1, 0, none⟩) ((toL a).length + 1) ((toL a).length + 1)), (102, .int .i64 (((toL b).length : Nat) : Int)), (103, .int .i64 0)]) k_ ?_
    refine RN.done k_ ?_
    refine KN.next ?_
    refine J.block ?_
    refine J.loop (ι := (Nat) × (List Nat)) (fun x => x.1 ≤ (toL b).length ∧ RemI u (toL b).length kk x.2 x.1) (fun x => (toL b).length - x.1) (fun x => [(4, .slice (some ⟨b7, 0, none⟩) ((((toL a).length) - ((toL b).length)) + 1) ((((toL a).length) - ((toL b).length)) + 1)), (5, .slice (some ⟨b14, 0, none⟩) ((toL b).length) ((toL b).length)), (6, .int .i64 ((kk : Nat) : Int)), (8, .slice (some ⟨y1.1, 0, none⟩) ((toL a).length + 1) ((toL a).length + 1)), (102, .int .i64 (((toL b).length : Nat) : Int)), (103, .int .i64 ((x.1 : Nat) : Int))]) (fun x => [(b14, .cells (encU x.2) 82 (0, 0)), (b7, .cells (encU q) 82 (0, 0)), (y1.1, .cells (encU u) 82 (0, 0))]) (fun x => [fU y6 (toL V), fU (⟨some ⟨y2.1, 0, none⟩, (toL b).length + 1⟩ : SA) y2.2, fBlk y2.1 (.cells (encU y2.2) 82 (0, 0)), fU s (toL a), fU t (toL b)]) (0, List.replicate ((toL b).length) 0) [4, 5, 6, 8, 102, 103] [0, 1, 2, 3, 4] (⟨Nat.zero_le _, RemI.start _ _ _⟩) k_ (by first | rfl | (simp only [encQ_zero]; done) | (simp only [encQ_zero]; rfl)) (by rfl) (fun x15 hR => ?_)
    obtain ⟨k, r⟩ := x15
    replace hR : k ≤ (toL b).length ∧ RemI u (toL b).length kk r k := hR
    obtain ⟨hR1, hR2⟩ := hR
    have hRl := hR2.1
    have hg1 : u.getD (k + 1) 0 < 4294967296 := hD.2.1.getD _
    have hg2 : u.getD k 0 < 4294967296 := hD.2.1.getD _
    refine J.sreg ?_
    refine RN.bq (no 1) [4, 5, 6, 8, 102, 103, 104] [] (k' := 1) (l' := [(4, .slice (some ⟨b7, 0, none⟩) ((((toL a).length) - ((toL b).length)) + 1) ((((toL a).length) - ((toL b).length)) + 1)), (5, .slice (some ⟨b14, 0, none⟩) ((toL b).length) ((toL b).length)), (6, .int .i64 ((kk : Nat) : Int)), (8, .slice (some ⟨y1.1, 0, none⟩) ((toL a).length + 1) ((toL a).length + 1)), (102, .int .i64 (((toL b).length : Nat) : Int)), (103, .int .i64 ((k : Nat) : Int)), (104, .bool (decide (((k : Nat) : Int) < (((toL b).length : Nat) : Int))))]) k_ ?_
    refine RN.done k_ ?_
    refine KN.next ?_
    refine J.seq ?_
    refine J.cond (decide (((k : Nat) : Int) < (((toL b).length : Nat) : Int))) k_ (fun c16 => ?_) (fun c16 => ?_)
    · skip
      replace c16 := of_decide_eq_true c16
      refine J.skip ?_
      refine KN.next ?_
      refine J.seq ?_
      refine J.block ?_
      refine J.sreg ?_
      refine RN.bq (no 2) [4, 5, 6, 8, 12, 102, 103] [] (k' := 2) (l' := [(4, .slice (some ⟨b7, 0, none⟩) ((((toL a).length) - ((toL b).length)) + 1) ((((toL a).length) - ((toL b).length)) + 1)), (5, .slice (some ⟨b14, 0, none⟩) ((toL b).length) ((toL b).length)), (6, .int .i64 ((kk : Nat) : Int)), (8, .slice (some ⟨y1.1, 0, none⟩) ((toL a).length + 1) ((toL a).length + 1)), (12, .int .i64 ((k : Nat) : Int)), (102, .int .i64 (((toL b).length : Nat) : Int)), (103, .int .i64 ((k : Nat) : Int))]) k_ ?_
      refine RN.done k_ ?_
      refine KN.next ?_
      refine J.regD k_ [19] ?_
      refine RD.bat k_ [(0, none), (1, none), (2, none), (3, none), (4, none)] [4, 5, 6, 8, 12, 102, 103, 106, 107, 108, 110] [] (L' := [4, 3, 2, 1, 0]) (l' := [(4, .slice (some ⟨b7, 0, none⟩) ((((toL a).length) - ((toL b).length)) + 1) ((((toL a).length) - ((toL b).length)) + 1)), (5, .slice (some ⟨b14, 0, none⟩) ((toL b).length) ((toL b).length)), (6, .int .i64 ((kk : Nat) : Int)), (8, .slice (some ⟨y1.1, 0, none⟩) ((toL a).length + 1) ((toL a).length + 1)), (12, .int .i64 ((k : Nat) : Int)), (102, .int .i64 (((toL b).length : Nat) : Int)), (103, .int .i64 ((k : Nat) : Int)), (106, .slice (some ⟨b14, 0, none⟩) ((toL b).length) ((toL b).length)), (107, .int .i64 ((k : Nat) : Int)), (108, .slice (some ⟨y1.1, 0, none⟩) ((toL a).length + 1) ((toL a).length + 1)), (110, .int .i64 (IntKind.i64.wrap (((k : Nat) : Int) + 1)))]) k_ ?_
      rw [show IntKind.i64.wrap (((k : Nat) : Int) + 1) = ((k + 1 : Nat) : Int) from by rw [IntKind.wrap_i64]; omega]
      refine RD.bat k_ [(9, none), (10, none), (15, none)] [4, 5, 6, 8, 102, 103, 106, 107, 108, 110, 115, 116, 121] [] (L' := [15, 10, 9, 4, 3, 2, 1, 0]) (l' := [(4, .slice (some ⟨b7, 0, none⟩) ((((toL a).length) - ((toL b).length)) + 1) ((((toL a).length) - ((toL b).length)) + 1)), (5, .slice (some ⟨b14, 0, none⟩) ((toL b).length) ((toL b).length)), (6, .int .i64 ((kk : Nat) : Int)), (8, .slice (some ⟨y1.1, 0, none⟩) ((toL a).length + 1) ((toL a).length + 1)), (102, .int .i64 (((toL b).length : Nat) : Int)), (103, .int .i64 ((k : Nat) : Int)), (106, .slice (some ⟨b14, 0, none⟩) ((toL b).length) ((toL b).length)), (107, .int .i64 ((k : Nat) : Int)), (108, .slice (some ⟨y1.1, 0, none⟩) ((toL a).length + 1) ((toL a).length + 1)), (110, .int .i64 ((k + 1 : Nat) : Int)), (115, .slice (some ⟨y1.1, 0, none⟩) ((toL a).length + 1) ((toL a).length + 1)), (116, .int .i64 ((k : Nat) : Int)), (121, .int .i64 ((kk : Nat) : Int))]) k_ ?_
      refine RD.val (i := 5) _ k_ k_ k_ (q_oidx (t := 23) (x := (.tmp 108)) (ix := (.tmp 110)) (b := y1.1) (n := ((toL a).length + 1)) (c := ((toL a).length + 1)) (K := .i64) (i0 := ((k + 1 : Nat) : Int)) (m := k + 1) (e := 82) (sz := 1) k_ k_ k_ k_ k_ (by omega) x_) ?_
      refine RD.val (i := 6) _ k_ k_ k_ (q_oload (mi := 2) (T := 82) (x := (.tmp 111)) (m := k + 1) (xs := u) rfl k_ k_ k_ x_) ?_
      refine RD.bat k_ [(7, none)] [4, 5, 6, 8, 102, 103, 106, 107, 113, 115, 116, 121] [] (L' := [7, 6, 5, 15, 10, 9, 4, 3, 2, 1, 0]) (l' := [(4, .slice (some ⟨b7, 0, none⟩) ((((toL a).length) - ((toL b).length)) + 1) ((((toL a).length) - ((toL b).length)) + 1)), (5, .slice (some ⟨b14, 0, none⟩) ((toL b).length) ((toL b).length)), (6, .int .i64 ((kk : Nat) : Int)), (8, .slice (some ⟨y1.1, 0, none⟩) ((toL a).length + 1) ((toL a).length + 1)), (102, .int .i64 (((toL b).length : Nat) : Int)), (103, .int .i64 ((k : Nat) : Int)), (106, .slice (some ⟨b14, 0, none⟩) ((toL b).length) ((toL b).length)), (107, .int .i64 ((k : Nat) : Int)), (113, .int .u64 (IntKind.u64.wrap ((u.getD (k + 1) 0 : Nat) : Int))), (115, .slice (some ⟨y1.1, 0, none⟩) ((toL a).length + 1) ((toL a).length + 1)), (116, .int .i64 ((k : Nat) : Int)), (121, .int .i64 ((kk : Nat) : Int))]) k_ ?_
      rw [show IntKind.u64.wrap ((u.getD (k + 1) 0 : Nat) : Int) = ((u.getD (k + 1) 0 : Nat) : Int) from uw64b (u.getD (k + 1) 0) (by rfl) (by omega)]
      refine RD.bat k_ [(8, none)] [4, 5, 6, 8, 102, 103, 106, 107, 114, 115, 116, 121] [] (L' := [8, 7, 6, 5, 15, 10, 9, 4, 3, 2, 1, 0]) (l' := [(4, .slice (some ⟨b7, 0, none⟩) ((((toL a).length) - ((toL b).length)) + 1) ((((toL a).length) - ((toL b).length)) + 1)), (5, .slice (some ⟨b14, 0, none⟩) ((toL b).length) ((toL b).length)), (6, .int .i64 ((kk : Nat) : Int)), (8, .slice (some ⟨y1.1, 0, none⟩) ((toL a).length + 1) ((toL a).length + 1)), (102, .int .i64 (((toL b).length : Nat) : Int)), (103, .int .i64 ((k : Nat) : Int)), (106, .slice (some ⟨b14, 0, none⟩) ((toL b).length) ((toL b).length)), (107, .int .i64 ((k : Nat) : Int)), (114, .int .u64 (IntKind.u64.wrap (((u.getD (k + 1) 0 : Nat) : Int) * 2 ^ 32))), (115, .slice (some ⟨y1.1, 0, none⟩) ((toL a).length + 1) ((toL a).length + 1)), (116, .int .i64 ((k : Nat) : Int)), (121, .int .i64 ((kk : Nat) : Int))]) k_ ?_
      rw [show IntKind.u64.wrap (((u.getD (k + 1) 0 : Nat) : Int) * 2 ^ 32) = (((u.getD (k + 1) 0) * 2 ^ 32 : Nat) : Int) from uw64b ((u.getD (k + 1) 0) * 2 ^ 32) (by simp) (by omega)]
      refine RD.val (i := 11) _ k_ k_ k_ (q_oidx (t := 23) (x := (.tmp 115)) (ix := (.tmp 116)) (b := y1.1) (n := ((toL a).length + 1)) (c := ((toL a).length + 1)) (K := .i64) (i0 := ((k : Nat) : Int)) (m := k) (e := 82) (sz := 1) k_ k_ k_ k_ k_ (by omega) x_) ?_
      refine RD.val (i := 12) _ k_ k_ k_ (q_oload (mi := 2) (T := 82) (x := (.tmp 117)) (m := k) (xs := u) rfl k_ k_ k_ x_) ?_
      refine RD.bat k_ [(13, none)] [4, 5, 6, 8, 102, 103, 106, 107, 114, 119, 121] [] (L' := [13, 12, 11, 8, 7, 6, 5, 15, 10, 9, 4, 3, 2, 1, 0]) (l' := [(4, .slice (some ⟨b7, 0, none⟩) ((((toL a).length) - ((toL b).length)) + 1) ((((toL a).length) - ((toL b).length)) + 1)), (5, .slice (some ⟨b14, 0, none⟩) ((toL b).length) ((toL b).length)), (6, .int .i64 ((kk : Nat) : Int)), (8, .slice (some ⟨y1.1, 0, none⟩) ((toL a).length + 1) ((toL a).length + 1)), (102, .int .i64 (((toL b).length : Nat) : Int)), (103, .int .i64 ((k : Nat) : Int)), (106, .slice (some ⟨b14, 0, none⟩) ((toL b).length) ((toL b).length)), (107, .int .i64 ((k : Nat) : Int)), (114, .int .u64 (((u.getD (k + 1) 0) * 2 ^ 32 : Nat) : Int)), (119, .int .u64 (IntKind.u64.wrap ((u.getD k 0 : Nat) : Int))), (121, .int .i64 ((kk : Nat) : Int))]) k_ ?_
      rw [show IntKind.u64.wrap ((u.getD k 0 : Nat) : Int) = ((u.getD k 0 : Nat) : Int) from uw64b (u.getD k 0) (by rfl) (by omega)]
      refine RD.bat k_ [(14, none)] [4, 5, 6, 8, 102, 103, 106, 107, 120, 121] [] (L' := [14, 13, 12, 11, 8, 7, 6, 5, 15, 10, 9, 4, 3, 2, 1, 0]) (l' := [(4, .slice (some ⟨b7, 0, none⟩) ((((toL a).length) - ((toL b).length)) + 1) ((((toL a).length) - ((toL b).length)) + 1)), (5, .slice (some ⟨b14, 0, none⟩) ((toL b).length) ((toL b).length)), (6, .int .i64 ((kk : Nat) : Int)), (8, .slice (some ⟨y1.1, 0, none⟩) ((toL a).length + 1) ((toL a).length + 1)), (102, .int .i64 (((toL b).length : Nat) : Int)), (103, .int .i64 ((k : Nat) : Int)), (106, .slice (some ⟨b14, 0, none⟩) ((toL b).length) ((toL b).length)), (107, .int .i64 ((k : Nat) : Int)), (120, .int .u64 (IntKind.u64.wrap ((BitVec.ofInt 64 (((u.getD (k + 1) 0) * 2 ^ 32 : Nat) : Int) ||| BitVec.ofInt 64 ((u.getD k 0 : Nat) : Int)).toNat : Nat))), (121, .int .i64 ((kk : Nat) : Int))]) k_ ?_
      rw [show (IntKind.u64.wrap ((BitVec.ofInt 64 (((u.getD (k + 1) 0) * 2 ^ 32 : Nat) : Int) ||| BitVec.ofInt 64 ((u.getD k 0 : Nat) : Int)).toNat : Nat)) = ((u.getD (k + 1) 0 * 2 ^ 32 + u.getD k 0 : Nat) : Int) from by rw [bv_or (by omega) (by omega), or_shift _ _ 32 (by omega)]; exact uw64b _ rfl (by omega)]
      refine RD.val (i := 16) _ k_ k_ k_ (q_shr (T := 91) (T' := 3) (x := (.tmp 120)) (y := (.tmp 121)) (k := .u64) (k' := .i64) (a := ((u.getD (k + 1) 0 * 2 ^ 32 + u.getD k 0 : Nat) : Int)) (b := ((kk : Nat) : Int)) (m := kk) k_ k_ k_ (by omega) (by simp only [IntKind.bits]; omega)) ?_
      rw [show Int.fdiv ((u.getD (k + 1) 0 * 2 ^ 32 + u.getD k 0 : Nat) : Int) (2 ^ kk) = (((u.getD (k + 1) 0 * 2 ^ 32 + u.getD k 0) / 2 ^ kk : Nat) : Int) from fdivn _ _]
      refine RD.bat k_ [(17, none)] [4, 5, 6, 8, 102, 103, 106, 107, 123] [] (L' := [17, 16, 14, 13, 12, 11, 8, 7, 6, 5, 15, 10, 9, 4, 3, 2, 1, 0]) (l' := [(4, .slice (some ⟨b7, 0, none⟩) ((((toL a).length) - ((toL b).length)) + 1) ((((toL a).length) - ((toL b).length)) + 1)), (5, .slice (some ⟨b14, 0, none⟩) ((toL b).length) ((toL b).length)), (6, .int .i64 ((kk : Nat) : Int)), (8, .slice (some ⟨y1.1, 0, none⟩) ((toL a).length + 1) ((toL a).length + 1)), (102, .int .i64 (((toL b).length : Nat) : Int)), (103, .int .i64 ((k : Nat) : Int)), (106, .slice (some ⟨b14, 0, none⟩) ((toL b).length) ((toL b).length)), (107, .int .i64 ((k : Nat) : Int)), (123, .int .u32 (IntKind.u32.wrap (((u.getD (k + 1) 0 * 2 ^ 32 + u.getD k 0) / 2 ^ kk : Nat) : Int)))]) k_ ?_
      rw [show IntKind.u32.wrap (((u.getD (k + 1) 0 * 2 ^ 32 + u.getD k 0) / 2 ^ kk : Nat) : Int) = ((((u.getD (k + 1) 0 * 2 ^ 32 + u.getD k 0) / 2 ^ kk) % 4294967296 : Nat) : Int) from uw32e ((u.getD (k + 1) 0 * 2 ^ 32 + u.getD k 0) / 2 ^ kk) (by rfl)]
      refine RD.val (i := 18) _ k_ k_ k_ (q_oidx (t := 23) (x := (.tmp 106)) (ix := (.tmp 107)) (b := b14) (n := ((toL b).length)) (c := ((toL b).length)) (K := .i64) (i0 := ((k : Nat) : Int)) (m := k) (e := 82) (sz := 1) k_ k_ k_ k_ k_ (by omega) x_) ?_
      refine RD.ot (i := 19) k_ k_ k_ k_ (ot_ustore (mi := 0) (T := 82) (x := (.tmp 124)) (y := (.tmp 123)) (b := b14) (m := k) (xs := r) (v := ((((u.getD (k + 1) 0 * 2 ^ 32 + u.getD k 0) / 2 ^ kk) % 4294967296 : Nat) : Int)) (v0 := ((u.getD (k + 1) 0 * 2 ^ 32 + u.getD k 0) / 2 ^ kk) % 4294967296) rfl k_ k_ k_ k_ k_ (by omega) x_) (fun _ _ => ?_)
      refine RD.done k_ ?_
      refine KN.blk ?_
      refine KN.next ?_
      refine J.regN ?_
      refine RN.bq (no 1) [4, 5, 6, 8, 102, 125] [] (k' := 1) (l' := [(4, .slice (some ⟨b7, 0, none⟩) ((((toL a).length) - ((toL b).length)) + 1) ((((toL a).length) - ((toL b).length)) + 1)), (5, .slice (some ⟨b14, 0, none⟩) ((toL b).length) ((toL b).length)), (6, .int .i64 ((kk : Nat) : Int)), (8, .slice (some ⟨y1.1, 0, none⟩) ((toL a).length + 1) ((toL a).length + 1)), (102, .int .i64 (((toL b).length : Nat) : Int)), (125, .int .i64 (IntKind.i64.wrap (((k : Nat) : Int) + 1)))]) k_ ?_
      rw [show IntKind.i64.wrap (((k : Nat) : Int) + 1) = ((k + 1 : Nat) : Int) from by rw [IntKind.wrap_i64]; omega]
      refine RN.bq (no 1) [4, 5, 6, 8, 102, 103] [] (k' := 2) (l' := [(4, .slice (some ⟨b7, 0, none⟩) ((((toL a).length) - ((toL b).length)) + 1) ((((toL a).length) - ((toL b).length)) + 1)), (5, .slice (some ⟨b14, 0, none⟩) ((toL b).length) ((toL b).length)), (6, .int .i64 ((kk : Nat) : Int)), (8, .slice (some ⟨y1.1, 0, none⟩) ((toL a).length + 1) ((toL a).length + 1)), (102, .int .i64 (((toL b).length : Nat) : Int)), (103, .int .i64 ((k + 1 : Nat) : Int))]) k_ ?_
      refine RN.done k_ ?_
      refine KN.roundE (k + 1, r.set k (((u.getD (k + 1) 0 * 2 ^ 32 + u.getD k 0) / 2 ^ kk) % 4294967296)) [4, 5, 6, 8, 102, 103] [0, 1, 2, 3, 4] (l2 := [(4, .slice (some ⟨b7, 0, none⟩) ((((toL a).length) - ((toL b).length)) + 1) ((((toL a).length) - ((toL b).length)) + 1)), (5, .slice (some ⟨b14, 0, none⟩) ((toL b).length) ((toL b).length)), (6, .int .i64 ((kk : Nat) : Int)), (8, .slice (some ⟨y1.1, 0, none⟩) ((toL a).length + 1) ((toL a).length + 1)), (102, .int .i64 (((toL b).length : Nat) : Int)), (103, .int .i64 ((k + 1 : Nat) : Int))]) (by (try dsimp only); omega) (by (try dsimp only); exact ⟨by omega, hR2.step hD.2.1 (by omega) (by omega)⟩) k_ (by rfl) (by rfl) (by rfl)
    · skip
      replace c16 := of_decide_eq_false c16
      have hk : k = (toL b).length := by omega
      subst hk
      have hRd := hR2.done (V := 0) hd2 hd3 (Nat.lt_of_le_of_lt (Nat.mul_le_mul_right _ (Nat.le_of_lt (Nat.mod_lt a (Nat.pos_of_mul_pos_right (by rw [hV] at hV0; exact hV0))))) (by rw [hV] at hvW; exact hvW))
      refine J.exit (KX.next (KX.next (KX.hit ?_)))
      refine KN.next ?_
      refine J.sreg ?_
      refine RN.bq (no 1) [5, 126] [] (k' := 1) (l' := [(5, .slice (some ⟨b14, 0, none⟩) ((toL b).length) ((toL b).length)), (126, .slice (some ⟨b7, 0, none⟩) ((((toL a).length) - ((toL b).length)) + 1) ((((toL a).length) - ((toL b).length)) + 1))]) k_ ?_
      refine RN.share 1 rfl rfl ?_
      refine RN.also (fU (⟨some ⟨b7, 0, none⟩, (((toL a).length) - ((toL b).length)) + 1⟩ : SA) q) (fun w h => fU_own (h _ (.head _)) x_ x_) ?_
      refine RN.turn 126 (v := .slice (some ⟨b7, 0, none⟩) ((((toL a).length) - ((toL b).length)) + 1) ((((toL a).length) - ((toL b).length)) + 1)) (v' := sl (⟨some ⟨b7, 0, none⟩, (((toL a).length) - ((toL b).length)) + 1⟩ : SA) q.length) k_ (sl_eq x_) ?_
      refine RN.call (natural_trimmed (⟨some ⟨b7, 0, none⟩, (((toL a).length) - ((toL b).length)) + 1⟩ : SA) q y_natural_divide) [0] k_ k_ k_ rfl (fun y17 _ => ?_)
      refine RN.bq (no 1) [127, 128] [] (k' := 3) (l' := [(127, sl y17 (toL (lv q)).length), (128, .slice (some ⟨b14, 0, none⟩) ((toL b).length) ((toL b).length))]) k_ ?_
      refine RN.share 0 rfl rfl ?_
      refine RN.also (fU (⟨some ⟨b14, 0, none⟩, (toL b).length⟩ : SA) r) (fun w h => fU_own (h _ (.head _)) x_ x_) ?_
      refine RN.turn 128 (v := .slice (some ⟨b14, 0, none⟩) ((toL b).length) ((toL b).length)) (v' := sl (⟨some ⟨b14, 0, none⟩, (toL b).length⟩ : SA) r.length) k_ (sl_eq x_) ?_
      refine RN.call (natural_trimmed (⟨some ⟨b14, 0, none⟩, (toL b).length⟩ : SA) r y_natural_divide) [0] k_ k_ k_ rfl (fun y18 _ => ?_)
      refine RN.bq (no 2) [4, 5] [] (k' := 6) (l' := [(4, sl y17 (toL (lv q)).length), (5, sl y18 (toL (lv r)).length)]) k_ ?_
      refine RN.done k_ ?_
      refine KN.next ?_
      have e_1 : (toL (a / b)) = (toL (lv q)) := by first | rw [hd1] | rw [hRd.2]
      have e_2 : (toL (a % b)) = (toL (lv r)) := by first | rw [hd1] | rw [hRd.2]
      refine J.ret (KR.ret (v := .tuple #[sl y17 (toL (lv q)).length, sl y18 (toL (lv r)).length]) (⟨y17, y18⟩) [none, none] [3, 0] [] k_ v2_ (trivial) v2_)
end Go.Proofs.YtegnonhgildhoaaGreat.E
