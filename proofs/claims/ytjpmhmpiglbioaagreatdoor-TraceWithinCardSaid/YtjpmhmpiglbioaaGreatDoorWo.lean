/- Part of the proof: an evaluator of the model's code over pure trees, and what it computes. No condition of its own. -/
import Derived.Test.YtjpmhmpiglbioaaGreatDoorWm
import Derived.Test.YtjpmhmpiglbioaaGreatDoorWn
import Derived.Test.YtjpmhmpiglbioaaGreatDoorWf
import Derived.ProofKit
import Derived.OpenShut
import Derived.Test.YtjpmhmpiglbioaaGreatDoorRows
import Derived.LaidMore
import Derived.Stop.Joined
set_option linter.unusedSimpArgs false
set_option linter.unusedVariables false
namespace Go.Wn
open Go Go.Proofs
theorem esc12_2 : env1.esc 12 2 = false := by kernel_rfl
theorem esc12_3 : env1.esc 12 3 = false := by kernel_rfl

noncomputable def bd12 : Code := match Tryz.f12.body with | some c => c | none => .skip
theorem bz77 : buildV env1.Q true 77 [] = some (.p (.agg [.i .i64 0, .i .i64 0, .nils, .nils, .nils, .nils])) := by kernel_rfl
theorem eqb4 (a b : Bool) : eqD env1.Q 4 (.p (.b a)) (.p (.b b)) = some (a == b) := by cases a <;> cases b <;> kernel_rfl

theorem smallS_b {c n k w : SL} {sp : Int} (h : smallS c n k w sp = true) : c.l.length ≤ 20 ∧ n.l.length ≤ 20 ∧ k.l.length ≤ 20 ∧ w.l.length ≤ 20 := by
  unfold smallS at h
  simp only [Bool.and_eq_true, decide_eq_true_eq] at h
  omega

set_option maxRecDepth 100000 in
set_option maxHeartbeats 4000000 in
theorem run12 (st1 sp1 : Int) (c1 n1 k1 w1 : SL) (st2 sp2 : Int) (c2 n2 k2 w2 : SL) (hc1 : ∀ e ∈ c1.l, ∃ x y z, e = t3 x y z) (hn1 : ∀ e ∈ n1.l, ∃ x, e = t1 x) (hk1 : ∀ e ∈ k1.l, ∃ x y, e = t2 x y) (hw1 : ∀ e ∈ w1.l, ∃ x y z, e = t3 x y z) (hc2 : ∀ e ∈ c2.l, ∃ x y z, e = t3 x y z) (hn2 : ∀ e ∈ n2.l, ∃ x, e = t1 x) (hk2 : ∀ e ∈ k2.l, ∃ x y, e = t2 x y) (hw2 : ∀ e ∈ w2.l, ∃ x y z, e = t3 x y z) (K : Ctx) :
    (hand env1 201).1 K 12 [.p (.agg [.i .i64 st1, .i .i64 sp1, c1.v, n1.v, k1.v, w1.v]), .p (.agg [.i .i64 st2, .i .i64 sp2, c2.v, n2.v, k2.v, w2.v])] [] = some (.p (.b true), []) := by
  have hm : Pm ⟨[], []⟩ := ⟨(fun _ h => nomatch h), (fun _ h => nomatch h)⟩
  generalize hh : ([] : Heap) = h at *
  have hst : Pf (start [.p (.agg [.i .i64 st1, .i .i64 sp1, c1.v, n1.v, k1.v, w1.v]), .p (.agg [.i .i64 st2, .i .i64 sp2, c2.v, n2.v, k2.v, w2.v])]) := Pf.start fun x hx => by
    simp only [List.mem_cons, List.mem_nil_iff, or_false] at hx
    rcases hx with rfl | rfl <;> rfl
  generalize hfr : start [.p (.agg [.i .i64 st1, .i .i64 sp1, c1.v, n1.v, k1.v, w1.v]), .p (.agg [.i .i64 st2, .i .i64 sp2, c2.v, n2.v, k2.v, w2.v])] = fr at hst
  have g0 : rd fr 0 = .p (.agg [.i .i64 st1, .i .i64 sp1, c1.v, n1.v, k1.v, w1.v]) := by rw [← hfr, rd_start]; rfl
  have g1 : rd fr 1 = .p (.agg [.i .i64 st2, .i .i64 sp2, c2.v, n2.v, k2.v, w2.v]) := by rw [← hfr, rd_start]; rfl
  have hm1 : Pm ⟨[[.p (.i .i64 st1), .p (.i .i64 sp1), .p (c1.v), .p (n1.v), .p (k1.v), .p (w1.v)], [.p (.i .i64 st2), .p (.i .i64 sp2), .p (c2.v), .p (n2.v), .p (k2.v), .p (w2.v)]], h⟩ := ⟨(fun cs hc => by
    simp only [List.mem_cons, List.mem_nil_iff, or_false] at hc
    rcases hc with rfl | rfl <;> rfl), hm.h⟩
  have hm2 : Pm ⟨[[.p (.i .i64 st1), .p (.i .i64 sp1), .p (c1.v), .p (n1.v), .p (k1.v), .p (w1.v)]], h⟩ := ⟨(fun cs hc => by
    simp only [List.mem_cons, List.mem_nil_iff, or_false] at hc
    subst hc; rfl), hm.h⟩
  rw [hand_fn (by kernel_rfl) (show env1.Q.fn 12 = some Tryz.f12 by kernel_rfl)]
  have hw : (hand env1 200).1 ⟨h.length, h.length⟩ 43 [] h = some (.p (.b true), h) := by subst hh; exact awake15
  have qs1 := run48 st1 sp1 c1 n1 k1 w1 h hm ⟨h.length, h.length⟩ 200 (by omega)
  have qs2 := run48 st2 sp2 c2 n2 k2 w2 h hm ⟨h.length, h.length⟩ 200 (by omega)
  have body : ∃ fr2 m2, evCode env1 (hand env1 200).1 (hand env1 200).2 ⟨h.length, h.length⟩ 12 bd12 ⟨fr, ⟨[], h⟩⟩ = some (.ret, ⟨fr2, m2⟩) ∧ rd fr2 4 = .p (.b true) := by
    cases e1 : smallS c1 n1 k1 w1 sp1
    · rw [e1] at qs1
      simp (config := { maxDischargeDepth := 80 }) only [bd12, Tryz.f12, ev_skip, ev_reg, ev_seq, contC_n, contC_r, contC_x, ev_cond, condC_t, condC_f, ev_block, blockC_n, blockC_r, blockC_x, ev_loop, ev_exit, ev_ret, evReg, evL_nil, evL_cons, stepW_t, stepW_f, stepO_t, stepO_d, bft, btf, bff, btt, wantedV, evOp, argOf, cp, binV, intBin, putF, rd_setF, Option.map_some, Option.bind_some, if_true, Bool.true_or, decide_true, toB, takeS_pf, takeS_c, if_false, Pf.p, Pf.lp, Pf.pt, Pf.cl, Pf.nv, List.all_cons, List.all_nil, Bool.and_true, constV, constCell, nf1, ld, getCells, List.length_cons, List.length_nil, Nat.reduceEqDiff, reduceIte, Nat.reduceAdd, Nat.reduceLeDiff, List.take_succ_cons, List.take_zero, List.drop_zero, ofCells, mkAgg, mapO, V.isP, Bool.false_or, beq_self_eq_true, Bool.false_eq_true, cpL, vc_agg, vc_pagg, vc_i, PV.cells, List.map_cons, List.map_nil, Nat.zero_add, List.getElem?_cons_zero, List.getElem?_cons_succ, ↓SL.cells, ↓SL.vcells, ↓SL.cellOk, g0, g1, hst, hm, evCall, lfL, lf, argsOf, List.contains_nil, ite_self, List.nil_append, List.cons_append, List.append_nil, and_self, newVarV, V.cellOk, Option.getD_some, List.nil_append, List.cons_append, Bool.or_self, z77, a77, hm1, hm2, List.dropLast_cons_cons, List.dropLast_singleton, List.getLast?_cons_cons, List.getLast?_singleton, lastC_s, lastW_t, evL_cons, stepO_d', addOff, Nat.one_ne_zero, unV, esc12_2, esc12_3, List.getElem?_toArray, Bool.and_true, Bool.true_and, Bool.and_false, Bool.false_and, Bool.not_true, Bool.not_false, Bool.not_not, bz77, eqb4, takesOf, List.zip_nil_left, List.map_nil, okb43, tk43, okb46, tk46, okb47, tk47, okb48, tk48, hw, qs1, qs2]
      exact ⟨_, _, rfl, by simp (config := { maxDischargeDepth := 80 }) only [ev_skip, ev_reg, ev_seq, contC_n, contC_r, contC_x, ev_cond, condC_t, condC_f, ev_block, blockC_n, blockC_r, blockC_x, ev_loop, ev_exit, ev_ret, evReg, evL_nil, evL_cons, stepW_t, stepW_f, stepO_t, stepO_d, bft, btf, bff, btt, wantedV, evOp, argOf, cp, binV, intBin, putF, rd_setF, Option.map_some, Option.bind_some, if_true, Bool.true_or, decide_true, toB, takeS_pf, takeS_c, if_false, Pf.p, Pf.lp, Pf.pt, Pf.cl, Pf.nv, List.all_cons, List.all_nil, Bool.and_true, constV, constCell, nf1, ld, getCells, List.length_cons, List.length_nil, Nat.reduceEqDiff, reduceIte, Nat.reduceAdd, Nat.reduceLeDiff, List.take_succ_cons, List.take_zero, List.drop_zero, ofCells, mkAgg, mapO, V.isP, Bool.false_or, beq_self_eq_true, Bool.false_eq_true, cpL, vc_agg, vc_pagg, vc_i, PV.cells, List.map_cons, List.map_nil, Nat.zero_add, List.getElem?_cons_zero, List.getElem?_cons_succ, ↓SL.cells, ↓SL.vcells, ↓SL.cellOk, g0, g1, hst, hm, evCall, lfL, lf, argsOf, List.contains_nil, ite_self, List.nil_append, List.cons_append, List.append_nil, and_self, newVarV, V.cellOk, Option.getD_some, List.nil_append, List.cons_append, Bool.or_self, z77, a77, hm1, hm2, List.dropLast_cons_cons, List.dropLast_singleton, List.getLast?_cons_cons, List.getLast?_singleton, lastC_s, lastW_t, evL_cons, stepO_d', addOff, Nat.one_ne_zero, unV, esc12_2, esc12_3, List.getElem?_toArray, Bool.and_true, Bool.true_and, Bool.and_false, Bool.false_and, Bool.not_true, Bool.not_false, Bool.not_not, bz77, eqb4, takesOf, List.zip_nil_left, List.map_nil, okb43, tk43, okb46, tk46, okb47, tk47, okb48, tk48, hw, qs1, qs2]⟩
    cases e2 : smallS c2 n2 k2 w2 sp2
    · rw [e1] at qs1
      rw [e2] at qs2
      simp (config := { maxDischargeDepth := 80 }) only [bd12, Tryz.f12, ev_skip, ev_reg, ev_seq, contC_n, contC_r, contC_x, ev_cond, condC_t, condC_f, ev_block, blockC_n, blockC_r, blockC_x, ev_loop, ev_exit, ev_ret, evReg, evL_nil, evL_cons, stepW_t, stepW_f, stepO_t, stepO_d, bft, btf, bff, btt, wantedV, evOp, argOf, cp, binV, intBin, putF, rd_setF, Option.map_some, Option.bind_some, if_true, Bool.true_or, decide_true, toB, takeS_pf, takeS_c, if_false, Pf.p, Pf.lp, Pf.pt, Pf.cl, Pf.nv, List.all_cons, List.all_nil, Bool.and_true, constV, constCell, nf1, ld, getCells, List.length_cons, List.length_nil, Nat.reduceEqDiff, reduceIte, Nat.reduceAdd, Nat.reduceLeDiff, List.take_succ_cons, List.take_zero, List.drop_zero, ofCells, mkAgg, mapO, V.isP, Bool.false_or, beq_self_eq_true, Bool.false_eq_true, cpL, vc_agg, vc_pagg, vc_i, PV.cells, List.map_cons, List.map_nil, Nat.zero_add, List.getElem?_cons_zero, List.getElem?_cons_succ, ↓SL.cells, ↓SL.vcells, ↓SL.cellOk, g0, g1, hst, hm, evCall, lfL, lf, argsOf, List.contains_nil, ite_self, List.nil_append, List.cons_append, List.append_nil, and_self, newVarV, V.cellOk, Option.getD_some, List.nil_append, List.cons_append, Bool.or_self, z77, a77, hm1, hm2, List.dropLast_cons_cons, List.dropLast_singleton, List.getLast?_cons_cons, List.getLast?_singleton, lastC_s, lastW_t, evL_cons, stepO_d', addOff, Nat.one_ne_zero, unV, esc12_2, esc12_3, List.getElem?_toArray, Bool.and_true, Bool.true_and, Bool.and_false, Bool.false_and, Bool.not_true, Bool.not_false, Bool.not_not, bz77, eqb4, takesOf, List.zip_nil_left, List.map_nil, okb43, tk43, okb46, tk46, okb47, tk47, okb48, tk48, hw, qs1, qs2]
      exact ⟨_, _, rfl, by simp (config := { maxDischargeDepth := 80 }) only [ev_skip, ev_reg, ev_seq, contC_n, contC_r, contC_x, ev_cond, condC_t, condC_f, ev_block, blockC_n, blockC_r, blockC_x, ev_loop, ev_exit, ev_ret, evReg, evL_nil, evL_cons, stepW_t, stepW_f, stepO_t, stepO_d, bft, btf, bff, btt, wantedV, evOp, argOf, cp, binV, intBin, putF, rd_setF, Option.map_some, Option.bind_some, if_true, Bool.true_or, decide_true, toB, takeS_pf, takeS_c, if_false, Pf.p, Pf.lp, Pf.pt, Pf.cl, Pf.nv, List.all_cons, List.all_nil, Bool.and_true, constV, constCell, nf1, ld, getCells, List.length_cons, List.length_nil, Nat.reduceEqDiff, reduceIte, Nat.reduceAdd, Nat.reduceLeDiff, List.take_succ_cons, List.take_zero, List.drop_zero, ofCells, mkAgg, mapO, V.isP, Bool.false_or, beq_self_eq_true, Bool.false_eq_true, cpL, vc_agg, vc_pagg, vc_i, PV.cells, List.map_cons, List.map_nil, Nat.zero_add, List.getElem?_cons_zero, List.getElem?_cons_succ, ↓SL.cells, ↓SL.vcells, ↓SL.cellOk, g0, g1, hst, hm, evCall, lfL, lf, argsOf, List.contains_nil, ite_self, List.nil_append, List.cons_append, List.append_nil, and_self, newVarV, V.cellOk, Option.getD_some, List.nil_append, List.cons_append, Bool.or_self, z77, a77, hm1, hm2, List.dropLast_cons_cons, List.dropLast_singleton, List.getLast?_cons_cons, List.getLast?_singleton, lastC_s, lastW_t, evL_cons, stepO_d', addOff, Nat.one_ne_zero, unV, esc12_2, esc12_3, List.getElem?_toArray, Bool.and_true, Bool.true_and, Bool.and_false, Bool.false_and, Bool.not_true, Bool.not_false, Bool.not_not, bz77, eqb4, takesOf, List.zip_nil_left, List.map_nil, okb43, tk43, okb46, tk46, okb47, tk47, okb48, tk48, hw, qs1, qs2]⟩
    obtain ⟨_, _, _, _⟩ := smallS_b e1
    obtain ⟨_, _, _, _⟩ := smallS_b e2
    rw [e1] at qs1
    rw [e2] at qs2
    have bc1 : c1.l.length < 2 ^ 40 := by omega
    have bn1 : n1.l.length < 2 ^ 40 := by omega
    have bk1 : k1.l.length < 2 ^ 40 := by omega
    have bw1 : w1.l.length < 2 ^ 40 := by omega
    have bc2 : c2.l.length < 2 ^ 40 := by omega
    have bn2 : n2.l.length < 2 ^ 40 := by omega
    have bk2 : k2.l.length < 2 ^ 40 := by omega
    have bw2 : w2.l.length < 2 ^ 40 := by omega
    have q1 := run46 st1 sp1 c1 n1 k1 w1 st2 sp2 c2 n2 k2 w2 hc1 bc1 hn1 bn1 hk1 bk1 hw1 bw1 hc2 bc2 hn2 bn2 hk2 bk2 hw2 bw2 h hm ⟨h.length, h.length⟩ 200 (by omega)
    have q2 := run47 st1 sp1 c1 n1 k1 w1 st2 sp2 c2 n2 k2 w2 hc1 bc1 hn1 bn1 hk1 bk1 hw1 bw1 hc2 bc2 hn2 bn2 hk2 bk2 hw2 bw2 h hm ⟨h.length, h.length⟩ 200 (by omega)
    have q3 := run46 st1 sp1 c1 n1 k1 w1 st1 sp1 c1 n1 k1 w1 hc1 bc1 hn1 bn1 hk1 bk1 hw1 bw1 hc1 bc1 hn1 bn1 hk1 bk1 hw1 bw1 h hm ⟨h.length, h.length⟩ 200 (by omega)
    have q4 := run46 0 0 SLn SLn SLn SLn st2 sp2 c2 n2 k2 w2 (fun _ h => nomatch h) (by decide) (fun _ h => nomatch h) (by decide) (fun _ h => nomatch h) (by decide) (fun _ h => nomatch h) (by decide) hc2 bc2 hn2 bn2 hk2 bk2 hw2 bw2 h hm ⟨h.length, h.length⟩ 200 (by simp only [SLn, List.length_nil]; omega)
    rw [show allL SLn.l c2.l = true from rfl, show allL SLn.l w2.l = true from rfl, show allL SLn.l k2.l = true from rfl, show allL SLn.l n2.l = true from rfl] at q4
    simp only [allL_self, Bool.and_self, SLn_v] at q3 q4
    generalize (allL c1.l c2.l && allL w1.l w2.l && allL k1.l k2.l && allL n1.l n2.l) = r at q1 q2
    simp (config := { maxDischargeDepth := 80 }) only [bd12, Tryz.f12, ev_skip, ev_reg, ev_seq, contC_n, contC_r, contC_x, ev_cond, condC_t, condC_f, ev_block, blockC_n, blockC_r, blockC_x, ev_loop, ev_exit, ev_ret, evReg, evL_nil, evL_cons, stepW_t, stepW_f, stepO_t, stepO_d, bft, btf, bff, btt, wantedV, evOp, argOf, cp, binV, intBin, putF, rd_setF, Option.map_some, Option.bind_some, if_true, Bool.true_or, decide_true, toB, takeS_pf, takeS_c, if_false, Pf.p, Pf.lp, Pf.pt, Pf.cl, Pf.nv, List.all_cons, List.all_nil, Bool.and_true, constV, constCell, nf1, ld, getCells, List.length_cons, List.length_nil, Nat.reduceEqDiff, reduceIte, Nat.reduceAdd, Nat.reduceLeDiff, List.take_succ_cons, List.take_zero, List.drop_zero, ofCells, mkAgg, mapO, V.isP, Bool.false_or, beq_self_eq_true, Bool.false_eq_true, cpL, vc_agg, vc_pagg, vc_i, PV.cells, List.map_cons, List.map_nil, Nat.zero_add, List.getElem?_cons_zero, List.getElem?_cons_succ, ↓SL.cells, ↓SL.vcells, ↓SL.cellOk, g0, g1, hst, hm, evCall, lfL, lf, argsOf, List.contains_nil, ite_self, List.nil_append, List.cons_append, List.append_nil, and_self, newVarV, V.cellOk, Option.getD_some, List.nil_append, List.cons_append, Bool.or_self, z77, a77, hm1, hm2, List.dropLast_cons_cons, List.dropLast_singleton, List.getLast?_cons_cons, List.getLast?_singleton, lastC_s, lastW_t, evL_cons, stepO_d', addOff, Nat.one_ne_zero, unV, esc12_2, esc12_3, List.getElem?_toArray, Bool.and_true, Bool.true_and, Bool.and_false, Bool.false_and, Bool.not_true, Bool.not_false, Bool.not_not, bz77, eqb4, takesOf, List.zip_nil_left, List.map_nil, okb43, tk43, okb46, tk46, okb47, tk47, okb48, tk48, hw, qs1, qs2]
    rw [evRegL]
    rotate_left
    · rfl
    · kernel_rfl
    · kernel_rfl
    · kernel_rfl
    cases r
    · simp (config := { maxDischargeDepth := 80 }) only [ev_skip, ev_reg, ev_seq, contC_n, contC_r, contC_x, ev_cond, condC_t, condC_f, ev_block, blockC_n, blockC_r, blockC_x, ev_loop, ev_exit, ev_ret, evReg, evL_nil, evL_cons, stepW_t, stepW_f, stepO_t, stepO_d, bft, btf, bff, btt, wantedV, evOp, argOf, cp, binV, intBin, putF, rd_setF, Option.map_some, Option.bind_some, if_true, Bool.true_or, decide_true, toB, takeS_pf, takeS_c, if_false, Pf.p, Pf.lp, Pf.pt, Pf.cl, Pf.nv, List.all_cons, List.all_nil, Bool.and_true, constV, constCell, nf1, ld, getCells, List.length_cons, List.length_nil, Nat.reduceEqDiff, reduceIte, Nat.reduceAdd, Nat.reduceLeDiff, List.take_succ_cons, List.take_zero, List.drop_zero, ofCells, mkAgg, mapO, V.isP, Bool.false_or, beq_self_eq_true, Bool.false_eq_true, cpL, vc_agg, vc_pagg, vc_i, PV.cells, List.map_cons, List.map_nil, Nat.zero_add, List.getElem?_cons_zero, List.getElem?_cons_succ, ↓SL.cells, ↓SL.vcells, ↓SL.cellOk, g0, g1, hst, hm, evCall, lfL, lf, argsOf, List.contains_nil, ite_self, List.nil_append, List.cons_append, List.append_nil, and_self, newVarV, V.cellOk, Option.getD_some, List.nil_append, List.cons_append, Bool.or_self, z77, a77, hm1, hm2, List.dropLast_cons_cons, List.dropLast_singleton, List.getLast?_cons_cons, List.getLast?_singleton, lastC_s, lastW_t, evL_cons, stepO_d', addOff, Nat.one_ne_zero, unV, esc12_2, esc12_3, List.getElem?_toArray, Bool.and_true, Bool.true_and, Bool.and_false, Bool.false_and, Bool.not_true, Bool.not_false, Bool.not_not, bz77, eqb4, takesOf, List.zip_nil_left, List.map_nil, okb43, tk43, okb46, tk46, okb47, tk47, okb48, tk48, hw, qs1, qs2, q1, q2, q3, q4]
      exact ⟨_, _, rfl, by simp (config := { maxDischargeDepth := 80 }) only [ev_skip, ev_reg, ev_seq, contC_n, contC_r, contC_x, ev_cond, condC_t, condC_f, ev_block, blockC_n, blockC_r, blockC_x, ev_loop, ev_exit, ev_ret, evReg, evL_nil, evL_cons, stepW_t, stepW_f, stepO_t, stepO_d, bft, btf, bff, btt, wantedV, evOp, argOf, cp, binV, intBin, putF, rd_setF, Option.map_some, Option.bind_some, if_true, Bool.true_or, decide_true, toB, takeS_pf, takeS_c, if_false, Pf.p, Pf.lp, Pf.pt, Pf.cl, Pf.nv, List.all_cons, List.all_nil, Bool.and_true, constV, constCell, nf1, ld, getCells, List.length_cons, List.length_nil, Nat.reduceEqDiff, reduceIte, Nat.reduceAdd, Nat.reduceLeDiff, List.take_succ_cons, List.take_zero, List.drop_zero, ofCells, mkAgg, mapO, V.isP, Bool.false_or, beq_self_eq_true, Bool.false_eq_true, cpL, vc_agg, vc_pagg, vc_i, PV.cells, List.map_cons, List.map_nil, Nat.zero_add, List.getElem?_cons_zero, List.getElem?_cons_succ, ↓SL.cells, ↓SL.vcells, ↓SL.cellOk, g0, g1, hst, hm, evCall, lfL, lf, argsOf, List.contains_nil, ite_self, List.nil_append, List.cons_append, List.append_nil, and_self, newVarV, V.cellOk, Option.getD_some, List.nil_append, List.cons_append, Bool.or_self, z77, a77, hm1, hm2, List.dropLast_cons_cons, List.dropLast_singleton, List.getLast?_cons_cons, List.getLast?_singleton, lastC_s, lastW_t, evL_cons, stepO_d', addOff, Nat.one_ne_zero, unV, esc12_2, esc12_3, List.getElem?_toArray, Bool.and_true, Bool.true_and, Bool.and_false, Bool.false_and, Bool.not_true, Bool.not_false, Bool.not_not, bz77, eqb4, takesOf, List.zip_nil_left, List.map_nil, okb43, tk43, okb46, tk46, okb47, tk47, okb48, tk48, hw, qs1, qs2]⟩
    · simp (config := { maxDischargeDepth := 80 }) only [ev_skip, ev_reg, ev_seq, contC_n, contC_r, contC_x, ev_cond, condC_t, condC_f, ev_block, blockC_n, blockC_r, blockC_x, ev_loop, ev_exit, ev_ret, evReg, evL_nil, evL_cons, stepW_t, stepW_f, stepO_t, stepO_d, bft, btf, bff, btt, wantedV, evOp, argOf, cp, binV, intBin, putF, rd_setF, Option.map_some, Option.bind_some, if_true, Bool.true_or, decide_true, toB, takeS_pf, takeS_c, if_false, Pf.p, Pf.lp, Pf.pt, Pf.cl, Pf.nv, List.all_cons, List.all_nil, Bool.and_true, constV, constCell, nf1, ld, getCells, List.length_cons, List.length_nil, Nat.reduceEqDiff, reduceIte, Nat.reduceAdd, Nat.reduceLeDiff, List.take_succ_cons, List.take_zero, List.drop_zero, ofCells, mkAgg, mapO, V.isP, Bool.false_or, beq_self_eq_true, Bool.false_eq_true, cpL, vc_agg, vc_pagg, vc_i, PV.cells, List.map_cons, List.map_nil, Nat.zero_add, List.getElem?_cons_zero, List.getElem?_cons_succ, ↓SL.cells, ↓SL.vcells, ↓SL.cellOk, g0, g1, hst, hm, evCall, lfL, lf, argsOf, List.contains_nil, ite_self, List.nil_append, List.cons_append, List.append_nil, and_self, newVarV, V.cellOk, Option.getD_some, List.nil_append, List.cons_append, Bool.or_self, z77, a77, hm1, hm2, List.dropLast_cons_cons, List.dropLast_singleton, List.getLast?_cons_cons, List.getLast?_singleton, lastC_s, lastW_t, evL_cons, stepO_d', addOff, Nat.one_ne_zero, unV, esc12_2, esc12_3, List.getElem?_toArray, Bool.and_true, Bool.true_and, Bool.and_false, Bool.false_and, Bool.not_true, Bool.not_false, Bool.not_not, bz77, eqb4, takesOf, List.zip_nil_left, List.map_nil, okb43, tk43, okb46, tk46, okb47, tk47, okb48, tk48, hw, qs1, qs2, q1, q2, q3, q4]
      exact ⟨_, _, rfl, by simp (config := { maxDischargeDepth := 80 }) only [ev_skip, ev_reg, ev_seq, contC_n, contC_r, contC_x, ev_cond, condC_t, condC_f, ev_block, blockC_n, blockC_r, blockC_x, ev_loop, ev_exit, ev_ret, evReg, evL_nil, evL_cons, stepW_t, stepW_f, stepO_t, stepO_d, bft, btf, bff, btt, wantedV, evOp, argOf, cp, binV, intBin, putF, rd_setF, Option.map_some, Option.bind_some, if_true, Bool.true_or, decide_true, toB, takeS_pf, takeS_c, if_false, Pf.p, Pf.lp, Pf.pt, Pf.cl, Pf.nv, List.all_cons, List.all_nil, Bool.and_true, constV, constCell, nf1, ld, getCells, List.length_cons, List.length_nil, Nat.reduceEqDiff, reduceIte, Nat.reduceAdd, Nat.reduceLeDiff, List.take_succ_cons, List.take_zero, List.drop_zero, ofCells, mkAgg, mapO, V.isP, Bool.false_or, beq_self_eq_true, Bool.false_eq_true, cpL, vc_agg, vc_pagg, vc_i, PV.cells, List.map_cons, List.map_nil, Nat.zero_add, List.getElem?_cons_zero, List.getElem?_cons_succ, ↓SL.cells, ↓SL.vcells, ↓SL.cellOk, g0, g1, hst, hm, evCall, lfL, lf, argsOf, List.contains_nil, ite_self, List.nil_append, List.cons_append, List.append_nil, and_self, newVarV, V.cellOk, Option.getD_some, List.nil_append, List.cons_append, Bool.or_self, z77, a77, hm1, hm2, List.dropLast_cons_cons, List.dropLast_singleton, List.getLast?_cons_cons, List.getLast?_singleton, lastC_s, lastW_t, evL_cons, stepO_d', addOff, Nat.one_ne_zero, unV, esc12_2, esc12_3, List.getElem?_toArray, Bool.and_true, Bool.true_and, Bool.and_false, Bool.false_and, Bool.not_true, Bool.not_false, Bool.not_not, bz77, eqb4, takesOf, List.zip_nil_left, List.map_nil, okb43, tk43, okb46, tk46, okb47, tk47, okb48, tk48, hw, qs1, qs2]⟩
  obtain ⟨fr2, m2, he, hv⟩ := body
  exact body2 (fn := Tryz.f12) (code := bd12) rfl (by kernel_rfl) rfl (by show (2 : Nat) ≤ Tryz.f12.ntmps; decide) (by rw [hfr]; exact he) (.inr rfl) hv

end Go.Wn

namespace Go.Wn
open Go

/-! Arguments of a call, as pure trees over memory that stays. -/

/-- all that lies there stays -/
def X0 (w : World) (B : Nat) : Nat := match w.heap[B]? with
  | some (.cells ys _ _) => ys.size
  | some (.map _ _) => 1
  | _ => 0

theorem X0_cell {w : World} {B o : Nat} {y : Value} (h : w.cell? ⟨B, o, none⟩ = some y) : o < X0 w B := by
  unfold World.cell? at h
  unfold X0
  simp only at h
  cases hb : w.heap[B]? with
  | none => simp [hb] at h
  | some x =>
    rw [hb] at h
    cases x with
    | cells c e fr =>
      simp only at h ⊢
      have : c[o]? = some y := by simpa using h
      exact (Array.getElem?_eq_some_iff.1 this).1
    | _ => simp at h

theorem X0_new {w : World} {B : Nat} (h : w.heap.size ≤ B) : X0 w B = 0 := by
  unfold X0
  rw [Array.getElem?_eq_none h]

theorem list_of {α : Type} {Q : Nat → α → Prop} : ∀ (n : Nat), (∀ i, i < n → ∃ e, Q i e) → ∃ l : List α, l.length = n ∧ ∀ i e, l[i]? = some e → Q i e
  | 0, _ => ⟨[], rfl, by simp⟩
  | n + 1, h => by
    obtain ⟨l, hl, hq⟩ := list_of n fun i hi => h i (by omega)
    obtain ⟨e, he⟩ := h n (by omega)
    refine ⟨l ++ [e], by simp [hl], fun i x hx => ?_⟩
    rcases Nat.lt_or_ge i l.length with hi | hi
    · rw [List.getElem?_append_left hi] at hx
      exact hq i x hx
    · rw [List.getElem?_append_right hi] at hx
      have : i - l.length = 0 := by
        rcases Nat.eq_zero_or_pos (i - l.length) with h | h
        · exact h
        · rw [List.getElem?_eq_none (by simp; omega)] at hx; cases hx
      rw [this] at hx
      simp at hx
      have e2 : i = n := by omega
      rw [e2, ← hx]; exact he

theorem add_none {a : Addr} (h : a.spot = none) (k : Nat) : a.add k = ⟨a.block, a.off + k, none⟩ := by
  unfold Addr.add
  split
  · rename_i hk
    subst hk
    obtain ⟨b, o, s⟩ := a
    simp at h
    simp [h]
  · rfl

theorem rep_lst {w : World} {a : Addr} {len cap sz : Nat} {S : PV → Prop} (hcap : len ≤ cap) (hsz : 0 < sz)
    (h : ∀ i, i < len → ∃ e : PV, S e ∧ e.cells.length = sz ∧ ∀ j c, e.cells[j]? = some c → ∃ y, w.cell? (a.add (i * sz + j)) = some y ∧ RepP w (X0 w) c y) :
    ∃ es : List PV, RepP w (X0 w) (.lst es) (.slice (some a) len cap) ∧ es.length = len ∧ ∀ e ∈ es, S e := by
  obtain ⟨es, hl, hq⟩ := list_of len h
  have hS : ∀ e ∈ es, S e := fun e he => by
    obtain ⟨i, hi⟩ := List.getElem?_of_mem he
    exact (hq i e hi).1
  rcases Nat.eq_zero_or_pos len with h0 | hpos
  · have : es = [] := List.eq_nil_of_length_eq_zero (by omega)
    subst this
    subst h0
    exact ⟨[], .lst [] (some a) cap 0 0 0 (fun _ _ => undef) (.inl rfl) (by simp) (by simp) (by simp) (by simp), rfl, hS⟩
  have hsp : a.spot = none := by
    have h0 : 0 < es.length := by omega
    have he := List.getElem?_eq_getElem (l := es) (i := 0) h0
    obtain ⟨_, h2, h3⟩ := hq 0 _ he
    have hc := List.getElem?_eq_getElem (l := es[0].cells) (i := 0) (by omega)
    obtain ⟨y, hy, _⟩ := h3 0 _ hc
    have := World.cell?_spot hy
    simpa [Addr.add] using this
  have hr : RepP w (X0 w) (.lst es) (.slice (some a) es.length cap) := by
    refine .lst es (some a) cap sz a.block a.off (fun i j => (w.cell? ⟨a.block, a.off + (i * sz + j), none⟩).getD undef) (.inr ?_) (fun i e hi => (hq i e hi).2.1) (by omega) (fun i e j c hi hj => ?_) (fun i e j c hi hj => ?_)
    · obtain ⟨b, o, s⟩ := a
      simp at hsp
      rw [hsp]
    · obtain ⟨y, hy, _⟩ := (hq i e hi).2.2 j c hj
      rw [add_none hsp] at hy
      exact ⟨X0_cell hy, by rw [hy]; rfl⟩
    · obtain ⟨y, hy, hr⟩ := (hq i e hi).2.2 j c hj
      rw [add_none hsp] at hy
      rw [hy]; exact hr
  refine ⟨es, ?_, hl, hS⟩
  rw [← hl]; exact hr

section
variable {H : Type} {enc : TypeId × Value → H} {P : Program} {w : World} {base : Nat} {spare : Nat → Bool} {held : Bool} {fuel : Nat} {t : TypeId} {cs : List Value} {x : DataW H × List MemPlace}

/-- a slice of numbers -/
theorem open_lst {e : TypeId} {k : IntKind} (ht : P.underlying t = some (.slice e)) (he : P.underlying e = some (.int k)) (hc : P.cellsOf e = 1) (h : DataW.trod enc P w base spare held fuel t cs = some x) :
    (cs = [.slice none 0 0]) ∨ ∃ (es : List PV) (y : Value), cs = [y] ∧ RepP w (X0 w) (.lst es) y ∧ ∀ e ∈ es, ∃ n, e = .i k n := by
  rcases DataW.trod_slice ht h with ⟨h0, _⟩ | ⟨a, len, cap, elems, rest, n, _, rfl, _, _, hl, _, hlen, hel, _, _⟩
  · exact .inl h0
  · refine .inr ?_
    obtain ⟨es, hr, _, hS⟩ := rep_lst (w := w) (a := a) (len := len) (cap := cap) (sz := 1) (S := fun e => ∃ n, e = .i k n) hl (by omega) fun i hi => by
      have h1 := hel i hi
      rw [List.getElem?_eq_getElem (by omega : i < elems.length), hc, Nat.mul_one, Option.bind_eq_some_iff] at h1
      obtain ⟨cs', hcs, hy⟩ := h1
      obtain ⟨m, rfl, _, _⟩ := DataW.trod_int he hy
      have := (World.cells?_some hcs).2.2 0 (by omega)
      refine ⟨.i k m, ⟨m, rfl⟩, rfl, fun j c hj => ?_⟩
      have hj0 : j = 0 := by
        cases j with
        | zero => rfl
        | succ j => simp [PV.cells] at hj
      subst hj0
      simp [PV.cells] at hj
      subst hj
      exact ⟨_, by simpa [Addr.add] using this, .i k m⟩
    exact ⟨es, _, rfl, hr, hS⟩

/-- an array of numbers, cell by cell -/
theorem row_of {e u : TypeId} {k : IntKind} {n : Nat} (he : P.underlying e = some (.array n u)) (hu : P.underlying u = some (.int k)) (hcu : P.cellsOf u = 1) (hce : P.cellsOf e = n) (h : DataW.trod enc P w base spare held fuel e cs = some x) :
    ∃ zs : List Int, zs.length = n ∧ cs = zs.map (.int k) := by
  obtain ⟨xs, m, _, _, hl, hn, hel⟩ := DataW.trod_array he h
  rw [hce] at hl
  obtain ⟨zs, hzl, hz⟩ := list_of (Q := fun i z => cs[i]? = some (.int k z)) n fun i hi => by
    have h1 := hel i hi
    rw [List.getElem?_eq_getElem (by omega : i < xs.length), hcu, Nat.mul_one] at h1
    obtain ⟨z, hz, _, _⟩ := DataW.trod_int hu h1
    refine ⟨z, ?_⟩
    have := congrArg (fun l => l[0]?) hz
    simpa using this
  refine ⟨zs, hzl, List.ext_getElem? fun i => ?_⟩
  rw [List.getElem?_map]
  rcases Nat.lt_or_ge i n with hi | hi
  · rw [hz i zs[i] (List.getElem?_eq_getElem (by omega)), List.getElem?_eq_getElem (by omega)]; rfl
  · rw [List.getElem?_eq_none (by omega), List.getElem?_eq_none (by omega)]; rfl

/-- a slice of arrays of numbers -/
theorem open_rows {e u : TypeId} {k : IntKind} {n : Nat} (ht : P.underlying t = some (.slice e)) (he : P.underlying e = some (.array n u)) (hu : P.underlying u = some (.int k)) (hcu : P.cellsOf u = 1) (hce : P.cellsOf e = n) (hn : 0 < n)
    (h : DataW.trod enc P w base spare held fuel t cs = some x) :
    (cs = [.slice none 0 0]) ∨ ∃ (es : List PV) (y : Value), cs = [y] ∧ RepP w (X0 w) (.lst es) y ∧ ∀ e ∈ es, ∃ zs : List Int, zs.length = n ∧ e = .agg (zs.map (.i k)) := by
  rcases DataW.trod_slice ht h with ⟨h0, _⟩ | ⟨a, len, cap, elems, rest, m, _, rfl, _, _, hl, _, hlen, hel, _, _⟩
  · exact .inl h0
  · refine .inr ?_
    obtain ⟨es, hr, _, hS⟩ := rep_lst (w := w) (a := a) (len := len) (cap := cap) (sz := n) (S := fun e => ∃ zs : List Int, zs.length = n ∧ e = .agg (zs.map (.i k))) hl hn fun i hi => by
      have h1 := hel i hi
      rw [List.getElem?_eq_getElem (by omega : i < elems.length), hce, Option.bind_eq_some_iff] at h1
      obtain ⟨cs', hcs, hy⟩ := h1
      obtain ⟨zs, hzl, rfl⟩ := row_of he hu hcu hce hy
      refine ⟨.agg (zs.map (.i k)), ⟨zs, hzl, rfl⟩, by simpa [PV.cells] using hzl, fun j c hj => ?_⟩
      simp only [PV.cells, List.getElem?_map, Option.map_eq_some_iff] at hj
      obtain ⟨z, hz, rfl⟩ := hj
      have hjl : j < n := by rw [← hzl]; exact lt_of_get hz
      have h2 := (World.cells?_some hcs).2.2 j hjl
      rw [List.getElem?_map, hz] at h2
      refine ⟨_, ?_, .i k z⟩
      have hs := World.cell?_spot h2
      have e1 : (a.add (i * n)).add j = a.add (i * n + j) := by
        generalize i * n = q
        unfold Addr.add
        by_cases hj0 : j = 0
        · subst hj0; simp
        · by_cases hq : q = 0
          · subst hq; simp
          · simp [hq, hj0, Nat.add_assoc]
      rw [e1] at h2
      exact h2
    exact ⟨es, _, rfl, hr, hS⟩
end
end Go.Wn

namespace Go.Wn
open Go Go.Proofs Go.RowKit

section
variable {H : Type} {enc : TypeId × Value → H} {w : World} {base : Nat} {spare : Nat → Bool} {held : Bool} {fuel : Nat} {cs : List Value} {x : DataW H × List MemPlace}

/-- a slice that was opened -/
theorem sl_of {S : PV → Prop} (h : cs = [.slice none 0 0] ∨ ∃ (es : List PV) (y : Value), cs = [y] ∧ RepP w (X0 w) (.lst es) y ∧ ∀ e ∈ es, S e) :
    ∃ (l : SL) (y : Value), cs = [y] ∧ RepP w (X0 w) l.v y ∧ ∀ e ∈ l.l, S e := by
  rcases h with rfl | ⟨es, y, rfl, hr, hS⟩
  · exact ⟨SLn, _, rfl, .nils, fun _ h => nomatch h⟩
  · exact ⟨⟨es, false⟩, y, rfl, by cases es <;> exact hr, hS⟩

theorem open_t3 (h : DataW.trod enc Tryz.prog w base spare held fuel 74 cs = some x) : ∃ (l : SL) (y : Value), cs = [y] ∧ RepP w (X0 w) l.v y ∧ ∀ e ∈ l.l, ∃ a b c, e = t3 a b c := by
  refine sl_of ((open_rows (n := 3) Tryz.underlying74 Tryz.underlying93 Tryz.underlying3 (by kernel_rfl) (by kernel_rfl) (by decide) h).imp id fun ⟨es, y, h1, h2, h3⟩ => ⟨es, y, h1, h2, fun e he => ?_⟩)
  obtain ⟨zs, hz, rfl⟩ := h3 e he
  match zs, hz with
  | [a, b, c], _ => exact ⟨a, b, c, rfl⟩
theorem open_t2 (h : DataW.trod enc Tryz.prog w base spare held fuel 75 cs = some x) : ∃ (l : SL) (y : Value), cs = [y] ∧ RepP w (X0 w) l.v y ∧ ∀ e ∈ l.l, ∃ a b, e = t2 a b := by
  refine sl_of ((open_rows (n := 2) Tryz.underlying75 Tryz.underlying193 Tryz.underlying3 (by kernel_rfl) (by kernel_rfl) (by decide) h).imp id fun ⟨es, y, h1, h2, h3⟩ => ⟨es, y, h1, h2, fun e he => ?_⟩)
  obtain ⟨zs, hz, rfl⟩ := h3 e he
  match zs, hz with
  | [a, b], _ => exact ⟨a, b, rfl⟩
theorem open_t1 (h : DataW.trod enc Tryz.prog w base spare held fuel 42 cs = some x) : ∃ (l : SL) (y : Value), cs = [y] ∧ RepP w (X0 w) l.v y ∧ ∀ e ∈ l.l, ∃ a, e = t1 a :=
  sl_of ((open_lst Tryz.underlying42 Tryz.underlying3 (by kernel_rfl) h).imp id fun ⟨es, y, h1, h2, h3⟩ => ⟨es, y, h1, h2, h3⟩)

/-- what was seen of a run -/
def seen (st sp : Int) (c n k w : SL) : PV := .agg [.i .i64 st, .i .i64 sp, c.v, n.v, k.v, w.v]

set_option maxRecDepth 100000 in
theorem open_seen {v : Value} {d : DataW H} {ps : List MemPlace} (hv : ∃ cs, v = .agg cs ∧ cs.size = Tryz.prog.cellsOf 77) (h : DataW.Trod enc Tryz.prog w base spare held 77 v d ps) :
    ∃ (st sp : Int) (c n k q : SL), RepP w (X0 w) (seen st sp c n k q) v ∧ (∀ e ∈ c.l, ∃ x y z, e = t3 x y z) ∧ (∀ e ∈ n.l, ∃ x, e = t1 x) ∧ (∀ e ∈ k.l, ∃ x y, e = t2 x y) ∧ (∀ e ∈ q.l, ∃ x y z, e = t3 x y z) := by
  obtain ⟨ys, rfl, hsz⟩ := hv
  obtain ⟨fuel, h⟩ := h
  have c77 : Tryz.prog.cellsOf 77 = 6 := by kernel_rfl
  have c3 : Tryz.prog.cellsOf 3 = 1 := by kernel_rfl
  have c74 : Tryz.prog.cellsOf 74 = 1 := by kernel_rfl
  have c42 : Tryz.prog.cellsOf 42 = 1 := by kernel_rfl
  have c75 : Tryz.prog.cellsOf 75 = 1 := by kernel_rfl
  obtain ⟨xs, m, _, _, hl, hn, hf⟩ := DataW.trod_struct Tryz.underlying77 h
  obtain ⟨ys⟩ := ys
  rw [c77] at hsz
  match ys, hsz with
  | [y0, y1, y2, y3, y4, y5], _ =>
  have get : ∀ (i : Nat) (hi : i < 6), ∃ z, xs[i]? = some z := fun i hi => ⟨xs[i]'(by simp at hn; omega), List.getElem?_eq_getElem _⟩
  have f0 := hf 0 _ rfl
  have f1 := hf 1 _ rfl
  have f2 := hf 2 _ rfl
  have f3 := hf 3 _ rfl
  have f4 := hf 4 _ rfl
  have f5 := hf 5 _ rfl
  simp only [c3, c74, c42, c75, Value.cells, List.drop_zero, List.drop_succ_cons, List.take_succ_cons, List.take_zero] at f0 f1 f2 f3 f4 f5
  obtain ⟨z0, g0⟩ := get 0 (by omega)
  obtain ⟨z1, g1⟩ := get 1 (by omega)
  obtain ⟨z2, g2⟩ := get 2 (by omega)
  obtain ⟨z3, g3⟩ := get 3 (by omega)
  obtain ⟨z4, g4⟩ := get 4 (by omega)
  obtain ⟨z5, g5⟩ := get 5 (by omega)
  rw [g0] at f0
  rw [g1] at f1
  rw [g2] at f2
  rw [g3] at f3
  rw [g4] at f4
  rw [g5] at f5
  obtain ⟨st, e0, _, _⟩ := DataW.trod_int Tryz.underlying3 f0
  obtain ⟨sp, e1, _, _⟩ := DataW.trod_int Tryz.underlying3 f1
  obtain ⟨c, u2, e2, r2, s2⟩ := open_t3 f2
  obtain ⟨n, u3, e3, r3, s3⟩ := open_t1 f3
  obtain ⟨k, u4, e4, r4, s4⟩ := open_t2 f4
  obtain ⟨q, u5, e5, r5, s5⟩ := open_t3 f5
  replace e0 := (List.cons.inj e0).1
  replace e1 := (List.cons.inj e1).1
  replace e2 := (List.cons.inj e2).1
  replace e3 := (List.cons.inj e3).1
  replace e4 := (List.cons.inj e4).1
  replace e5 := (List.cons.inj e5).1
  subst e0 e1 e2 e3 e4 e5
  refine ⟨st, sp, c, n, k, q, .agg _ _ rfl fun j z hj => ?_, s2, s3, s4, s5⟩
  match j, hj with
  | 0, hj => simp at hj; subst hj; exact .i .i64 st
  | 1, hj => simp at hj; subst hj; exact .i .i64 sp
  | 2, hj => simp at hj; subst hj; exact r2
  | 3, hj => simp at hj; subst hj; exact r3
  | 4, hj => simp at hj; subst hj; exact r4
  | 5, hj => simp at hj; subst hj; exact r5
end

/-- where a call begins, seen by the evaluator: all that lies there stays -/
noncomputable def gh0 (w : World) : Gh := { ρ := [], lam := [], sh := shp [], X := X0 w }
noncomputable def cx0 (w : World) (B : Nat) : Nat := if B < w.heap.size then 1 else 0

theorem rel0 {w : World} {xs : List PV} {ys : Array Value} (hl : ys.size = xs.length) (h : ∀ j c, xs[j]? = some c → RepP w (X0 w) c (ys.getD j undef)) :
    RelV (cx0 w) (gh0 w) w #[] fr0 ⟨[], []⟩ (.tup (xs.map V.p)) (.tuple ys) where
  hp := ⟨rfl, rfl, by simp, by simp [gh0], fun B hB => X0_new hB⟩
  lm := ⟨rfl, by simp⟩
  frm := frRel0 _ _
  one := fun B => by
    have h1 : pm B (.tup (xs.map V.p)) (.tuple ys) = 0 := pm_noown B _ _ (by simp only [hasOwn]; exact hasOwnL_pure xs)
    have h2 : cx0 w B ≤ 1 := by unfold cx0; split <;> omega
    have h3 : fcnt B fr0 #[] = 0 := by rfl
    have h4 : lcnt B w (⟨[], []⟩ : Mem).lm (gh0 w).lam = 0 := by rfl
    have h5 : hcnt B w (⟨[], []⟩ : Mem).h (gh0 w).ρ = 0 := by rfl
    omega
  cnew := fun B hB => by unfold cx0; rw [if_neg (by omega)]
  val := .tup _ _ (by simpa using hl) fun j c hj => by
    rw [List.getElem?_map, Option.map_eq_some_iff] at hj
    obtain ⟨x, hx, rfl⟩ := hj
    exact .p _ _ (h j x hx)

/-- a call that answers a pure value, of arguments that stay: what was there stands as it did -/
theorem calls_pure {P : Program} {E : Env} {d f : Nat} {xs : List PV} {r : PV} {K : Ctx} (hE : EnvOk P E) (hK : K = ⟨0, 0⟩) (hrun : (hand E d).1 K f (xs.map V.p) [] = some (.p r, [])) {w : World} {ys : Array Value} (hl : ys.size = xs.length)
    (h : ∀ j c, xs[j]? = some c → RepP w (X0 w) c (ys.getD j undef)) :
    Calls P f ys w fun e w' => ∃ y X, e = .returned y ∧ RepP w' X r y ∧ Below w.heap.size w w' := by
  subst hK
  obtain ⟨_, hc⟩ := (hand_ok hE d).1 ⟨0, 0⟩ f (xs.map V.p) [] (.p r) [] hrun ⟨Nat.le_refl _, Nat.le_refl _, by simp, by simp⟩ (by
    rw [lfL_all]
    simp [lf])
  refine (hc (cx0 w) (gh0 w) w ys (rel0 hl h)).mono fun e w' ⟨y, g', he, hp⟩ => ⟨y, g'.X, he, ?_, hp.stp.os, hp.stp.tape, hp.stp.output, hp.stp.size, fun k hk => ?_⟩
  · exact hp.rel.val.p_inv
  · refine (hp.stp.kp k ?_).1
    have : cx0 w k = 1 := by unfold cx0; rw [if_pos hk]
    omega

theorem RepP.b_inv {w : World} {X : Nat → Nat} {b : Bool} {y : Value} (h : RepP w X (.b b) y) : y = .bool b := by
  cases h; rfl
end Go.Wn
