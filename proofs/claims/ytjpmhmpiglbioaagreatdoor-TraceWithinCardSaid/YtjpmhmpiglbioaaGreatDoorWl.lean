/- Part of the proof: an evaluator of the model's code over pure trees, and what it computes. No condition of its own. -/
import Derived.Test.YtjpmhmpiglbioaaGreatDoorWk
set_option linter.unusedSimpArgs false
set_option linter.unusedVariables false
namespace Go.Wn
open Go Go.Proofs
theorem f77_0 : fieldOf env1.Q 77 0 = some (0, 3) := by kernel_rfl
theorem f77_1 : fieldOf env1.Q 77 1 = some (1, 3) := by kernel_rfl
theorem f77_2 : fieldOf env1.Q 77 2 = some (2, 74) := by kernel_rfl
theorem f77_3 : fieldOf env1.Q 77 3 = some (3, 42) := by kernel_rfl
theorem f77_4 : fieldOf env1.Q 77 4 = some (4, 75) := by kernel_rfl
theorem f77_5 : fieldOf env1.Q 77 5 = some (5, 74) := by kernel_rfl
theorem z77 : env1.Q.sz 77 = some 6 := by kernel_rfl
theorem a77 : aggT env1.Q 77 = some true := by kernel_rfl
theorem okb109 : okFn env1.Q 109 = true := by kernel_rfl
theorem tk109 : env1.tk 109 = [] := by kernel_rfl
theorem okb110 : okFn env1.Q 110 = true := by kernel_rfl
theorem tk110 : env1.tk 110 = [] := by kernel_rfl
theorem okb111 : okFn env1.Q 111 = true := by kernel_rfl
theorem tk111 : env1.tk 111 = [] := by kernel_rfl
theorem okb46 : okFn env1.Q 46 = true := by kernel_rfl
theorem tk46 : env1.tk 46 = [] := by kernel_rfl
theorem okb47 : okFn env1.Q 47 = true := by kernel_rfl
theorem tk47 : env1.tk 47 = [] := by kernel_rfl
theorem okb48 : okFn env1.Q 48 = true := by kernel_rfl
theorem tk48 : env1.tk 48 = [] := by kernel_rfl
theorem okb43 : okFn env1.Q 43 = true := by kernel_rfl
theorem tk43 : env1.tk 43 = [] := by kernel_rfl
noncomputable def ninL (l : List PV) (e : PV) : Bool := !inL l e

noncomputable def bd47 : Code := match Tryz.f47.body with | some c => c | none => .skip
noncomputable def lp47_0 : Code := (loopsOf bd47).getD 0 .skip
noncomputable def lp47_1 : Code := (loopsOf bd47).getD 1 .skip
noncomputable def lp47_2 : Code := (loopsOf bd47).getD 2 .skip
noncomputable def lp47_3 : Code := (loopsOf bd47).getD 3 .skip

set_option maxRecDepth 100000 in
theorem round47_0 (C : Handler) (L : LHandler) (K : Ctx) (fr : Fr) (h : Heap) (c1 : SL) (i : Nat) (n1 k1 w1 c2 n2 k2 w2 : SL) (st1 sp1 st2 sp2 : Int) (x y z : Int) (hi : c1.l[i]? = some (t3 x y z)) (hb : c1.l.length < 2 ^ 40) (r : Bool) (hC : ∀ K, C K 109 [.p (c2.v), .p (.agg [.i .i64 x, .i .i64 y, .i .i64 z])] h = some (.p (.b r), h)) (hp : Pf fr) (hm : Pm ⟨[[.p (.i .i64 st1), .p (.i .i64 sp1), .p (c1.v), .p (n1.v), .p (k1.v), .p (w1.v)], [.p (.i .i64 st2), .p (.i .i64 sp2), .p (c2.v), .p (n2.v), .p (k2.v), .p (w2.v)]], h⟩) (hR : RD fr [(2, .lptr 0 0), (3, .lptr 1 0), (5, .p (.i .i64 i))]) :
    ∃ fr', evCode env1 C L K 47 lp47_0 ⟨fr, ⟨[[.p (.i .i64 st1), .p (.i .i64 sp1), .p (c1.v), .p (n1.v), .p (k1.v), .p (w1.v)], [.p (.i .i64 st2), .p (.i .i64 sp2), .p (c2.v), .p (n2.v), .p (k2.v), .p (w2.v)]], h⟩⟩ = some (if (!r) then .ret else .nrm, ⟨fr', ⟨[[.p (.i .i64 st1), .p (.i .i64 sp1), .p (c1.v), .p (n1.v), .p (k1.v), .p (w1.v)], [.p (.i .i64 st2), .p (.i .i64 sp2), .p (c2.v), .p (n2.v), .p (k2.v), .p (w2.v)]], h⟩⟩) ∧ Pf fr' ∧ ((!r) = true → rd fr' 4 = .p (.b false)) ∧ ((!r) = false → RD fr' [(2, .lptr 0 0), (3, .lptr 1 0), (5, .p (.i .i64 (i + 1 : Nat)))]) := by
  simp only [RD, and_true] at hR
  obtain ⟨h2, h3, h5⟩ := hR
  have hlt : i < c1.l.length := lt_of_get hi
  have hlt' : (i : Int) < (c1.l.length : Int) := by omega
  have hix := ixa252 (h := h) hi
  have hw := wrap_nat hlt hb
  unfold lp47_0
  simp (config := { maxDischargeDepth := 80 }) only [loopsOf, bd47, Tryz.f47, List.getD_cons_zero, List.getD_cons_succ, List.nil_append, List.cons_append, List.append_nil, evCode, evReg, evL, wantedV, evOp, argOf, cp, binV, intBin, putF, rd_setF, Option.map_some, Option.bind_some, if_true, Bool.true_or, decide_true, toB, takeS_pf, takeS_c, if_false, Pf.p, Pf.lp, Pf.pt, Pf.cl, Pf.nv, List.all_cons, List.all_nil, Bool.and_true, constV, constCell, nf1, ld, getCells, List.length_cons, List.length_nil, Nat.reduceEqDiff, reduceIte, Nat.reduceAdd, Nat.reduceLeDiff, List.take_succ_cons, List.take_zero, List.drop_zero, ofCells, mkAgg, mapO, V.isP, Bool.false_or, beq_self_eq_true, Bool.false_eq_true, cpL, vc_agg, vc_pagg, vc_i, PV.cells, List.map_cons, List.map_nil, Nat.zero_add, List.getElem?_cons_zero, List.getElem?_cons_succ, ↓SL.cells, ↓SL.vcells, ↓SL.cellOk, h2, h3, h5, hix, hlt', evCall, evBuiltin, len109, u74, z93, a93, z74, a74, f77_2, addOff, List.drop_succ_cons, okb109, tk109, hC, unV, lfL, lf, argsOf, List.contains_nil, ite_self, List.nil_append, List.cons_append, List.append_nil, Nat.one_ne_zero, hp, hm]
  rw [evRegD]
  rotate_left
  · rfl
  · kernel_rfl
  simp (config := { maxDischargeDepth := 80 }) only [evCode, evReg, evL, wantedV, evOp, argOf, cp, binV, intBin, putF, rd_setF, Option.map_some, Option.bind_some, if_true, Bool.true_or, decide_true, toB, takeS_pf, takeS_c, if_false, Pf.p, Pf.lp, Pf.pt, Pf.cl, Pf.nv, List.all_cons, List.all_nil, Bool.and_true, constV, constCell, nf1, ld, getCells, List.length_cons, List.length_nil, Nat.reduceEqDiff, reduceIte, Nat.reduceAdd, Nat.reduceLeDiff, List.take_succ_cons, List.take_zero, List.drop_zero, ofCells, mkAgg, mapO, V.isP, Bool.false_or, beq_self_eq_true, Bool.false_eq_true, cpL, vc_agg, vc_pagg, vc_i, PV.cells, List.map_cons, List.map_nil, Nat.zero_add, List.getElem?_cons_zero, List.getElem?_cons_succ, ↓SL.cells, ↓SL.vcells, ↓SL.cellOk, h2, h3, h5, hix, hlt', evCall, evBuiltin, len109, u74, z93, a93, z74, a74, f77_2, addOff, List.drop_succ_cons, okb109, tk109, hC, unV, lfL, lf, argsOf, List.contains_nil, ite_self, List.nil_append, List.cons_append, List.append_nil, Nat.one_ne_zero, hp, hm]
  cases hE : (!r)
  · simp (config := { maxDischargeDepth := 80 }) only [hE, Bool.not_true, Bool.not_false, if_true, if_false, evCode, evReg, evL, wantedV, evOp, argOf, cp, binV, intBin, putF, rd_setF, Option.map_some, Option.bind_some, if_true, Bool.true_or, decide_true, toB, takeS_pf, takeS_c, if_false, Pf.p, Pf.lp, Pf.pt, Pf.cl, Pf.nv, List.all_cons, List.all_nil, Bool.and_true, constV, constCell, nf1, ld, getCells, List.length_cons, List.length_nil, Nat.reduceEqDiff, reduceIte, Nat.reduceAdd, Nat.reduceLeDiff, List.take_succ_cons, List.take_zero, List.drop_zero, ofCells, mkAgg, mapO, V.isP, Bool.false_or, beq_self_eq_true, Bool.false_eq_true, cpL, vc_agg, vc_pagg, vc_i, PV.cells, List.map_cons, List.map_nil, Nat.zero_add, List.getElem?_cons_zero, List.getElem?_cons_succ, ↓SL.cells, ↓SL.vcells, ↓SL.cellOk, h2, h3, h5, hix, hlt', evCall, evBuiltin, len109, u74, z93, a93, z74, a74, f77_2, addOff, List.drop_succ_cons, okb109, tk109, hC, unV, lfL, lf, argsOf, List.contains_nil, ite_self, List.nil_append, List.cons_append, List.append_nil, Nat.one_ne_zero, hp, hm]
    refine ⟨_, rfl, ?_, fun h => (by cases h), fun _ => ?_⟩
    · simp (config := { maxDischargeDepth := 80 }) only [evCode, evReg, evL, wantedV, evOp, argOf, cp, binV, intBin, putF, rd_setF, Option.map_some, Option.bind_some, if_true, Bool.true_or, decide_true, toB, takeS_pf, takeS_c, if_false, Pf.p, Pf.lp, Pf.pt, Pf.cl, Pf.nv, List.all_cons, List.all_nil, Bool.and_true, constV, constCell, nf1, ld, getCells, List.length_cons, List.length_nil, Nat.reduceEqDiff, reduceIte, Nat.reduceAdd, Nat.reduceLeDiff, List.take_succ_cons, List.take_zero, List.drop_zero, ofCells, mkAgg, mapO, V.isP, Bool.false_or, beq_self_eq_true, Bool.false_eq_true, cpL, vc_agg, vc_pagg, vc_i, PV.cells, List.map_cons, List.map_nil, Nat.zero_add, List.getElem?_cons_zero, List.getElem?_cons_succ, ↓SL.cells, ↓SL.vcells, ↓SL.cellOk, h2, h3, h5, hix, hlt', evCall, evBuiltin, len109, u74, z93, a93, z74, a74, f77_2, addOff, List.drop_succ_cons, okb109, tk109, hC, unV, lfL, lf, argsOf, List.contains_nil, ite_self, List.nil_append, List.cons_append, List.append_nil, Nat.one_ne_zero, hp, hm]
    · simp (config := { maxDischargeDepth := 80 }) only [RD, evCode, evReg, evL, wantedV, evOp, argOf, cp, binV, intBin, putF, rd_setF, Option.map_some, Option.bind_some, if_true, Bool.true_or, decide_true, toB, takeS_pf, takeS_c, if_false, Pf.p, Pf.lp, Pf.pt, Pf.cl, Pf.nv, List.all_cons, List.all_nil, Bool.and_true, constV, constCell, nf1, ld, getCells, List.length_cons, List.length_nil, Nat.reduceEqDiff, reduceIte, Nat.reduceAdd, Nat.reduceLeDiff, List.take_succ_cons, List.take_zero, List.drop_zero, ofCells, mkAgg, mapO, V.isP, Bool.false_or, beq_self_eq_true, Bool.false_eq_true, cpL, vc_agg, vc_pagg, vc_i, PV.cells, List.map_cons, List.map_nil, Nat.zero_add, List.getElem?_cons_zero, List.getElem?_cons_succ, ↓SL.cells, ↓SL.vcells, ↓SL.cellOk, h2, h3, h5, hix, hlt', evCall, evBuiltin, len109, u74, z93, a93, z74, a74, f77_2, addOff, List.drop_succ_cons, okb109, tk109, hC, unV, lfL, lf, argsOf, List.contains_nil, ite_self, List.nil_append, List.cons_append, List.append_nil, Nat.one_ne_zero, hp, hm, hw, and_self]
  · simp (config := { maxDischargeDepth := 80 }) only [hE, Bool.not_true, Bool.not_false, if_true, if_false, evCode, evReg, evL, wantedV, evOp, argOf, cp, binV, intBin, putF, rd_setF, Option.map_some, Option.bind_some, if_true, Bool.true_or, decide_true, toB, takeS_pf, takeS_c, if_false, Pf.p, Pf.lp, Pf.pt, Pf.cl, Pf.nv, List.all_cons, List.all_nil, Bool.and_true, constV, constCell, nf1, ld, getCells, List.length_cons, List.length_nil, Nat.reduceEqDiff, reduceIte, Nat.reduceAdd, Nat.reduceLeDiff, List.take_succ_cons, List.take_zero, List.drop_zero, ofCells, mkAgg, mapO, V.isP, Bool.false_or, beq_self_eq_true, Bool.false_eq_true, cpL, vc_agg, vc_pagg, vc_i, PV.cells, List.map_cons, List.map_nil, Nat.zero_add, List.getElem?_cons_zero, List.getElem?_cons_succ, ↓SL.cells, ↓SL.vcells, ↓SL.cellOk, h2, h3, h5, hix, hlt', evCall, evBuiltin, len109, u74, z93, a93, z74, a74, f77_2, addOff, List.drop_succ_cons, okb109, tk109, hC, unV, lfL, lf, argsOf, List.contains_nil, ite_self, List.nil_append, List.cons_append, List.append_nil, Nat.one_ne_zero, hp, hm]
    refine ⟨_, rfl, ?_, fun _ => ?_, fun h => (by cases h)⟩
    · simp (config := { maxDischargeDepth := 80 }) only [evCode, evReg, evL, wantedV, evOp, argOf, cp, binV, intBin, putF, rd_setF, Option.map_some, Option.bind_some, if_true, Bool.true_or, decide_true, toB, takeS_pf, takeS_c, if_false, Pf.p, Pf.lp, Pf.pt, Pf.cl, Pf.nv, List.all_cons, List.all_nil, Bool.and_true, constV, constCell, nf1, ld, getCells, List.length_cons, List.length_nil, Nat.reduceEqDiff, reduceIte, Nat.reduceAdd, Nat.reduceLeDiff, List.take_succ_cons, List.take_zero, List.drop_zero, ofCells, mkAgg, mapO, V.isP, Bool.false_or, beq_self_eq_true, Bool.false_eq_true, cpL, vc_agg, vc_pagg, vc_i, PV.cells, List.map_cons, List.map_nil, Nat.zero_add, List.getElem?_cons_zero, List.getElem?_cons_succ, ↓SL.cells, ↓SL.vcells, ↓SL.cellOk, h2, h3, h5, hix, hlt', evCall, evBuiltin, len109, u74, z93, a93, z74, a74, f77_2, addOff, List.drop_succ_cons, okb109, tk109, hC, unV, lfL, lf, argsOf, List.contains_nil, ite_self, List.nil_append, List.cons_append, List.append_nil, Nat.one_ne_zero, hp, hm]
    · simp (config := { maxDischargeDepth := 80 }) only [evCode, evReg, evL, wantedV, evOp, argOf, cp, binV, intBin, putF, rd_setF, Option.map_some, Option.bind_some, if_true, Bool.true_or, decide_true, toB, takeS_pf, takeS_c, if_false, Pf.p, Pf.lp, Pf.pt, Pf.cl, Pf.nv, List.all_cons, List.all_nil, Bool.and_true, constV, constCell, nf1, ld, getCells, List.length_cons, List.length_nil, Nat.reduceEqDiff, reduceIte, Nat.reduceAdd, Nat.reduceLeDiff, List.take_succ_cons, List.take_zero, List.drop_zero, ofCells, mkAgg, mapO, V.isP, Bool.false_or, beq_self_eq_true, Bool.false_eq_true, cpL, vc_agg, vc_pagg, vc_i, PV.cells, List.map_cons, List.map_nil, Nat.zero_add, List.getElem?_cons_zero, List.getElem?_cons_succ, ↓SL.cells, ↓SL.vcells, ↓SL.cellOk, h2, h3, h5, hix, hlt', evCall, evBuiltin, len109, u74, z93, a93, z74, a74, f77_2, addOff, List.drop_succ_cons, okb109, tk109, hC, unV, lfL, lf, argsOf, List.contains_nil, ite_self, List.nil_append, List.cons_append, List.append_nil, Nat.one_ne_zero, hp, hm]

set_option maxRecDepth 100000 in
theorem exit47_0 (C : Handler) (L : LHandler) (K : Ctx) (fr : Fr) (h : Heap) (c1 : SL) (n1 k1 w1 c2 n2 k2 w2 : SL) (st1 sp1 st2 sp2 : Int) (hp : Pf fr) (hm : Pm ⟨[[.p (.i .i64 st1), .p (.i .i64 sp1), .p (c1.v), .p (n1.v), .p (k1.v), .p (w1.v)], [.p (.i .i64 st2), .p (.i .i64 sp2), .p (c2.v), .p (n2.v), .p (k2.v), .p (w2.v)]], h⟩) (hR : RD fr [(2, .lptr 0 0), (3, .lptr 1 0), (5, .p (.i .i64 c1.l.length))]) :
    ∃ fr', evCode env1 C L K 47 lp47_0 ⟨fr, ⟨[[.p (.i .i64 st1), .p (.i .i64 sp1), .p (c1.v), .p (n1.v), .p (k1.v), .p (w1.v)], [.p (.i .i64 st2), .p (.i .i64 sp2), .p (c2.v), .p (n2.v), .p (k2.v), .p (w2.v)]], h⟩⟩ = some (.ext 0, ⟨fr', ⟨[[.p (.i .i64 st1), .p (.i .i64 sp1), .p (c1.v), .p (n1.v), .p (k1.v), .p (w1.v)], [.p (.i .i64 st2), .p (.i .i64 sp2), .p (c2.v), .p (n2.v), .p (k2.v), .p (w2.v)]], h⟩⟩) ∧ Pf fr' ∧ RD fr' [(2, .lptr 0 0), (3, .lptr 1 0)] := by
  simp only [RD, and_true] at hR
  obtain ⟨h2, h3, h5⟩ := hR
  have hn : ¬ ((c1.l.length : Int) < (c1.l.length : Int)) := by omega
  unfold lp47_0
  simp (config := { maxDischargeDepth := 80 }) only [loopsOf, bd47, Tryz.f47, List.getD_cons_zero, List.getD_cons_succ, List.nil_append, List.cons_append, List.append_nil, evCode, evReg, evL, wantedV, evOp, argOf, cp, binV, intBin, putF, rd_setF, Option.map_some, Option.bind_some, if_true, Bool.true_or, decide_true, toB, takeS_pf, takeS_c, if_false, Pf.p, Pf.lp, Pf.pt, Pf.cl, Pf.nv, List.all_cons, List.all_nil, Bool.and_true, constV, constCell, nf1, ld, getCells, List.length_cons, List.length_nil, Nat.reduceEqDiff, reduceIte, Nat.reduceAdd, Nat.reduceLeDiff, List.take_succ_cons, List.take_zero, List.drop_zero, ofCells, mkAgg, mapO, V.isP, Bool.false_or, beq_self_eq_true, Bool.false_eq_true, cpL, vc_agg, vc_pagg, vc_i, PV.cells, List.map_cons, List.map_nil, Nat.zero_add, List.getElem?_cons_zero, List.getElem?_cons_succ, ↓SL.cells, ↓SL.vcells, ↓SL.cellOk, h2, h3, h5, evCall, evBuiltin, len109, z74, a74, f77_2, addOff, List.drop_succ_cons, Nat.one_ne_zero, hp, hm, hn, decide_false]
  exact ⟨_, rfl, by simp (config := { maxDischargeDepth := 80 }) only [evCode, evReg, evL, wantedV, evOp, argOf, cp, binV, intBin, putF, rd_setF, Option.map_some, Option.bind_some, if_true, Bool.true_or, decide_true, toB, takeS_pf, takeS_c, if_false, Pf.p, Pf.lp, Pf.pt, Pf.cl, Pf.nv, List.all_cons, List.all_nil, Bool.and_true, constV, constCell, nf1, ld, getCells, List.length_cons, List.length_nil, Nat.reduceEqDiff, reduceIte, Nat.reduceAdd, Nat.reduceLeDiff, List.take_succ_cons, List.take_zero, List.drop_zero, ofCells, mkAgg, mapO, V.isP, Bool.false_or, beq_self_eq_true, Bool.false_eq_true, cpL, vc_agg, vc_pagg, vc_i, PV.cells, List.map_cons, List.map_nil, Nat.zero_add, List.getElem?_cons_zero, List.getElem?_cons_succ, ↓SL.cells, ↓SL.vcells, ↓SL.cellOk, h2, h3, h5, evCall, evBuiltin, len109, z74, a74, f77_2, addOff, List.drop_succ_cons, Nat.one_ne_zero, hp, hm], by simp (config := { maxDischargeDepth := 80 }) only [RD, evCode, evReg, evL, wantedV, evOp, argOf, cp, binV, intBin, putF, rd_setF, Option.map_some, Option.bind_some, if_true, Bool.true_or, decide_true, toB, takeS_pf, takeS_c, if_false, Pf.p, Pf.lp, Pf.pt, Pf.cl, Pf.nv, List.all_cons, List.all_nil, Bool.and_true, constV, constCell, nf1, ld, getCells, List.length_cons, List.length_nil, Nat.reduceEqDiff, reduceIte, Nat.reduceAdd, Nat.reduceLeDiff, List.take_succ_cons, List.take_zero, List.drop_zero, ofCells, mkAgg, mapO, V.isP, Bool.false_or, beq_self_eq_true, Bool.false_eq_true, cpL, vc_agg, vc_pagg, vc_i, PV.cells, List.map_cons, List.map_nil, Nat.zero_add, List.getElem?_cons_zero, List.getElem?_cons_succ, ↓SL.cells, ↓SL.vcells, ↓SL.cellOk, h2, h3, h5, evCall, evBuiltin, len109, z74, a74, f77_2, addOff, List.drop_succ_cons, Nat.one_ne_zero, hp, hm, and_self]⟩

theorem loop47_0 (c1 : SL) (n1 k1 w1 c2 n2 k2 w2 : SL) (st1 sp1 st2 sp2 : Int) (hes : ∀ e ∈ c1.l, ∃ x y z, e = t3 x y z) (hb : c1.l.length < 2 ^ 40) (h : Heap) (hm : Pm ⟨[[.p (.i .i64 st1), .p (.i .i64 sp1), .p (c1.v), .p (n1.v), .p (k1.v), .p (w1.v)], [.p (.i .i64 st2), .p (.i .i64 sp2), .p (c2.v), .p (n2.v), .p (k2.v), .p (w2.v)]], h⟩) (hes2 : ∀ e ∈ c2.l, ∃ x y z, e = t3 x y z) (hb2 : c2.l.length < 2 ^ 40) (hm0 : Pm ⟨[], h⟩) (K : Ctx) (fr : Fr) (d : Nat) (hd : (c2.l.length + 2) + c1.l.length + 1 ≤ d) (hp : Pf fr) (hR : RD fr [(2, .lptr 0 0), (3, .lptr 1 0), (5, .p (.i .i64 0))]) :
    ∃ fr', (c1.l.any (ninL c2.l) = true ∧ (hand env1 d).2 K 47 lp47_0 ⟨fr, ⟨[[.p (.i .i64 st1), .p (.i .i64 sp1), .p (c1.v), .p (n1.v), .p (k1.v), .p (w1.v)], [.p (.i .i64 st2), .p (.i .i64 sp2), .p (c2.v), .p (n2.v), .p (k2.v), .p (w2.v)]], h⟩⟩ = some (.ret, ⟨fr', ⟨[[.p (.i .i64 st1), .p (.i .i64 sp1), .p (c1.v), .p (n1.v), .p (k1.v), .p (w1.v)], [.p (.i .i64 st2), .p (.i .i64 sp2), .p (c2.v), .p (n2.v), .p (k2.v), .p (w2.v)]], h⟩⟩) ∧ ∃ i : Nat, rd fr' 4 = .p (.b false)) ∨ (c1.l.any (ninL c2.l) = false ∧ (hand env1 d).2 K 47 lp47_0 ⟨fr, ⟨[[.p (.i .i64 st1), .p (.i .i64 sp1), .p (c1.v), .p (n1.v), .p (k1.v), .p (w1.v)], [.p (.i .i64 st2), .p (.i .i64 sp2), .p (c2.v), .p (n2.v), .p (k2.v), .p (w2.v)]], h⟩⟩ = some (.ext 0, ⟨fr', ⟨[[.p (.i .i64 st1), .p (.i .i64 sp1), .p (c1.v), .p (n1.v), .p (k1.v), .p (w1.v)], [.p (.i .i64 st2), .p (.i .i64 sp2), .p (c2.v), .p (n2.v), .p (k2.v), .p (w2.v)]], h⟩⟩) ∧ Pf fr' ∧ RD fr' [(2, .lptr 0 0), (3, .lptr 1 0)]) := by
  have key := loop_find (E := env1) (K := K) (f := 47) (body := lp47_0) (m := ⟨[[.p (.i .i64 st1), .p (.i .i64 sp1), .p (c1.v), .p (n1.v), .p (k1.v), .p (w1.v)], [.p (.i .i64 st2), .p (.i .i64 sp2), .p (c2.v), .p (n2.v), .p (k2.v), .p (w2.v)]], h⟩) (by kernel_rfl) (fun cs hcs => by
      simp only [List.mem_cons, List.mem_nil_iff, or_false] at hcs
      rcases hcs with rfl | rfl
      · exact ⟨[.i .i64 st1, .i .i64 sp1, c1.v, n1.v, k1.v, w1.v], rfl⟩
      · exact ⟨[.i .i64 st2, .i .i64 sp2, c2.v, n2.v, k2.v, w2.v], rfl⟩) c1.l.length (c2.l.length + 2) 0 (fun i fr => Pf fr ∧ RD fr [(2, .lptr 0 0), (3, .lptr 1 0), (5, .p (.i .i64 i))]) (fun fr => ∃ i : Nat, rd fr 4 = .p (.b false)) (fun fr => Pf fr ∧ RD fr [(2, .lptr 0 0), (3, .lptr 1 0)]) (fun i => (c1.l[i]?).any (ninL c2.l))
    (fun d i fr hd hi ⟨hp, hR⟩ => by
      obtain ⟨x, y, z, he⟩ := hes c1.l[i] (by simp)
      have hi' : c1.l[i]? = some (t3 x y z) := by rw [List.getElem?_eq_getElem hi, he]
      have hin : t3 x y z ∈ c1.l := List.mem_of_getElem? hi'
      obtain ⟨fr', e, hp', q1, q2⟩ := round47_0 (hand env1 d).1 (hand env1 d).2 ⟨K.ro, h.length⟩ (mask (env1.nvs 47) fr) h c1 i n1 k1 w1 c2 n2 k2 w2 st1 sp1 st2 sp2 x y z hi' hb (inL c2.l (t3 x y z)) (fun K => run109 c2 x y z hes2 hb2 h hm0 K d (by omega)) (hp.mask _) hm (hR.mask (by kernel_rfl))
      refine ⟨fr', ?_⟩
      simp only [hi', Option.any_some]
      have hr0 : ((ninL c2.l)) (t3 x y z) = (!inL c2.l (t3 x y z)) := rfl
      rw [hr0]
      cases hr : (!inL c2.l (t3 x y z)) with
      | true => rw [hr] at e q1; exact .inl ⟨rfl, e, i, q1 rfl⟩
      | false => rw [hr] at e q2; exact .inr ⟨rfl, e, hp'.drop _ _ _, (q2 rfl).drop (by kernel_rfl)⟩)
    (fun d fr hd ⟨hp, hR⟩ => exit47_0 (hand env1 d).1 (hand env1 d).2 ⟨K.ro, h.length⟩ (mask (env1.nvs 47) fr) h c1 n1 k1 w1 c2 n2 k2 w2 st1 sp1 st2 sp2 (hp.mask _) hm (hR.mask (by kernel_rfl)))
  obtain ⟨fr', h1 | h1⟩ := key c1.l.length 0 fr d (by omega) (by omega) ⟨hp, hR⟩
  · refine ⟨fr', .inl ⟨?_, h1.2⟩⟩
    obtain ⟨j, _, hj, h2⟩ := h1.1
    rw [List.getElem?_eq_getElem hj] at h2
    exact List.any_eq_true.2 ⟨c1.l[j], by simp, h2⟩
  · refine ⟨fr', .inr ⟨?_, h1.2⟩⟩
    rw [List.any_eq_false]
    intro x hx
    obtain ⟨j, hj, rfl⟩ := List.mem_iff_getElem.1 hx
    have := h1.1 j (by omega) hj
    rw [List.getElem?_eq_getElem hj] at this
    simpa using this

set_option maxRecDepth 100000 in
theorem round47_1 (C : Handler) (L : LHandler) (K : Ctx) (fr : Fr) (h : Heap) (w1 : SL) (i : Nat) (c1 n1 k1 c2 n2 k2 w2 : SL) (st1 sp1 st2 sp2 : Int) (x y z : Int) (hi : w1.l[i]? = some (t3 x y z)) (hb : w1.l.length < 2 ^ 40) (r : Bool) (hC : ∀ K, C K 109 [.p (w2.v), .p (.agg [.i .i64 x, .i .i64 y, .i .i64 z])] h = some (.p (.b r), h)) (hp : Pf fr) (hm : Pm ⟨[[.p (.i .i64 st1), .p (.i .i64 sp1), .p (c1.v), .p (n1.v), .p (k1.v), .p (w1.v)], [.p (.i .i64 st2), .p (.i .i64 sp2), .p (c2.v), .p (n2.v), .p (k2.v), .p (w2.v)]], h⟩) (hR : RD fr [(2, .lptr 0 0), (3, .lptr 1 0), (6, .p (.i .i64 i))]) :
    ∃ fr', evCode env1 C L K 47 lp47_1 ⟨fr, ⟨[[.p (.i .i64 st1), .p (.i .i64 sp1), .p (c1.v), .p (n1.v), .p (k1.v), .p (w1.v)], [.p (.i .i64 st2), .p (.i .i64 sp2), .p (c2.v), .p (n2.v), .p (k2.v), .p (w2.v)]], h⟩⟩ = some (if (!r) then .ret else .nrm, ⟨fr', ⟨[[.p (.i .i64 st1), .p (.i .i64 sp1), .p (c1.v), .p (n1.v), .p (k1.v), .p (w1.v)], [.p (.i .i64 st2), .p (.i .i64 sp2), .p (c2.v), .p (n2.v), .p (k2.v), .p (w2.v)]], h⟩⟩) ∧ Pf fr' ∧ ((!r) = true → rd fr' 4 = .p (.b false)) ∧ ((!r) = false → RD fr' [(2, .lptr 0 0), (3, .lptr 1 0), (6, .p (.i .i64 (i + 1 : Nat)))]) := by
  simp only [RD, and_true] at hR
  obtain ⟨h2, h3, h6⟩ := hR
  have hlt : i < w1.l.length := lt_of_get hi
  have hlt' : (i : Int) < (w1.l.length : Int) := by omega
  have hix := ixa252 (h := h) hi
  have hw := wrap_nat hlt hb
  unfold lp47_1
  simp (config := { maxDischargeDepth := 80 }) only [loopsOf, bd47, Tryz.f47, List.getD_cons_zero, List.getD_cons_succ, List.nil_append, List.cons_append, List.append_nil, evCode, evReg, evL, wantedV, evOp, argOf, cp, binV, intBin, putF, rd_setF, Option.map_some, Option.bind_some, if_true, Bool.true_or, decide_true, toB, takeS_pf, takeS_c, if_false, Pf.p, Pf.lp, Pf.pt, Pf.cl, Pf.nv, List.all_cons, List.all_nil, Bool.and_true, constV, constCell, nf1, ld, getCells, List.length_cons, List.length_nil, Nat.reduceEqDiff, reduceIte, Nat.reduceAdd, Nat.reduceLeDiff, List.take_succ_cons, List.take_zero, List.drop_zero, ofCells, mkAgg, mapO, V.isP, Bool.false_or, beq_self_eq_true, Bool.false_eq_true, cpL, vc_agg, vc_pagg, vc_i, PV.cells, List.map_cons, List.map_nil, Nat.zero_add, List.getElem?_cons_zero, List.getElem?_cons_succ, ↓SL.cells, ↓SL.vcells, ↓SL.cellOk, h2, h3, h6, hix, hlt', evCall, evBuiltin, len109, u74, z93, a93, z74, a74, f77_5, addOff, List.drop_succ_cons, okb109, tk109, hC, unV, lfL, lf, argsOf, List.contains_nil, ite_self, List.nil_append, List.cons_append, List.append_nil, Nat.one_ne_zero, hp, hm]
  rw [evRegD]
  rotate_left
  · rfl
  · kernel_rfl
  simp (config := { maxDischargeDepth := 80 }) only [evCode, evReg, evL, wantedV, evOp, argOf, cp, binV, intBin, putF, rd_setF, Option.map_some, Option.bind_some, if_true, Bool.true_or, decide_true, toB, takeS_pf, takeS_c, if_false, Pf.p, Pf.lp, Pf.pt, Pf.cl, Pf.nv, List.all_cons, List.all_nil, Bool.and_true, constV, constCell, nf1, ld, getCells, List.length_cons, List.length_nil, Nat.reduceEqDiff, reduceIte, Nat.reduceAdd, Nat.reduceLeDiff, List.take_succ_cons, List.take_zero, List.drop_zero, ofCells, mkAgg, mapO, V.isP, Bool.false_or, beq_self_eq_true, Bool.false_eq_true, cpL, vc_agg, vc_pagg, vc_i, PV.cells, List.map_cons, List.map_nil, Nat.zero_add, List.getElem?_cons_zero, List.getElem?_cons_succ, ↓SL.cells, ↓SL.vcells, ↓SL.cellOk, h2, h3, h6, hix, hlt', evCall, evBuiltin, len109, u74, z93, a93, z74, a74, f77_5, addOff, List.drop_succ_cons, okb109, tk109, hC, unV, lfL, lf, argsOf, List.contains_nil, ite_self, List.nil_append, List.cons_append, List.append_nil, Nat.one_ne_zero, hp, hm]
  cases hE : (!r)
  · simp (config := { maxDischargeDepth := 80 }) only [hE, Bool.not_true, Bool.not_false, if_true, if_false, evCode, evReg, evL, wantedV, evOp, argOf, cp, binV, intBin, putF, rd_setF, Option.map_some, Option.bind_some, if_true, Bool.true_or, decide_true, toB, takeS_pf, takeS_c, if_false, Pf.p, Pf.lp, Pf.pt, Pf.cl, Pf.nv, List.all_cons, List.all_nil, Bool.and_true, constV, constCell, nf1, ld, getCells, List.length_cons, List.length_nil, Nat.reduceEqDiff, reduceIte, Nat.reduceAdd, Nat.reduceLeDiff, List.take_succ_cons, List.take_zero, List.drop_zero, ofCells, mkAgg, mapO, V.isP, Bool.false_or, beq_self_eq_true, Bool.false_eq_true, cpL, vc_agg, vc_pagg, vc_i, PV.cells, List.map_cons, List.map_nil, Nat.zero_add, List.getElem?_cons_zero, List.getElem?_cons_succ, ↓SL.cells, ↓SL.vcells, ↓SL.cellOk, h2, h3, h6, hix, hlt', evCall, evBuiltin, len109, u74, z93, a93, z74, a74, f77_5, addOff, List.drop_succ_cons, okb109, tk109, hC, unV, lfL, lf, argsOf, List.contains_nil, ite_self, List.nil_append, List.cons_append, List.append_nil, Nat.one_ne_zero, hp, hm]
    refine ⟨_, rfl, ?_, fun h => (by cases h), fun _ => ?_⟩
    · simp (config := { maxDischargeDepth := 80 }) only [evCode, evReg, evL, wantedV, evOp, argOf, cp, binV, intBin, putF, rd_setF, Option.map_some, Option.bind_some, if_true, Bool.true_or, decide_true, toB, takeS_pf, takeS_c, if_false, Pf.p, Pf.lp, Pf.pt, Pf.cl, Pf.nv, List.all_cons, List.all_nil, Bool.and_true, constV, constCell, nf1, ld, getCells, List.length_cons, List.length_nil, Nat.reduceEqDiff, reduceIte, Nat.reduceAdd, Nat.reduceLeDiff, List.take_succ_cons, List.take_zero, List.drop_zero, ofCells, mkAgg, mapO, V.isP, Bool.false_or, beq_self_eq_true, Bool.false_eq_true, cpL, vc_agg, vc_pagg, vc_i, PV.cells, List.map_cons, List.map_nil, Nat.zero_add, List.getElem?_cons_zero, List.getElem?_cons_succ, ↓SL.cells, ↓SL.vcells, ↓SL.cellOk, h2, h3, h6, hix, hlt', evCall, evBuiltin, len109, u74, z93, a93, z74, a74, f77_5, addOff, List.drop_succ_cons, okb109, tk109, hC, unV, lfL, lf, argsOf, List.contains_nil, ite_self, List.nil_append, List.cons_append, List.append_nil, Nat.one_ne_zero, hp, hm]
    · simp (config := { maxDischargeDepth := 80 }) only [RD, evCode, evReg, evL, wantedV, evOp, argOf, cp, binV, intBin, putF, rd_setF, Option.map_some, Option.bind_some, if_true, Bool.true_or, decide_true, toB, takeS_pf, takeS_c, if_false, Pf.p, Pf.lp, Pf.pt, Pf.cl, Pf.nv, List.all_cons, List.all_nil, Bool.and_true, constV, constCell, nf1, ld, getCells, List.length_cons, List.length_nil, Nat.reduceEqDiff, reduceIte, Nat.reduceAdd, Nat.reduceLeDiff, List.take_succ_cons, List.take_zero, List.drop_zero, ofCells, mkAgg, mapO, V.isP, Bool.false_or, beq_self_eq_true, Bool.false_eq_true, cpL, vc_agg, vc_pagg, vc_i, PV.cells, List.map_cons, List.map_nil, Nat.zero_add, List.getElem?_cons_zero, List.getElem?_cons_succ, ↓SL.cells, ↓SL.vcells, ↓SL.cellOk, h2, h3, h6, hix, hlt', evCall, evBuiltin, len109, u74, z93, a93, z74, a74, f77_5, addOff, List.drop_succ_cons, okb109, tk109, hC, unV, lfL, lf, argsOf, List.contains_nil, ite_self, List.nil_append, List.cons_append, List.append_nil, Nat.one_ne_zero, hp, hm, hw, and_self]
  · simp (config := { maxDischargeDepth := 80 }) only [hE, Bool.not_true, Bool.not_false, if_true, if_false, evCode, evReg, evL, wantedV, evOp, argOf, cp, binV, intBin, putF, rd_setF, Option.map_some, Option.bind_some, if_true, Bool.true_or, decide_true, toB, takeS_pf, takeS_c, if_false, Pf.p, Pf.lp, Pf.pt, Pf.cl, Pf.nv, List.all_cons, List.all_nil, Bool.and_true, constV, constCell, nf1, ld, getCells, List.length_cons, List.length_nil, Nat.reduceEqDiff, reduceIte, Nat.reduceAdd, Nat.reduceLeDiff, List.take_succ_cons, List.take_zero, List.drop_zero, ofCells, mkAgg, mapO, V.isP, Bool.false_or, beq_self_eq_true, Bool.false_eq_true, cpL, vc_agg, vc_pagg, vc_i, PV.cells, List.map_cons, List.map_nil, Nat.zero_add, List.getElem?_cons_zero, List.getElem?_cons_succ, ↓SL.cells, ↓SL.vcells, ↓SL.cellOk, h2, h3, h6, hix, hlt', evCall, evBuiltin, len109, u74, z93, a93, z74, a74, f77_5, addOff, List.drop_succ_cons, okb109, tk109, hC, unV, lfL, lf, argsOf, List.contains_nil, ite_self, List.nil_append, List.cons_append, List.append_nil, Nat.one_ne_zero, hp, hm]
    refine ⟨_, rfl, ?_, fun _ => ?_, fun h => (by cases h)⟩
    · simp (config := { maxDischargeDepth := 80 }) only [evCode, evReg, evL, wantedV, evOp, argOf, cp, binV, intBin, putF, rd_setF, Option.map_some, Option.bind_some, if_true, Bool.true_or, decide_true, toB, takeS_pf, takeS_c, if_false, Pf.p, Pf.lp, Pf.pt, Pf.cl, Pf.nv, List.all_cons, List.all_nil, Bool.and_true, constV, constCell, nf1, ld, getCells, List.length_cons, List.length_nil, Nat.reduceEqDiff, reduceIte, Nat.reduceAdd, Nat.reduceLeDiff, List.take_succ_cons, List.take_zero, List.drop_zero, ofCells, mkAgg, mapO, V.isP, Bool.false_or, beq_self_eq_true, Bool.false_eq_true, cpL, vc_agg, vc_pagg, vc_i, PV.cells, List.map_cons, List.map_nil, Nat.zero_add, List.getElem?_cons_zero, List.getElem?_cons_succ, ↓SL.cells, ↓SL.vcells, ↓SL.cellOk, h2, h3, h6, hix, hlt', evCall, evBuiltin, len109, u74, z93, a93, z74, a74, f77_5, addOff, List.drop_succ_cons, okb109, tk109, hC, unV, lfL, lf, argsOf, List.contains_nil, ite_self, List.nil_append, List.cons_append, List.append_nil, Nat.one_ne_zero, hp, hm]
    · simp (config := { maxDischargeDepth := 80 }) only [evCode, evReg, evL, wantedV, evOp, argOf, cp, binV, intBin, putF, rd_setF, Option.map_some, Option.bind_some, if_true, Bool.true_or, decide_true, toB, takeS_pf, takeS_c, if_false, Pf.p, Pf.lp, Pf.pt, Pf.cl, Pf.nv, List.all_cons, List.all_nil, Bool.and_true, constV, constCell, nf1, ld, getCells, List.length_cons, List.length_nil, Nat.reduceEqDiff, reduceIte, Nat.reduceAdd, Nat.reduceLeDiff, List.take_succ_cons, List.take_zero, List.drop_zero, ofCells, mkAgg, mapO, V.isP, Bool.false_or, beq_self_eq_true, Bool.false_eq_true, cpL, vc_agg, vc_pagg, vc_i, PV.cells, List.map_cons, List.map_nil, Nat.zero_add, List.getElem?_cons_zero, List.getElem?_cons_succ, ↓SL.cells, ↓SL.vcells, ↓SL.cellOk, h2, h3, h6, hix, hlt', evCall, evBuiltin, len109, u74, z93, a93, z74, a74, f77_5, addOff, List.drop_succ_cons, okb109, tk109, hC, unV, lfL, lf, argsOf, List.contains_nil, ite_self, List.nil_append, List.cons_append, List.append_nil, Nat.one_ne_zero, hp, hm]

set_option maxRecDepth 100000 in
theorem exit47_1 (C : Handler) (L : LHandler) (K : Ctx) (fr : Fr) (h : Heap) (w1 : SL) (c1 n1 k1 c2 n2 k2 w2 : SL) (st1 sp1 st2 sp2 : Int) (hp : Pf fr) (hm : Pm ⟨[[.p (.i .i64 st1), .p (.i .i64 sp1), .p (c1.v), .p (n1.v), .p (k1.v), .p (w1.v)], [.p (.i .i64 st2), .p (.i .i64 sp2), .p (c2.v), .p (n2.v), .p (k2.v), .p (w2.v)]], h⟩) (hR : RD fr [(2, .lptr 0 0), (3, .lptr 1 0), (6, .p (.i .i64 w1.l.length))]) :
    ∃ fr', evCode env1 C L K 47 lp47_1 ⟨fr, ⟨[[.p (.i .i64 st1), .p (.i .i64 sp1), .p (c1.v), .p (n1.v), .p (k1.v), .p (w1.v)], [.p (.i .i64 st2), .p (.i .i64 sp2), .p (c2.v), .p (n2.v), .p (k2.v), .p (w2.v)]], h⟩⟩ = some (.ext 2, ⟨fr', ⟨[[.p (.i .i64 st1), .p (.i .i64 sp1), .p (c1.v), .p (n1.v), .p (k1.v), .p (w1.v)], [.p (.i .i64 st2), .p (.i .i64 sp2), .p (c2.v), .p (n2.v), .p (k2.v), .p (w2.v)]], h⟩⟩) ∧ Pf fr' ∧ RD fr' [(2, .lptr 0 0), (3, .lptr 1 0)] := by
  simp only [RD, and_true] at hR
  obtain ⟨h2, h3, h6⟩ := hR
  have hn : ¬ ((w1.l.length : Int) < (w1.l.length : Int)) := by omega
  unfold lp47_1
  simp (config := { maxDischargeDepth := 80 }) only [loopsOf, bd47, Tryz.f47, List.getD_cons_zero, List.getD_cons_succ, List.nil_append, List.cons_append, List.append_nil, evCode, evReg, evL, wantedV, evOp, argOf, cp, binV, intBin, putF, rd_setF, Option.map_some, Option.bind_some, if_true, Bool.true_or, decide_true, toB, takeS_pf, takeS_c, if_false, Pf.p, Pf.lp, Pf.pt, Pf.cl, Pf.nv, List.all_cons, List.all_nil, Bool.and_true, constV, constCell, nf1, ld, getCells, List.length_cons, List.length_nil, Nat.reduceEqDiff, reduceIte, Nat.reduceAdd, Nat.reduceLeDiff, List.take_succ_cons, List.take_zero, List.drop_zero, ofCells, mkAgg, mapO, V.isP, Bool.false_or, beq_self_eq_true, Bool.false_eq_true, cpL, vc_agg, vc_pagg, vc_i, PV.cells, List.map_cons, List.map_nil, Nat.zero_add, List.getElem?_cons_zero, List.getElem?_cons_succ, ↓SL.cells, ↓SL.vcells, ↓SL.cellOk, h2, h3, h6, evCall, evBuiltin, len109, z74, a74, f77_5, addOff, List.drop_succ_cons, Nat.one_ne_zero, hp, hm, hn, decide_false]
  exact ⟨_, rfl, by simp (config := { maxDischargeDepth := 80 }) only [evCode, evReg, evL, wantedV, evOp, argOf, cp, binV, intBin, putF, rd_setF, Option.map_some, Option.bind_some, if_true, Bool.true_or, decide_true, toB, takeS_pf, takeS_c, if_false, Pf.p, Pf.lp, Pf.pt, Pf.cl, Pf.nv, List.all_cons, List.all_nil, Bool.and_true, constV, constCell, nf1, ld, getCells, List.length_cons, List.length_nil, Nat.reduceEqDiff, reduceIte, Nat.reduceAdd, Nat.reduceLeDiff, List.take_succ_cons, List.take_zero, List.drop_zero, ofCells, mkAgg, mapO, V.isP, Bool.false_or, beq_self_eq_true, Bool.false_eq_true, cpL, vc_agg, vc_pagg, vc_i, PV.cells, List.map_cons, List.map_nil, Nat.zero_add, List.getElem?_cons_zero, List.getElem?_cons_succ, ↓SL.cells, ↓SL.vcells, ↓SL.cellOk, h2, h3, h6, evCall, evBuiltin, len109, z74, a74, f77_5, addOff, List.drop_succ_cons, Nat.one_ne_zero, hp, hm], by simp (config := { maxDischargeDepth := 80 }) only [RD, evCode, evReg, evL, wantedV, evOp, argOf, cp, binV, intBin, putF, rd_setF, Option.map_some, Option.bind_some, if_true, Bool.true_or, decide_true, toB, takeS_pf, takeS_c, if_false, Pf.p, Pf.lp, Pf.pt, Pf.cl, Pf.nv, List.all_cons, List.all_nil, Bool.and_true, constV, constCell, nf1, ld, getCells, List.length_cons, List.length_nil, Nat.reduceEqDiff, reduceIte, Nat.reduceAdd, Nat.reduceLeDiff, List.take_succ_cons, List.take_zero, List.drop_zero, ofCells, mkAgg, mapO, V.isP, Bool.false_or, beq_self_eq_true, Bool.false_eq_true, cpL, vc_agg, vc_pagg, vc_i, PV.cells, List.map_cons, List.map_nil, Nat.zero_add, List.getElem?_cons_zero, List.getElem?_cons_succ, ↓SL.cells, ↓SL.vcells, ↓SL.cellOk, h2, h3, h6, evCall, evBuiltin, len109, z74, a74, f77_5, addOff, List.drop_succ_cons, Nat.one_ne_zero, hp, hm, and_self]⟩

theorem loop47_1 (w1 : SL) (c1 n1 k1 c2 n2 k2 w2 : SL) (st1 sp1 st2 sp2 : Int) (hes : ∀ e ∈ w1.l, ∃ x y z, e = t3 x y z) (hb : w1.l.length < 2 ^ 40) (h : Heap) (hm : Pm ⟨[[.p (.i .i64 st1), .p (.i .i64 sp1), .p (c1.v), .p (n1.v), .p (k1.v), .p (w1.v)], [.p (.i .i64 st2), .p (.i .i64 sp2), .p (c2.v), .p (n2.v), .p (k2.v), .p (w2.v)]], h⟩) (hes2 : ∀ e ∈ w2.l, ∃ x y z, e = t3 x y z) (hb2 : w2.l.length < 2 ^ 40) (hm0 : Pm ⟨[], h⟩) (K : Ctx) (fr : Fr) (d : Nat) (hd : (w2.l.length + 2) + w1.l.length + 1 ≤ d) (hp : Pf fr) (hR : RD fr [(2, .lptr 0 0), (3, .lptr 1 0), (6, .p (.i .i64 0))]) :
    ∃ fr', (w1.l.any (ninL w2.l) = true ∧ (hand env1 d).2 K 47 lp47_1 ⟨fr, ⟨[[.p (.i .i64 st1), .p (.i .i64 sp1), .p (c1.v), .p (n1.v), .p (k1.v), .p (w1.v)], [.p (.i .i64 st2), .p (.i .i64 sp2), .p (c2.v), .p (n2.v), .p (k2.v), .p (w2.v)]], h⟩⟩ = some (.ret, ⟨fr', ⟨[[.p (.i .i64 st1), .p (.i .i64 sp1), .p (c1.v), .p (n1.v), .p (k1.v), .p (w1.v)], [.p (.i .i64 st2), .p (.i .i64 sp2), .p (c2.v), .p (n2.v), .p (k2.v), .p (w2.v)]], h⟩⟩) ∧ ∃ i : Nat, rd fr' 4 = .p (.b false)) ∨ (w1.l.any (ninL w2.l) = false ∧ (hand env1 d).2 K 47 lp47_1 ⟨fr, ⟨[[.p (.i .i64 st1), .p (.i .i64 sp1), .p (c1.v), .p (n1.v), .p (k1.v), .p (w1.v)], [.p (.i .i64 st2), .p (.i .i64 sp2), .p (c2.v), .p (n2.v), .p (k2.v), .p (w2.v)]], h⟩⟩ = some (.ext 2, ⟨fr', ⟨[[.p (.i .i64 st1), .p (.i .i64 sp1), .p (c1.v), .p (n1.v), .p (k1.v), .p (w1.v)], [.p (.i .i64 st2), .p (.i .i64 sp2), .p (c2.v), .p (n2.v), .p (k2.v), .p (w2.v)]], h⟩⟩) ∧ Pf fr' ∧ RD fr' [(2, .lptr 0 0), (3, .lptr 1 0)]) := by
  have key := loop_find (E := env1) (K := K) (f := 47) (body := lp47_1) (m := ⟨[[.p (.i .i64 st1), .p (.i .i64 sp1), .p (c1.v), .p (n1.v), .p (k1.v), .p (w1.v)], [.p (.i .i64 st2), .p (.i .i64 sp2), .p (c2.v), .p (n2.v), .p (k2.v), .p (w2.v)]], h⟩) (by kernel_rfl) (fun cs hcs => by
      simp only [List.mem_cons, List.mem_nil_iff, or_false] at hcs
      rcases hcs with rfl | rfl
      · exact ⟨[.i .i64 st1, .i .i64 sp1, c1.v, n1.v, k1.v, w1.v], rfl⟩
      · exact ⟨[.i .i64 st2, .i .i64 sp2, c2.v, n2.v, k2.v, w2.v], rfl⟩) w1.l.length (w2.l.length + 2) 2 (fun i fr => Pf fr ∧ RD fr [(2, .lptr 0 0), (3, .lptr 1 0), (6, .p (.i .i64 i))]) (fun fr => ∃ i : Nat, rd fr 4 = .p (.b false)) (fun fr => Pf fr ∧ RD fr [(2, .lptr 0 0), (3, .lptr 1 0)]) (fun i => (w1.l[i]?).any (ninL w2.l))
    (fun d i fr hd hi ⟨hp, hR⟩ => by
      obtain ⟨x, y, z, he⟩ := hes w1.l[i] (by simp)
      have hi' : w1.l[i]? = some (t3 x y z) := by rw [List.getElem?_eq_getElem hi, he]
      have hin : t3 x y z ∈ w1.l := List.mem_of_getElem? hi'
      obtain ⟨fr', e, hp', q1, q2⟩ := round47_1 (hand env1 d).1 (hand env1 d).2 ⟨K.ro, h.length⟩ (mask (env1.nvs 47) fr) h w1 i c1 n1 k1 c2 n2 k2 w2 st1 sp1 st2 sp2 x y z hi' hb (inL w2.l (t3 x y z)) (fun K => run109 w2 x y z hes2 hb2 h hm0 K d (by omega)) (hp.mask _) hm (hR.mask (by kernel_rfl))
      refine ⟨fr', ?_⟩
      simp only [hi', Option.any_some]
      have hr0 : ((ninL w2.l)) (t3 x y z) = (!inL w2.l (t3 x y z)) := rfl
      rw [hr0]
      cases hr : (!inL w2.l (t3 x y z)) with
      | true => rw [hr] at e q1; exact .inl ⟨rfl, e, i, q1 rfl⟩
      | false => rw [hr] at e q2; exact .inr ⟨rfl, e, hp'.drop _ _ _, (q2 rfl).drop (by kernel_rfl)⟩)
    (fun d fr hd ⟨hp, hR⟩ => exit47_1 (hand env1 d).1 (hand env1 d).2 ⟨K.ro, h.length⟩ (mask (env1.nvs 47) fr) h w1 c1 n1 k1 c2 n2 k2 w2 st1 sp1 st2 sp2 (hp.mask _) hm (hR.mask (by kernel_rfl)))
  obtain ⟨fr', h1 | h1⟩ := key w1.l.length 0 fr d (by omega) (by omega) ⟨hp, hR⟩
  · refine ⟨fr', .inl ⟨?_, h1.2⟩⟩
    obtain ⟨j, _, hj, h2⟩ := h1.1
    rw [List.getElem?_eq_getElem hj] at h2
    exact List.any_eq_true.2 ⟨w1.l[j], by simp, h2⟩
  · refine ⟨fr', .inr ⟨?_, h1.2⟩⟩
    rw [List.any_eq_false]
    intro x hx
    obtain ⟨j, hj, rfl⟩ := List.mem_iff_getElem.1 hx
    have := h1.1 j (by omega) hj
    rw [List.getElem?_eq_getElem hj] at this
    simpa using this

set_option maxRecDepth 100000 in
theorem round47_2 (C : Handler) (L : LHandler) (K : Ctx) (fr : Fr) (h : Heap) (k1 : SL) (i : Nat) (c1 n1 w1 c2 n2 k2 w2 : SL) (st1 sp1 st2 sp2 : Int) (x y : Int) (hi : k1.l[i]? = some (t2 x y)) (hb : k1.l.length < 2 ^ 40) (r : Bool) (hC : ∀ K, C K 110 [.p (k2.v), .p (.agg [.i .i64 x, .i .i64 y])] h = some (.p (.b r), h)) (hp : Pf fr) (hm : Pm ⟨[[.p (.i .i64 st1), .p (.i .i64 sp1), .p (c1.v), .p (n1.v), .p (k1.v), .p (w1.v)], [.p (.i .i64 st2), .p (.i .i64 sp2), .p (c2.v), .p (n2.v), .p (k2.v), .p (w2.v)]], h⟩) (hR : RD fr [(2, .lptr 0 0), (3, .lptr 1 0), (7, .p (.i .i64 i))]) :
    ∃ fr', evCode env1 C L K 47 lp47_2 ⟨fr, ⟨[[.p (.i .i64 st1), .p (.i .i64 sp1), .p (c1.v), .p (n1.v), .p (k1.v), .p (w1.v)], [.p (.i .i64 st2), .p (.i .i64 sp2), .p (c2.v), .p (n2.v), .p (k2.v), .p (w2.v)]], h⟩⟩ = some (if (!r) then .ret else .nrm, ⟨fr', ⟨[[.p (.i .i64 st1), .p (.i .i64 sp1), .p (c1.v), .p (n1.v), .p (k1.v), .p (w1.v)], [.p (.i .i64 st2), .p (.i .i64 sp2), .p (c2.v), .p (n2.v), .p (k2.v), .p (w2.v)]], h⟩⟩) ∧ Pf fr' ∧ ((!r) = true → rd fr' 4 = .p (.b false)) ∧ ((!r) = false → RD fr' [(2, .lptr 0 0), (3, .lptr 1 0), (7, .p (.i .i64 (i + 1 : Nat)))]) := by
  simp only [RD, and_true] at hR
  obtain ⟨h2, h3, h7⟩ := hR
  have hlt : i < k1.l.length := lt_of_get hi
  have hlt' : (i : Int) < (k1.l.length : Int) := by omega
  have hix := ixa254 (h := h) hi
  have hw := wrap_nat hlt hb
  unfold lp47_2
  simp (config := { maxDischargeDepth := 80 }) only [loopsOf, bd47, Tryz.f47, List.getD_cons_zero, List.getD_cons_succ, List.nil_append, List.cons_append, List.append_nil, evCode, evReg, evL, wantedV, evOp, argOf, cp, binV, intBin, putF, rd_setF, Option.map_some, Option.bind_some, if_true, Bool.true_or, decide_true, toB, takeS_pf, takeS_c, if_false, Pf.p, Pf.lp, Pf.pt, Pf.cl, Pf.nv, List.all_cons, List.all_nil, Bool.and_true, constV, constCell, nf1, ld, getCells, List.length_cons, List.length_nil, Nat.reduceEqDiff, reduceIte, Nat.reduceAdd, Nat.reduceLeDiff, List.take_succ_cons, List.take_zero, List.drop_zero, ofCells, mkAgg, mapO, V.isP, Bool.false_or, beq_self_eq_true, Bool.false_eq_true, cpL, vc_agg, vc_pagg, vc_i, PV.cells, List.map_cons, List.map_nil, Nat.zero_add, List.getElem?_cons_zero, List.getElem?_cons_succ, ↓SL.cells, ↓SL.vcells, ↓SL.cellOk, h2, h3, h7, hix, hlt', evCall, evBuiltin, len110, u75, z193, a193, z75, a75, f77_4, addOff, List.drop_succ_cons, okb110, tk110, hC, unV, lfL, lf, argsOf, List.contains_nil, ite_self, List.nil_append, List.cons_append, List.append_nil, Nat.one_ne_zero, hp, hm]
  rw [evRegD]
  rotate_left
  · rfl
  · kernel_rfl
  simp (config := { maxDischargeDepth := 80 }) only [evCode, evReg, evL, wantedV, evOp, argOf, cp, binV, intBin, putF, rd_setF, Option.map_some, Option.bind_some, if_true, Bool.true_or, decide_true, toB, takeS_pf, takeS_c, if_false, Pf.p, Pf.lp, Pf.pt, Pf.cl, Pf.nv, List.all_cons, List.all_nil, Bool.and_true, constV, constCell, nf1, ld, getCells, List.length_cons, List.length_nil, Nat.reduceEqDiff, reduceIte, Nat.reduceAdd, Nat.reduceLeDiff, List.take_succ_cons, List.take_zero, List.drop_zero, ofCells, mkAgg, mapO, V.isP, Bool.false_or, beq_self_eq_true, Bool.false_eq_true, cpL, vc_agg, vc_pagg, vc_i, PV.cells, List.map_cons, List.map_nil, Nat.zero_add, List.getElem?_cons_zero, List.getElem?_cons_succ, ↓SL.cells, ↓SL.vcells, ↓SL.cellOk, h2, h3, h7, hix, hlt', evCall, evBuiltin, len110, u75, z193, a193, z75, a75, f77_4, addOff, List.drop_succ_cons, okb110, tk110, hC, unV, lfL, lf, argsOf, List.contains_nil, ite_self, List.nil_append, List.cons_append, List.append_nil, Nat.one_ne_zero, hp, hm]
  cases hE : (!r)
  · simp (config := { maxDischargeDepth := 80 }) only [hE, Bool.not_true, Bool.not_false, if_true, if_false, evCode, evReg, evL, wantedV, evOp, argOf, cp, binV, intBin, putF, rd_setF, Option.map_some, Option.bind_some, if_true, Bool.true_or, decide_true, toB, takeS_pf, takeS_c, if_false, Pf.p, Pf.lp, Pf.pt, Pf.cl, Pf.nv, List.all_cons, List.all_nil, Bool.and_true, constV, constCell, nf1, ld, getCells, List.length_cons, List.length_nil, Nat.reduceEqDiff, reduceIte, Nat.reduceAdd, Nat.reduceLeDiff, List.take_succ_cons, List.take_zero, List.drop_zero, ofCells, mkAgg, mapO, V.isP, Bool.false_or, beq_self_eq_true, Bool.false_eq_true, cpL, vc_agg, vc_pagg, vc_i, PV.cells, List.map_cons, List.map_nil, Nat.zero_add, List.getElem?_cons_zero, List.getElem?_cons_succ, ↓SL.cells, ↓SL.vcells, ↓SL.cellOk, h2, h3, h7, hix, hlt', evCall, evBuiltin, len110, u75, z193, a193, z75, a75, f77_4, addOff, List.drop_succ_cons, okb110, tk110, hC, unV, lfL, lf, argsOf, List.contains_nil, ite_self, List.nil_append, List.cons_append, List.append_nil, Nat.one_ne_zero, hp, hm]
    refine ⟨_, rfl, ?_, fun h => (by cases h), fun _ => ?_⟩
    · simp (config := { maxDischargeDepth := 80 }) only [evCode, evReg, evL, wantedV, evOp, argOf, cp, binV, intBin, putF, rd_setF, Option.map_some, Option.bind_some, if_true, Bool.true_or, decide_true, toB, takeS_pf, takeS_c, if_false, Pf.p, Pf.lp, Pf.pt, Pf.cl, Pf.nv, List.all_cons, List.all_nil, Bool.and_true, constV, constCell, nf1, ld, getCells, List.length_cons, List.length_nil, Nat.reduceEqDiff, reduceIte, Nat.reduceAdd, Nat.reduceLeDiff, List.take_succ_cons, List.take_zero, List.drop_zero, ofCells, mkAgg, mapO, V.isP, Bool.false_or, beq_self_eq_true, Bool.false_eq_true, cpL, vc_agg, vc_pagg, vc_i, PV.cells, List.map_cons, List.map_nil, Nat.zero_add, List.getElem?_cons_zero, List.getElem?_cons_succ, ↓SL.cells, ↓SL.vcells, ↓SL.cellOk, h2, h3, h7, hix, hlt', evCall, evBuiltin, len110, u75, z193, a193, z75, a75, f77_4, addOff, List.drop_succ_cons, okb110, tk110, hC, unV, lfL, lf, argsOf, List.contains_nil, ite_self, List.nil_append, List.cons_append, List.append_nil, Nat.one_ne_zero, hp, hm]
    · simp (config := { maxDischargeDepth := 80 }) only [RD, evCode, evReg, evL, wantedV, evOp, argOf, cp, binV, intBin, putF, rd_setF, Option.map_some, Option.bind_some, if_true, Bool.true_or, decide_true, toB, takeS_pf, takeS_c, if_false, Pf.p, Pf.lp, Pf.pt, Pf.cl, Pf.nv, List.all_cons, List.all_nil, Bool.and_true, constV, constCell, nf1, ld, getCells, List.length_cons, List.length_nil, Nat.reduceEqDiff, reduceIte, Nat.reduceAdd, Nat.reduceLeDiff, List.take_succ_cons, List.take_zero, List.drop_zero, ofCells, mkAgg, mapO, V.isP, Bool.false_or, beq_self_eq_true, Bool.false_eq_true, cpL, vc_agg, vc_pagg, vc_i, PV.cells, List.map_cons, List.map_nil, Nat.zero_add, List.getElem?_cons_zero, List.getElem?_cons_succ, ↓SL.cells, ↓SL.vcells, ↓SL.cellOk, h2, h3, h7, hix, hlt', evCall, evBuiltin, len110, u75, z193, a193, z75, a75, f77_4, addOff, List.drop_succ_cons, okb110, tk110, hC, unV, lfL, lf, argsOf, List.contains_nil, ite_self, List.nil_append, List.cons_append, List.append_nil, Nat.one_ne_zero, hp, hm, hw, and_self]
  · simp (config := { maxDischargeDepth := 80 }) only [hE, Bool.not_true, Bool.not_false, if_true, if_false, evCode, evReg, evL, wantedV, evOp, argOf, cp, binV, intBin, putF, rd_setF, Option.map_some, Option.bind_some, if_true, Bool.true_or, decide_true, toB, takeS_pf, takeS_c, if_false, Pf.p, Pf.lp, Pf.pt, Pf.cl, Pf.nv, List.all_cons, List.all_nil, Bool.and_true, constV, constCell, nf1, ld, getCells, List.length_cons, List.length_nil, Nat.reduceEqDiff, reduceIte, Nat.reduceAdd, Nat.reduceLeDiff, List.take_succ_cons, List.take_zero, List.drop_zero, ofCells, mkAgg, mapO, V.isP, Bool.false_or, beq_self_eq_true, Bool.false_eq_true, cpL, vc_agg, vc_pagg, vc_i, PV.cells, List.map_cons, List.map_nil, Nat.zero_add, List.getElem?_cons_zero, List.getElem?_cons_succ, ↓SL.cells, ↓SL.vcells, ↓SL.cellOk, h2, h3, h7, hix, hlt', evCall, evBuiltin, len110, u75, z193, a193, z75, a75, f77_4, addOff, List.drop_succ_cons, okb110, tk110, hC, unV, lfL, lf, argsOf, List.contains_nil, ite_self, List.nil_append, List.cons_append, List.append_nil, Nat.one_ne_zero, hp, hm]
    refine ⟨_, rfl, ?_, fun _ => ?_, fun h => (by cases h)⟩
    · simp (config := { maxDischargeDepth := 80 }) only [evCode, evReg, evL, wantedV, evOp, argOf, cp, binV, intBin, putF, rd_setF, Option.map_some, Option.bind_some, if_true, Bool.true_or, decide_true, toB, takeS_pf, takeS_c, if_false, Pf.p, Pf.lp, Pf.pt, Pf.cl, Pf.nv, List.all_cons, List.all_nil, Bool.and_true, constV, constCell, nf1, ld, getCells, List.length_cons, List.length_nil, Nat.reduceEqDiff, reduceIte, Nat.reduceAdd, Nat.reduceLeDiff, List.take_succ_cons, List.take_zero, List.drop_zero, ofCells, mkAgg, mapO, V.isP, Bool.false_or, beq_self_eq_true, Bool.false_eq_true, cpL, vc_agg, vc_pagg, vc_i, PV.cells, List.map_cons, List.map_nil, Nat.zero_add, List.getElem?_cons_zero, List.getElem?_cons_succ, ↓SL.cells, ↓SL.vcells, ↓SL.cellOk, h2, h3, h7, hix, hlt', evCall, evBuiltin, len110, u75, z193, a193, z75, a75, f77_4, addOff, List.drop_succ_cons, okb110, tk110, hC, unV, lfL, lf, argsOf, List.contains_nil, ite_self, List.nil_append, List.cons_append, List.append_nil, Nat.one_ne_zero, hp, hm]
    · simp (config := { maxDischargeDepth := 80 }) only [evCode, evReg, evL, wantedV, evOp, argOf, cp, binV, intBin, putF, rd_setF, Option.map_some, Option.bind_some, if_true, Bool.true_or, decide_true, toB, takeS_pf, takeS_c, if_false, Pf.p, Pf.lp, Pf.pt, Pf.cl, Pf.nv, List.all_cons, List.all_nil, Bool.and_true, constV, constCell, nf1, ld, getCells, List.length_cons, List.length_nil, Nat.reduceEqDiff, reduceIte, Nat.reduceAdd, Nat.reduceLeDiff, List.take_succ_cons, List.take_zero, List.drop_zero, ofCells, mkAgg, mapO, V.isP, Bool.false_or, beq_self_eq_true, Bool.false_eq_true, cpL, vc_agg, vc_pagg, vc_i, PV.cells, List.map_cons, List.map_nil, Nat.zero_add, List.getElem?_cons_zero, List.getElem?_cons_succ, ↓SL.cells, ↓SL.vcells, ↓SL.cellOk, h2, h3, h7, hix, hlt', evCall, evBuiltin, len110, u75, z193, a193, z75, a75, f77_4, addOff, List.drop_succ_cons, okb110, tk110, hC, unV, lfL, lf, argsOf, List.contains_nil, ite_self, List.nil_append, List.cons_append, List.append_nil, Nat.one_ne_zero, hp, hm]

set_option maxRecDepth 100000 in
theorem exit47_2 (C : Handler) (L : LHandler) (K : Ctx) (fr : Fr) (h : Heap) (k1 : SL) (c1 n1 w1 c2 n2 k2 w2 : SL) (st1 sp1 st2 sp2 : Int) (hp : Pf fr) (hm : Pm ⟨[[.p (.i .i64 st1), .p (.i .i64 sp1), .p (c1.v), .p (n1.v), .p (k1.v), .p (w1.v)], [.p (.i .i64 st2), .p (.i .i64 sp2), .p (c2.v), .p (n2.v), .p (k2.v), .p (w2.v)]], h⟩) (hR : RD fr [(2, .lptr 0 0), (3, .lptr 1 0), (7, .p (.i .i64 k1.l.length))]) :
    ∃ fr', evCode env1 C L K 47 lp47_2 ⟨fr, ⟨[[.p (.i .i64 st1), .p (.i .i64 sp1), .p (c1.v), .p (n1.v), .p (k1.v), .p (w1.v)], [.p (.i .i64 st2), .p (.i .i64 sp2), .p (c2.v), .p (n2.v), .p (k2.v), .p (w2.v)]], h⟩⟩ = some (.ext 4, ⟨fr', ⟨[[.p (.i .i64 st1), .p (.i .i64 sp1), .p (c1.v), .p (n1.v), .p (k1.v), .p (w1.v)], [.p (.i .i64 st2), .p (.i .i64 sp2), .p (c2.v), .p (n2.v), .p (k2.v), .p (w2.v)]], h⟩⟩) ∧ Pf fr' ∧ RD fr' [(2, .lptr 0 0), (3, .lptr 1 0)] := by
  simp only [RD, and_true] at hR
  obtain ⟨h2, h3, h7⟩ := hR
  have hn : ¬ ((k1.l.length : Int) < (k1.l.length : Int)) := by omega
  unfold lp47_2
  simp (config := { maxDischargeDepth := 80 }) only [loopsOf, bd47, Tryz.f47, List.getD_cons_zero, List.getD_cons_succ, List.nil_append, List.cons_append, List.append_nil, evCode, evReg, evL, wantedV, evOp, argOf, cp, binV, intBin, putF, rd_setF, Option.map_some, Option.bind_some, if_true, Bool.true_or, decide_true, toB, takeS_pf, takeS_c, if_false, Pf.p, Pf.lp, Pf.pt, Pf.cl, Pf.nv, List.all_cons, List.all_nil, Bool.and_true, constV, constCell, nf1, ld, getCells, List.length_cons, List.length_nil, Nat.reduceEqDiff, reduceIte, Nat.reduceAdd, Nat.reduceLeDiff, List.take_succ_cons, List.take_zero, List.drop_zero, ofCells, mkAgg, mapO, V.isP, Bool.false_or, beq_self_eq_true, Bool.false_eq_true, cpL, vc_agg, vc_pagg, vc_i, PV.cells, List.map_cons, List.map_nil, Nat.zero_add, List.getElem?_cons_zero, List.getElem?_cons_succ, ↓SL.cells, ↓SL.vcells, ↓SL.cellOk, h2, h3, h7, evCall, evBuiltin, len110, z75, a75, f77_4, addOff, List.drop_succ_cons, Nat.one_ne_zero, hp, hm, hn, decide_false]
  exact ⟨_, rfl, by simp (config := { maxDischargeDepth := 80 }) only [evCode, evReg, evL, wantedV, evOp, argOf, cp, binV, intBin, putF, rd_setF, Option.map_some, Option.bind_some, if_true, Bool.true_or, decide_true, toB, takeS_pf, takeS_c, if_false, Pf.p, Pf.lp, Pf.pt, Pf.cl, Pf.nv, List.all_cons, List.all_nil, Bool.and_true, constV, constCell, nf1, ld, getCells, List.length_cons, List.length_nil, Nat.reduceEqDiff, reduceIte, Nat.reduceAdd, Nat.reduceLeDiff, List.take_succ_cons, List.take_zero, List.drop_zero, ofCells, mkAgg, mapO, V.isP, Bool.false_or, beq_self_eq_true, Bool.false_eq_true, cpL, vc_agg, vc_pagg, vc_i, PV.cells, List.map_cons, List.map_nil, Nat.zero_add, List.getElem?_cons_zero, List.getElem?_cons_succ, ↓SL.cells, ↓SL.vcells, ↓SL.cellOk, h2, h3, h7, evCall, evBuiltin, len110, z75, a75, f77_4, addOff, List.drop_succ_cons, Nat.one_ne_zero, hp, hm], by simp (config := { maxDischargeDepth := 80 }) only [RD, evCode, evReg, evL, wantedV, evOp, argOf, cp, binV, intBin, putF, rd_setF, Option.map_some, Option.bind_some, if_true, Bool.true_or, decide_true, toB, takeS_pf, takeS_c, if_false, Pf.p, Pf.lp, Pf.pt, Pf.cl, Pf.nv, List.all_cons, List.all_nil, Bool.and_true, constV, constCell, nf1, ld, getCells, List.length_cons, List.length_nil, Nat.reduceEqDiff, reduceIte, Nat.reduceAdd, Nat.reduceLeDiff, List.take_succ_cons, List.take_zero, List.drop_zero, ofCells, mkAgg, mapO, V.isP, Bool.false_or, beq_self_eq_true, Bool.false_eq_true, cpL, vc_agg, vc_pagg, vc_i, PV.cells, List.map_cons, List.map_nil, Nat.zero_add, List.getElem?_cons_zero, List.getElem?_cons_succ, ↓SL.cells, ↓SL.vcells, ↓SL.cellOk, h2, h3, h7, evCall, evBuiltin, len110, z75, a75, f77_4, addOff, List.drop_succ_cons, Nat.one_ne_zero, hp, hm, and_self]⟩

theorem loop47_2 (k1 : SL) (c1 n1 w1 c2 n2 k2 w2 : SL) (st1 sp1 st2 sp2 : Int) (hes : ∀ e ∈ k1.l, ∃ x y, e = t2 x y) (hb : k1.l.length < 2 ^ 40) (h : Heap) (hm : Pm ⟨[[.p (.i .i64 st1), .p (.i .i64 sp1), .p (c1.v), .p (n1.v), .p (k1.v), .p (w1.v)], [.p (.i .i64 st2), .p (.i .i64 sp2), .p (c2.v), .p (n2.v), .p (k2.v), .p (w2.v)]], h⟩) (hes2 : ∀ e ∈ k2.l, ∃ x y, e = t2 x y) (hb2 : k2.l.length < 2 ^ 40) (hm0 : Pm ⟨[], h⟩) (K : Ctx) (fr : Fr) (d : Nat) (hd : (k2.l.length + 2) + k1.l.length + 1 ≤ d) (hp : Pf fr) (hR : RD fr [(2, .lptr 0 0), (3, .lptr 1 0), (7, .p (.i .i64 0))]) :
    ∃ fr', (k1.l.any (ninL k2.l) = true ∧ (hand env1 d).2 K 47 lp47_2 ⟨fr, ⟨[[.p (.i .i64 st1), .p (.i .i64 sp1), .p (c1.v), .p (n1.v), .p (k1.v), .p (w1.v)], [.p (.i .i64 st2), .p (.i .i64 sp2), .p (c2.v), .p (n2.v), .p (k2.v), .p (w2.v)]], h⟩⟩ = some (.ret, ⟨fr', ⟨[[.p (.i .i64 st1), .p (.i .i64 sp1), .p (c1.v), .p (n1.v), .p (k1.v), .p (w1.v)], [.p (.i .i64 st2), .p (.i .i64 sp2), .p (c2.v), .p (n2.v), .p (k2.v), .p (w2.v)]], h⟩⟩) ∧ ∃ i : Nat, rd fr' 4 = .p (.b false)) ∨ (k1.l.any (ninL k2.l) = false ∧ (hand env1 d).2 K 47 lp47_2 ⟨fr, ⟨[[.p (.i .i64 st1), .p (.i .i64 sp1), .p (c1.v), .p (n1.v), .p (k1.v), .p (w1.v)], [.p (.i .i64 st2), .p (.i .i64 sp2), .p (c2.v), .p (n2.v), .p (k2.v), .p (w2.v)]], h⟩⟩ = some (.ext 4, ⟨fr', ⟨[[.p (.i .i64 st1), .p (.i .i64 sp1), .p (c1.v), .p (n1.v), .p (k1.v), .p (w1.v)], [.p (.i .i64 st2), .p (.i .i64 sp2), .p (c2.v), .p (n2.v), .p (k2.v), .p (w2.v)]], h⟩⟩) ∧ Pf fr' ∧ RD fr' [(2, .lptr 0 0), (3, .lptr 1 0)]) := by
  have key := loop_find (E := env1) (K := K) (f := 47) (body := lp47_2) (m := ⟨[[.p (.i .i64 st1), .p (.i .i64 sp1), .p (c1.v), .p (n1.v), .p (k1.v), .p (w1.v)], [.p (.i .i64 st2), .p (.i .i64 sp2), .p (c2.v), .p (n2.v), .p (k2.v), .p (w2.v)]], h⟩) (by kernel_rfl) (fun cs hcs => by
      simp only [List.mem_cons, List.mem_nil_iff, or_false] at hcs
      rcases hcs with rfl | rfl
      · exact ⟨[.i .i64 st1, .i .i64 sp1, c1.v, n1.v, k1.v, w1.v], rfl⟩
      · exact ⟨[.i .i64 st2, .i .i64 sp2, c2.v, n2.v, k2.v, w2.v], rfl⟩) k1.l.length (k2.l.length + 2) 4 (fun i fr => Pf fr ∧ RD fr [(2, .lptr 0 0), (3, .lptr 1 0), (7, .p (.i .i64 i))]) (fun fr => ∃ i : Nat, rd fr 4 = .p (.b false)) (fun fr => Pf fr ∧ RD fr [(2, .lptr 0 0), (3, .lptr 1 0)]) (fun i => (k1.l[i]?).any (ninL k2.l))
    (fun d i fr hd hi ⟨hp, hR⟩ => by
      obtain ⟨x, y, he⟩ := hes k1.l[i] (by simp)
      have hi' : k1.l[i]? = some (t2 x y) := by rw [List.getElem?_eq_getElem hi, he]
      have hin : t2 x y ∈ k1.l := List.mem_of_getElem? hi'
      obtain ⟨fr', e, hp', q1, q2⟩ := round47_2 (hand env1 d).1 (hand env1 d).2 ⟨K.ro, h.length⟩ (mask (env1.nvs 47) fr) h k1 i c1 n1 w1 c2 n2 k2 w2 st1 sp1 st2 sp2 x y hi' hb (inL k2.l (t2 x y)) (fun K => run110 k2 x y hes2 hb2 h hm0 K d (by omega)) (hp.mask _) hm (hR.mask (by kernel_rfl))
      refine ⟨fr', ?_⟩
      simp only [hi', Option.any_some]
      have hr0 : ((ninL k2.l)) (t2 x y) = (!inL k2.l (t2 x y)) := rfl
      rw [hr0]
      cases hr : (!inL k2.l (t2 x y)) with
      | true => rw [hr] at e q1; exact .inl ⟨rfl, e, i, q1 rfl⟩
      | false => rw [hr] at e q2; exact .inr ⟨rfl, e, hp'.drop _ _ _, (q2 rfl).drop (by kernel_rfl)⟩)
    (fun d fr hd ⟨hp, hR⟩ => exit47_2 (hand env1 d).1 (hand env1 d).2 ⟨K.ro, h.length⟩ (mask (env1.nvs 47) fr) h k1 c1 n1 w1 c2 n2 k2 w2 st1 sp1 st2 sp2 (hp.mask _) hm (hR.mask (by kernel_rfl)))
  obtain ⟨fr', h1 | h1⟩ := key k1.l.length 0 fr d (by omega) (by omega) ⟨hp, hR⟩
  · refine ⟨fr', .inl ⟨?_, h1.2⟩⟩
    obtain ⟨j, _, hj, h2⟩ := h1.1
    rw [List.getElem?_eq_getElem hj] at h2
    exact List.any_eq_true.2 ⟨k1.l[j], by simp, h2⟩
  · refine ⟨fr', .inr ⟨?_, h1.2⟩⟩
    rw [List.any_eq_false]
    intro x hx
    obtain ⟨j, hj, rfl⟩ := List.mem_iff_getElem.1 hx
    have := h1.1 j (by omega) hj
    rw [List.getElem?_eq_getElem hj] at this
    simpa using this

set_option maxRecDepth 100000 in
theorem round47_3 (C : Handler) (L : LHandler) (K : Ctx) (fr : Fr) (h : Heap) (n1 : SL) (i : Nat) (c1 k1 w1 c2 n2 k2 w2 : SL) (st1 sp1 st2 sp2 : Int) (x : Int) (hi : n1.l[i]? = some (t1 x)) (hb : n1.l.length < 2 ^ 40) (r : Bool) (hC : ∀ K, C K 111 [.p (n2.v), .p (.i .i64 x)] h = some (.p (.b r), h)) (hp : Pf fr) (hm : Pm ⟨[[.p (.i .i64 st1), .p (.i .i64 sp1), .p (c1.v), .p (n1.v), .p (k1.v), .p (w1.v)], [.p (.i .i64 st2), .p (.i .i64 sp2), .p (c2.v), .p (n2.v), .p (k2.v), .p (w2.v)]], h⟩) (hR : RD fr [(2, .lptr 0 0), (3, .lptr 1 0), (8, .p (.i .i64 i))]) :
    ∃ fr', evCode env1 C L K 47 lp47_3 ⟨fr, ⟨[[.p (.i .i64 st1), .p (.i .i64 sp1), .p (c1.v), .p (n1.v), .p (k1.v), .p (w1.v)], [.p (.i .i64 st2), .p (.i .i64 sp2), .p (c2.v), .p (n2.v), .p (k2.v), .p (w2.v)]], h⟩⟩ = some (if (!r) then .ret else .nrm, ⟨fr', ⟨[[.p (.i .i64 st1), .p (.i .i64 sp1), .p (c1.v), .p (n1.v), .p (k1.v), .p (w1.v)], [.p (.i .i64 st2), .p (.i .i64 sp2), .p (c2.v), .p (n2.v), .p (k2.v), .p (w2.v)]], h⟩⟩) ∧ Pf fr' ∧ ((!r) = true → rd fr' 4 = .p (.b false)) ∧ ((!r) = false → RD fr' [(2, .lptr 0 0), (3, .lptr 1 0), (8, .p (.i .i64 (i + 1 : Nat)))]) := by
  simp only [RD, and_true] at hR
  obtain ⟨h2, h3, h8⟩ := hR
  have hlt : i < n1.l.length := lt_of_get hi
  have hlt' : (i : Int) < (n1.l.length : Int) := by omega
  have hix := ixa256 (h := h) hi
  have hw := wrap_nat hlt hb
  unfold lp47_3
  simp (config := { maxDischargeDepth := 80 }) only [loopsOf, bd47, Tryz.f47, List.getD_cons_zero, List.getD_cons_succ, List.nil_append, List.cons_append, List.append_nil, evCode, evReg, evL, wantedV, evOp, argOf, cp, binV, intBin, putF, rd_setF, Option.map_some, Option.bind_some, if_true, Bool.true_or, decide_true, toB, takeS_pf, takeS_c, if_false, Pf.p, Pf.lp, Pf.pt, Pf.cl, Pf.nv, List.all_cons, List.all_nil, Bool.and_true, constV, constCell, nf1, ld, getCells, List.length_cons, List.length_nil, Nat.reduceEqDiff, reduceIte, Nat.reduceAdd, Nat.reduceLeDiff, List.take_succ_cons, List.take_zero, List.drop_zero, ofCells, mkAgg, mapO, V.isP, Bool.false_or, beq_self_eq_true, Bool.false_eq_true, cpL, vc_agg, vc_pagg, vc_i, PV.cells, List.map_cons, List.map_nil, Nat.zero_add, List.getElem?_cons_zero, List.getElem?_cons_succ, ↓SL.cells, ↓SL.vcells, ↓SL.cellOk, h2, h3, h8, hix, hlt', evCall, evBuiltin, len111, u42, z3, a3, z42, a42, f77_3, addOff, List.drop_succ_cons, okb111, tk111, hC, unV, lfL, lf, argsOf, List.contains_nil, ite_self, List.nil_append, List.cons_append, List.append_nil, Nat.one_ne_zero, hp, hm]
  rw [evRegD]
  rotate_left
  · rfl
  · kernel_rfl
  simp (config := { maxDischargeDepth := 80 }) only [evCode, evReg, evL, wantedV, evOp, argOf, cp, binV, intBin, putF, rd_setF, Option.map_some, Option.bind_some, if_true, Bool.true_or, decide_true, toB, takeS_pf, takeS_c, if_false, Pf.p, Pf.lp, Pf.pt, Pf.cl, Pf.nv, List.all_cons, List.all_nil, Bool.and_true, constV, constCell, nf1, ld, getCells, List.length_cons, List.length_nil, Nat.reduceEqDiff, reduceIte, Nat.reduceAdd, Nat.reduceLeDiff, List.take_succ_cons, List.take_zero, List.drop_zero, ofCells, mkAgg, mapO, V.isP, Bool.false_or, beq_self_eq_true, Bool.false_eq_true, cpL, vc_agg, vc_pagg, vc_i, PV.cells, List.map_cons, List.map_nil, Nat.zero_add, List.getElem?_cons_zero, List.getElem?_cons_succ, ↓SL.cells, ↓SL.vcells, ↓SL.cellOk, h2, h3, h8, hix, hlt', evCall, evBuiltin, len111, u42, z3, a3, z42, a42, f77_3, addOff, List.drop_succ_cons, okb111, tk111, hC, unV, lfL, lf, argsOf, List.contains_nil, ite_self, List.nil_append, List.cons_append, List.append_nil, Nat.one_ne_zero, hp, hm]
  cases hE : (!r)
  · simp (config := { maxDischargeDepth := 80 }) only [hE, Bool.not_true, Bool.not_false, if_true, if_false, evCode, evReg, evL, wantedV, evOp, argOf, cp, binV, intBin, putF, rd_setF, Option.map_some, Option.bind_some, if_true, Bool.true_or, decide_true, toB, takeS_pf, takeS_c, if_false, Pf.p, Pf.lp, Pf.pt, Pf.cl, Pf.nv, List.all_cons, List.all_nil, Bool.and_true, constV, constCell, nf1, ld, getCells, List.length_cons, List.length_nil, Nat.reduceEqDiff, reduceIte, Nat.reduceAdd, Nat.reduceLeDiff, List.take_succ_cons, List.take_zero, List.drop_zero, ofCells, mkAgg, mapO, V.isP, Bool.false_or, beq_self_eq_true, Bool.false_eq_true, cpL, vc_agg, vc_pagg, vc_i, PV.cells, List.map_cons, List.map_nil, Nat.zero_add, List.getElem?_cons_zero, List.getElem?_cons_succ, ↓SL.cells, ↓SL.vcells, ↓SL.cellOk, h2, h3, h8, hix, hlt', evCall, evBuiltin, len111, u42, z3, a3, z42, a42, f77_3, addOff, List.drop_succ_cons, okb111, tk111, hC, unV, lfL, lf, argsOf, List.contains_nil, ite_self, List.nil_append, List.cons_append, List.append_nil, Nat.one_ne_zero, hp, hm]
    refine ⟨_, rfl, ?_, fun h => (by cases h), fun _ => ?_⟩
    · simp (config := { maxDischargeDepth := 80 }) only [evCode, evReg, evL, wantedV, evOp, argOf, cp, binV, intBin, putF, rd_setF, Option.map_some, Option.bind_some, if_true, Bool.true_or, decide_true, toB, takeS_pf, takeS_c, if_false, Pf.p, Pf.lp, Pf.pt, Pf.cl, Pf.nv, List.all_cons, List.all_nil, Bool.and_true, constV, constCell, nf1, ld, getCells, List.length_cons, List.length_nil, Nat.reduceEqDiff, reduceIte, Nat.reduceAdd, Nat.reduceLeDiff, List.take_succ_cons, List.take_zero, List.drop_zero, ofCells, mkAgg, mapO, V.isP, Bool.false_or, beq_self_eq_true, Bool.false_eq_true, cpL, vc_agg, vc_pagg, vc_i, PV.cells, List.map_cons, List.map_nil, Nat.zero_add, List.getElem?_cons_zero, List.getElem?_cons_succ, ↓SL.cells, ↓SL.vcells, ↓SL.cellOk, h2, h3, h8, hix, hlt', evCall, evBuiltin, len111, u42, z3, a3, z42, a42, f77_3, addOff, List.drop_succ_cons, okb111, tk111, hC, unV, lfL, lf, argsOf, List.contains_nil, ite_self, List.nil_append, List.cons_append, List.append_nil, Nat.one_ne_zero, hp, hm]
    · simp (config := { maxDischargeDepth := 80 }) only [RD, evCode, evReg, evL, wantedV, evOp, argOf, cp, binV, intBin, putF, rd_setF, Option.map_some, Option.bind_some, if_true, Bool.true_or, decide_true, toB, takeS_pf, takeS_c, if_false, Pf.p, Pf.lp, Pf.pt, Pf.cl, Pf.nv, List.all_cons, List.all_nil, Bool.and_true, constV, constCell, nf1, ld, getCells, List.length_cons, List.length_nil, Nat.reduceEqDiff, reduceIte, Nat.reduceAdd, Nat.reduceLeDiff, List.take_succ_cons, List.take_zero, List.drop_zero, ofCells, mkAgg, mapO, V.isP, Bool.false_or, beq_self_eq_true, Bool.false_eq_true, cpL, vc_agg, vc_pagg, vc_i, PV.cells, List.map_cons, List.map_nil, Nat.zero_add, List.getElem?_cons_zero, List.getElem?_cons_succ, ↓SL.cells, ↓SL.vcells, ↓SL.cellOk, h2, h3, h8, hix, hlt', evCall, evBuiltin, len111, u42, z3, a3, z42, a42, f77_3, addOff, List.drop_succ_cons, okb111, tk111, hC, unV, lfL, lf, argsOf, List.contains_nil, ite_self, List.nil_append, List.cons_append, List.append_nil, Nat.one_ne_zero, hp, hm, hw, and_self]
  · simp (config := { maxDischargeDepth := 80 }) only [hE, Bool.not_true, Bool.not_false, if_true, if_false, evCode, evReg, evL, wantedV, evOp, argOf, cp, binV, intBin, putF, rd_setF, Option.map_some, Option.bind_some, if_true, Bool.true_or, decide_true, toB, takeS_pf, takeS_c, if_false, Pf.p, Pf.lp, Pf.pt, Pf.cl, Pf.nv, List.all_cons, List.all_nil, Bool.and_true, constV, constCell, nf1, ld, getCells, List.length_cons, List.length_nil, Nat.reduceEqDiff, reduceIte, Nat.reduceAdd, Nat.reduceLeDiff, List.take_succ_cons, List.take_zero, List.drop_zero, ofCells, mkAgg, mapO, V.isP, Bool.false_or, beq_self_eq_true, Bool.false_eq_true, cpL, vc_agg, vc_pagg, vc_i, PV.cells, List.map_cons, List.map_nil, Nat.zero_add, List.getElem?_cons_zero, List.getElem?_cons_succ, ↓SL.cells, ↓SL.vcells, ↓SL.cellOk, h2, h3, h8, hix, hlt', evCall, evBuiltin, len111, u42, z3, a3, z42, a42, f77_3, addOff, List.drop_succ_cons, okb111, tk111, hC, unV, lfL, lf, argsOf, List.contains_nil, ite_self, List.nil_append, List.cons_append, List.append_nil, Nat.one_ne_zero, hp, hm]
    refine ⟨_, rfl, ?_, fun _ => ?_, fun h => (by cases h)⟩
    · simp (config := { maxDischargeDepth := 80 }) only [evCode, evReg, evL, wantedV, evOp, argOf, cp, binV, intBin, putF, rd_setF, Option.map_some, Option.bind_some, if_true, Bool.true_or, decide_true, toB, takeS_pf, takeS_c, if_false, Pf.p, Pf.lp, Pf.pt, Pf.cl, Pf.nv, List.all_cons, List.all_nil, Bool.and_true, constV, constCell, nf1, ld, getCells, List.length_cons, List.length_nil, Nat.reduceEqDiff, reduceIte, Nat.reduceAdd, Nat.reduceLeDiff, List.take_succ_cons, List.take_zero, List.drop_zero, ofCells, mkAgg, mapO, V.isP, Bool.false_or, beq_self_eq_true, Bool.false_eq_true, cpL, vc_agg, vc_pagg, vc_i, PV.cells, List.map_cons, List.map_nil, Nat.zero_add, List.getElem?_cons_zero, List.getElem?_cons_succ, ↓SL.cells, ↓SL.vcells, ↓SL.cellOk, h2, h3, h8, hix, hlt', evCall, evBuiltin, len111, u42, z3, a3, z42, a42, f77_3, addOff, List.drop_succ_cons, okb111, tk111, hC, unV, lfL, lf, argsOf, List.contains_nil, ite_self, List.nil_append, List.cons_append, List.append_nil, Nat.one_ne_zero, hp, hm]
    · simp (config := { maxDischargeDepth := 80 }) only [evCode, evReg, evL, wantedV, evOp, argOf, cp, binV, intBin, putF, rd_setF, Option.map_some, Option.bind_some, if_true, Bool.true_or, decide_true, toB, takeS_pf, takeS_c, if_false, Pf.p, Pf.lp, Pf.pt, Pf.cl, Pf.nv, List.all_cons, List.all_nil, Bool.and_true, constV, constCell, nf1, ld, getCells, List.length_cons, List.length_nil, Nat.reduceEqDiff, reduceIte, Nat.reduceAdd, Nat.reduceLeDiff, List.take_succ_cons, List.take_zero, List.drop_zero, ofCells, mkAgg, mapO, V.isP, Bool.false_or, beq_self_eq_true, Bool.false_eq_true, cpL, vc_agg, vc_pagg, vc_i, PV.cells, List.map_cons, List.map_nil, Nat.zero_add, List.getElem?_cons_zero, List.getElem?_cons_succ, ↓SL.cells, ↓SL.vcells, ↓SL.cellOk, h2, h3, h8, hix, hlt', evCall, evBuiltin, len111, u42, z3, a3, z42, a42, f77_3, addOff, List.drop_succ_cons, okb111, tk111, hC, unV, lfL, lf, argsOf, List.contains_nil, ite_self, List.nil_append, List.cons_append, List.append_nil, Nat.one_ne_zero, hp, hm]

set_option maxRecDepth 100000 in
theorem exit47_3 (C : Handler) (L : LHandler) (K : Ctx) (fr : Fr) (h : Heap) (n1 : SL) (c1 k1 w1 c2 n2 k2 w2 : SL) (st1 sp1 st2 sp2 : Int) (hp : Pf fr) (hm : Pm ⟨[[.p (.i .i64 st1), .p (.i .i64 sp1), .p (c1.v), .p (n1.v), .p (k1.v), .p (w1.v)], [.p (.i .i64 st2), .p (.i .i64 sp2), .p (c2.v), .p (n2.v), .p (k2.v), .p (w2.v)]], h⟩) (hR : RD fr [(2, .lptr 0 0), (3, .lptr 1 0), (8, .p (.i .i64 n1.l.length))]) :
    ∃ fr', evCode env1 C L K 47 lp47_3 ⟨fr, ⟨[[.p (.i .i64 st1), .p (.i .i64 sp1), .p (c1.v), .p (n1.v), .p (k1.v), .p (w1.v)], [.p (.i .i64 st2), .p (.i .i64 sp2), .p (c2.v), .p (n2.v), .p (k2.v), .p (w2.v)]], h⟩⟩ = some (.ext 6, ⟨fr', ⟨[[.p (.i .i64 st1), .p (.i .i64 sp1), .p (c1.v), .p (n1.v), .p (k1.v), .p (w1.v)], [.p (.i .i64 st2), .p (.i .i64 sp2), .p (c2.v), .p (n2.v), .p (k2.v), .p (w2.v)]], h⟩⟩) ∧ Pf fr' ∧ RD fr' [(2, .lptr 0 0), (3, .lptr 1 0)] := by
  simp only [RD, and_true] at hR
  obtain ⟨h2, h3, h8⟩ := hR
  have hn : ¬ ((n1.l.length : Int) < (n1.l.length : Int)) := by omega
  unfold lp47_3
  simp (config := { maxDischargeDepth := 80 }) only [loopsOf, bd47, Tryz.f47, List.getD_cons_zero, List.getD_cons_succ, List.nil_append, List.cons_append, List.append_nil, evCode, evReg, evL, wantedV, evOp, argOf, cp, binV, intBin, putF, rd_setF, Option.map_some, Option.bind_some, if_true, Bool.true_or, decide_true, toB, takeS_pf, takeS_c, if_false, Pf.p, Pf.lp, Pf.pt, Pf.cl, Pf.nv, List.all_cons, List.all_nil, Bool.and_true, constV, constCell, nf1, ld, getCells, List.length_cons, List.length_nil, Nat.reduceEqDiff, reduceIte, Nat.reduceAdd, Nat.reduceLeDiff, List.take_succ_cons, List.take_zero, List.drop_zero, ofCells, mkAgg, mapO, V.isP, Bool.false_or, beq_self_eq_true, Bool.false_eq_true, cpL, vc_agg, vc_pagg, vc_i, PV.cells, List.map_cons, List.map_nil, Nat.zero_add, List.getElem?_cons_zero, List.getElem?_cons_succ, ↓SL.cells, ↓SL.vcells, ↓SL.cellOk, h2, h3, h8, evCall, evBuiltin, len111, z42, a42, f77_3, addOff, List.drop_succ_cons, Nat.one_ne_zero, hp, hm, hn, decide_false]
  exact ⟨_, rfl, by simp (config := { maxDischargeDepth := 80 }) only [evCode, evReg, evL, wantedV, evOp, argOf, cp, binV, intBin, putF, rd_setF, Option.map_some, Option.bind_some, if_true, Bool.true_or, decide_true, toB, takeS_pf, takeS_c, if_false, Pf.p, Pf.lp, Pf.pt, Pf.cl, Pf.nv, List.all_cons, List.all_nil, Bool.and_true, constV, constCell, nf1, ld, getCells, List.length_cons, List.length_nil, Nat.reduceEqDiff, reduceIte, Nat.reduceAdd, Nat.reduceLeDiff, List.take_succ_cons, List.take_zero, List.drop_zero, ofCells, mkAgg, mapO, V.isP, Bool.false_or, beq_self_eq_true, Bool.false_eq_true, cpL, vc_agg, vc_pagg, vc_i, PV.cells, List.map_cons, List.map_nil, Nat.zero_add, List.getElem?_cons_zero, List.getElem?_cons_succ, ↓SL.cells, ↓SL.vcells, ↓SL.cellOk, h2, h3, h8, evCall, evBuiltin, len111, z42, a42, f77_3, addOff, List.drop_succ_cons, Nat.one_ne_zero, hp, hm], by simp (config := { maxDischargeDepth := 80 }) only [RD, evCode, evReg, evL, wantedV, evOp, argOf, cp, binV, intBin, putF, rd_setF, Option.map_some, Option.bind_some, if_true, Bool.true_or, decide_true, toB, takeS_pf, takeS_c, if_false, Pf.p, Pf.lp, Pf.pt, Pf.cl, Pf.nv, List.all_cons, List.all_nil, Bool.and_true, constV, constCell, nf1, ld, getCells, List.length_cons, List.length_nil, Nat.reduceEqDiff, reduceIte, Nat.reduceAdd, Nat.reduceLeDiff, List.take_succ_cons, List.take_zero, List.drop_zero, ofCells, mkAgg, mapO, V.isP, Bool.false_or, beq_self_eq_true, Bool.false_eq_true, cpL, vc_agg, vc_pagg, vc_i, PV.cells, List.map_cons, List.map_nil, Nat.zero_add, List.getElem?_cons_zero, List.getElem?_cons_succ, ↓SL.cells, ↓SL.vcells, ↓SL.cellOk, h2, h3, h8, evCall, evBuiltin, len111, z42, a42, f77_3, addOff, List.drop_succ_cons, Nat.one_ne_zero, hp, hm, and_self]⟩

theorem loop47_3 (n1 : SL) (c1 k1 w1 c2 n2 k2 w2 : SL) (st1 sp1 st2 sp2 : Int) (hes : ∀ e ∈ n1.l, ∃ x, e = t1 x) (hb : n1.l.length < 2 ^ 40) (h : Heap) (hm : Pm ⟨[[.p (.i .i64 st1), .p (.i .i64 sp1), .p (c1.v), .p (n1.v), .p (k1.v), .p (w1.v)], [.p (.i .i64 st2), .p (.i .i64 sp2), .p (c2.v), .p (n2.v), .p (k2.v), .p (w2.v)]], h⟩) (hes2 : ∀ e ∈ n2.l, ∃ x, e = t1 x) (hb2 : n2.l.length < 2 ^ 40) (hm0 : Pm ⟨[], h⟩) (K : Ctx) (fr : Fr) (d : Nat) (hd : (n2.l.length + 2) + n1.l.length + 1 ≤ d) (hp : Pf fr) (hR : RD fr [(2, .lptr 0 0), (3, .lptr 1 0), (8, .p (.i .i64 0))]) :
    ∃ fr', (n1.l.any (ninL n2.l) = true ∧ (hand env1 d).2 K 47 lp47_3 ⟨fr, ⟨[[.p (.i .i64 st1), .p (.i .i64 sp1), .p (c1.v), .p (n1.v), .p (k1.v), .p (w1.v)], [.p (.i .i64 st2), .p (.i .i64 sp2), .p (c2.v), .p (n2.v), .p (k2.v), .p (w2.v)]], h⟩⟩ = some (.ret, ⟨fr', ⟨[[.p (.i .i64 st1), .p (.i .i64 sp1), .p (c1.v), .p (n1.v), .p (k1.v), .p (w1.v)], [.p (.i .i64 st2), .p (.i .i64 sp2), .p (c2.v), .p (n2.v), .p (k2.v), .p (w2.v)]], h⟩⟩) ∧ ∃ i : Nat, rd fr' 4 = .p (.b false)) ∨ (n1.l.any (ninL n2.l) = false ∧ (hand env1 d).2 K 47 lp47_3 ⟨fr, ⟨[[.p (.i .i64 st1), .p (.i .i64 sp1), .p (c1.v), .p (n1.v), .p (k1.v), .p (w1.v)], [.p (.i .i64 st2), .p (.i .i64 sp2), .p (c2.v), .p (n2.v), .p (k2.v), .p (w2.v)]], h⟩⟩ = some (.ext 6, ⟨fr', ⟨[[.p (.i .i64 st1), .p (.i .i64 sp1), .p (c1.v), .p (n1.v), .p (k1.v), .p (w1.v)], [.p (.i .i64 st2), .p (.i .i64 sp2), .p (c2.v), .p (n2.v), .p (k2.v), .p (w2.v)]], h⟩⟩) ∧ Pf fr' ∧ RD fr' [(2, .lptr 0 0), (3, .lptr 1 0)]) := by
  have key := loop_find (E := env1) (K := K) (f := 47) (body := lp47_3) (m := ⟨[[.p (.i .i64 st1), .p (.i .i64 sp1), .p (c1.v), .p (n1.v), .p (k1.v), .p (w1.v)], [.p (.i .i64 st2), .p (.i .i64 sp2), .p (c2.v), .p (n2.v), .p (k2.v), .p (w2.v)]], h⟩) (by kernel_rfl) (fun cs hcs => by
      simp only [List.mem_cons, List.mem_nil_iff, or_false] at hcs
      rcases hcs with rfl | rfl
      · exact ⟨[.i .i64 st1, .i .i64 sp1, c1.v, n1.v, k1.v, w1.v], rfl⟩
      · exact ⟨[.i .i64 st2, .i .i64 sp2, c2.v, n2.v, k2.v, w2.v], rfl⟩) n1.l.length (n2.l.length + 2) 6 (fun i fr => Pf fr ∧ RD fr [(2, .lptr 0 0), (3, .lptr 1 0), (8, .p (.i .i64 i))]) (fun fr => ∃ i : Nat, rd fr 4 = .p (.b false)) (fun fr => Pf fr ∧ RD fr [(2, .lptr 0 0), (3, .lptr 1 0)]) (fun i => (n1.l[i]?).any (ninL n2.l))
    (fun d i fr hd hi ⟨hp, hR⟩ => by
      obtain ⟨x, he⟩ := hes n1.l[i] (by simp)
      have hi' : n1.l[i]? = some (t1 x) := by rw [List.getElem?_eq_getElem hi, he]
      have hin : t1 x ∈ n1.l := List.mem_of_getElem? hi'
      obtain ⟨fr', e, hp', q1, q2⟩ := round47_3 (hand env1 d).1 (hand env1 d).2 ⟨K.ro, h.length⟩ (mask (env1.nvs 47) fr) h n1 i c1 k1 w1 c2 n2 k2 w2 st1 sp1 st2 sp2 x hi' hb (inL n2.l (t1 x)) (fun K => run111 n2 x hes2 hb2 h hm0 K d (by omega)) (hp.mask _) hm (hR.mask (by kernel_rfl))
      refine ⟨fr', ?_⟩
      simp only [hi', Option.any_some]
      have hr0 : ((ninL n2.l)) (t1 x) = (!inL n2.l (t1 x)) := rfl
      rw [hr0]
      cases hr : (!inL n2.l (t1 x)) with
      | true => rw [hr] at e q1; exact .inl ⟨rfl, e, i, q1 rfl⟩
      | false => rw [hr] at e q2; exact .inr ⟨rfl, e, hp'.drop _ _ _, (q2 rfl).drop (by kernel_rfl)⟩)
    (fun d fr hd ⟨hp, hR⟩ => exit47_3 (hand env1 d).1 (hand env1 d).2 ⟨K.ro, h.length⟩ (mask (env1.nvs 47) fr) h n1 c1 k1 w1 c2 n2 k2 w2 st1 sp1 st2 sp2 (hp.mask _) hm (hR.mask (by kernel_rfl)))
  obtain ⟨fr', h1 | h1⟩ := key n1.l.length 0 fr d (by omega) (by omega) ⟨hp, hR⟩
  · refine ⟨fr', .inl ⟨?_, h1.2⟩⟩
    obtain ⟨j, _, hj, h2⟩ := h1.1
    rw [List.getElem?_eq_getElem hj] at h2
    exact List.any_eq_true.2 ⟨n1.l[j], by simp, h2⟩
  · refine ⟨fr', .inr ⟨?_, h1.2⟩⟩
    rw [List.any_eq_false]
    intro x hx
    obtain ⟨j, hj, rfl⟩ := List.mem_iff_getElem.1 hx
    have := h1.1 j (by omega) hj
    rw [List.getElem?_eq_getElem hj] at this
    simpa using this

end Go.Wn

namespace Go.Wn
open Go Go.Proofs

/-! The evaluator's equations in a form without functions inside: what comes next is not looked at before its time. -/

def stepO (E : Env) (C : Handler) (K : Ctx) (f rid : Nat) (tk : Bool) (ops : Array Oper) (l : List Oper) (i : Nat) (dst : Option Nat) (m : Mem) : Option Out → Option St
  | some r => if tk || r.m.h.length == m.h.length then evL E C K f rid tk ops l (i + 1) ⟨putF r.fr dst r.v, if tk then r.m else m⟩ else none
  | none => none

def stepW (E : Env) (C : Handler) (K : Ctx) (f rid : Nat) (tk : Bool) (ops : Array Oper) (o : Oper) (l : List Oper) (i : Nat) (fr : Fr) (m : Mem) : Option Bool → Option St
  | some true => stepO E C K f rid tk ops l i o.dst m (evOp E C K f rid tk (ops.toList.take i) o fr m)
  | some false => evL E C K f rid tk ops l (i + 1) ⟨putF fr o.dst .nov, m⟩
  | none => none

section
variable {E : Env} {C : Handler} {L : LHandler} {K : Ctx} {f rid : Nat} {tk : Bool} {ops : Array Oper} {l : List Oper} {i : Nat}

theorem evL_nil {st : St} : evL E C K f rid tk ops [] i st = some st := rfl
theorem evL_cons {o : Oper} {fr : Fr} {m : Mem} : evL E C K f rid tk ops (o :: l) i ⟨fr, m⟩ = stepW E C K f rid tk ops o l i fr m (wantedV ops fr o) := by
  unfold evL stepW
  cases hw : wantedV ops fr o with
  | none => rfl
  | some b => cases b with
    | false => rfl
    | true =>
      simp only
      unfold stepO
      cases evOp E C K f rid tk (ops.toList.take i) o fr m with
      | none => rfl
      | some r => rfl
theorem stepW_t {o : Oper} {fr : Fr} {m : Mem} : stepW E C K f rid tk ops o l i fr m (some true) = stepO E C K f rid tk ops l i o.dst m (evOp E C K f rid tk (ops.toList.take i) o fr m) := rfl
theorem stepW_f {o : Oper} {fr : Fr} {m : Mem} : stepW E C K f rid tk ops o l i fr m (some false) = evL E C K f rid tk ops l (i + 1) ⟨putF fr o.dst .nov, m⟩ := rfl
theorem stepO_t {dst : Option Nat} {m m' : Mem} {fr : Fr} {v : V} : stepO E C K f rid true ops l i dst m (some ⟨v, m', fr⟩) = evL E C K f rid true ops l (i + 1) ⟨putF fr dst v, m'⟩ := by
  simp [stepO]
theorem stepO_d {dst : Option Nat} {m m' : Mem} {fr : Fr} {v : V} (h : m'.h.length = m.h.length) : stepO E C K f rid false ops l i dst m (some ⟨v, m', fr⟩) = evL E C K f rid false ops l (i + 1) ⟨putF fr dst v, m⟩ := by
  simp [stepO, h]
theorem stepO_d' {dst : Option Nat} {m : Mem} {fr : Fr} {v : V} : stepO E C K f rid false ops l i dst m (some ⟨v, m, fr⟩) = evL E C K f rid false ops l (i + 1) ⟨putF fr dst v, m⟩ := by
  simp [stepO]

def contC (E : Env) (C : Handler) (L : LHandler) (K : Ctx) (f : Nat) (b : Code) : Option (Ex × St) → Option (Ex × St)
  | some (.nrm, st) => evCode E C L K f b st
  | some (e, st) => some (e, st)
  | none => none
def condC (E : Env) (C : Handler) (L : LHandler) (K : Ctx) (f : Nat) (a b : Code) (st : St) : Option Bool → Option (Ex × St)
  | some true => evCode E C L K f a st
  | some false => evCode E C L K f b st
  | none => none
def blockC (id : Nat) : Option (Ex × St) → Option (Ex × St)
  | some (.ext i, st) => if i = id then some (.nrm, st) else some (.ext i, st)
  | some (e, st) => some (e, st)
  | none => none

variable {a b : Code} {st : St}
theorem ev_skip : evCode E C L K f .skip st = some (.nrm, st) := rfl
theorem ev_reg {ops : Array Oper} {draw : Bool} : evCode E C L K f (.region i ops draw) st = (evRegion E C K f i ops draw st).map fun st => (.nrm, st) := rfl
theorem ev_seq : evCode E C L K f (.seq a b) st = contC E C L K f b (evCode E C L K f a st) := by
  simp only [evCode]
  cases evCode E C L K f a st with
  | none => rfl
  | some r =>
    obtain ⟨e, st⟩ := r
    cases e <;> rfl
theorem contC_n : contC E C L K f b (some (.nrm, st)) = evCode E C L K f b st := rfl
theorem contC_r : contC E C L K f b (some (.ret, st)) = some (.ret, st) := rfl
theorem contC_x {j : Nat} : contC E C L K f b (some (.ext j, st)) = some (.ext j, st) := rfl
theorem ev_cond {c : Operand} : evCode E C L K f (.cond c a b) st = condC E C L K f a b st (toB (argOf (E.nilF f) st.fr c)) := by
  simp only [evCode]
  cases toB (argOf (E.nilF f) st.fr c) with
  | none => rfl
  | some r => cases r <;> rfl
theorem condC_t : condC E C L K f a b st (some true) = evCode E C L K f a st := rfl
theorem condC_f : condC E C L K f a b st (some false) = evCode E C L K f b st := rfl
theorem ev_block {id : Nat} : evCode E C L K f (.block id a) st = blockC id (evCode E C L K f a st) := by
  simp only [evCode]
  cases evCode E C L K f a st with
  | none => rfl
  | some r =>
    obtain ⟨e, st⟩ := r
    cases e with
    | ext i => simp only [blockC, Option.map_some]; split <;> rfl
    | nrm => rfl
    | ret => rfl
theorem blockC_n {id : Nat} : blockC id (some (.nrm, st)) = some (.nrm, st) := rfl
theorem blockC_r {id : Nat} : blockC id (some (.ret, st)) = some (.ret, st) := rfl
theorem blockC_x {id j : Nat} : blockC id (some (.ext j, st)) = if j = id then some (.nrm, st) else some (.ext j, st) := rfl
theorem ev_loop : evCode E C L K f (.loop a) st = L K f a st := rfl
theorem ev_exit {id : Nat} : evCode E C L K f (.exit id) st = some (.ext id, st) := rfl
theorem ev_ret : evCode E C L K f .ret st = some (.ret, st) := rfl
end

/-- the last operation of a drawn region, if it writes -/
def lastW (E : Env) (C : Handler) (K : Ctx) (f rid : Nat) (ops : Array Oper) (pre : List Oper) (o : Oper) (fr : Fr) (m : Mem) : Option Bool → Option St
  | some true => (evOp E C K f rid false pre o fr m).map fun r => ⟨putF r.fr o.dst r.v, r.m⟩
  | some false => some ⟨putF fr o.dst .nov, m⟩
  | none => none
def lastC (E : Env) (C : Handler) (K : Ctx) (f rid : Nat) (ops : Array Oper) (pre : List Oper) (o : Oper) : Option St → Option St
  | some st => lastW E C K f rid ops pre o st.fr st.m (wantedV ops st.fr o)
  | none => none
theorem lastC_s {E : Env} {C : Handler} {K : Ctx} {f rid : Nat} {ops : Array Oper} {pre : List Oper} {o : Oper} {fr : Fr} {m : Mem} : lastC E C K f rid ops pre o (some ⟨fr, m⟩) = lastW E C K f rid ops pre o fr m (wantedV ops fr o) := rfl
theorem lastW_t {E : Env} {C : Handler} {K : Ctx} {f rid : Nat} {ops : Array Oper} {pre : List Oper} {o : Oper} {fr : Fr} {m : Mem} : lastW E C K f rid ops pre o fr m (some true) = (evOp E C K f rid false pre o fr m).map fun r => ⟨putF r.fr o.dst r.v, r.m⟩ := rfl

theorem all_or {α : Type} {l : List α} {g F : α → Bool} (h : ∀ x ∈ l, g x = true) : l.all (fun x => g x || F x) = true := by
  rw [List.all_eq_true]
  intro x hx
  simp [h x hx]

theorem evDraw_last (E : Env) (C : Handler) (K : Ctx) (f rid : Nat) (ops : Array Oper) (b' : Array Nat) (pre : List Oper) (o : Oper) (ho : ops.toList = pre ++ [o]) (hc : ∀ o ∈ pre, clsOf E o ≠ 3 ∧ isAlloc o = false) (h3 : clsOf E o = 3) (ha : isAlloc o = false) (hb : ∀ j, j < pre.length → ordB b' j pre.length = true) :
    ∀ (l : List Oper) (i : Nat) (dn : List (Nat × Oper × Fr × V)) (st : St), pre.drop i = l → i ≤ pre.length → (∀ x ∈ dn, x.1 < pre.length) → evDrawOps E C K f rid ops b' (List.range' i (l.length + 1)) dn [] st = lastC E C K f rid ops pre o (evL E C K f rid false ops l i st)
  | [], i, dn, st, h, hle, hdn => by
    have hi : pre.length ≤ i := by simpa using h
    have hi : i = pre.length := by omega
    subst hi
    have h0 : ops[pre.length]? = some o := by rw [← Array.getElem?_toList, ho]; simp
    have ht : ops.toList.take pre.length = pre := by rw [ho]; simp
    simp only [List.length_nil, Nat.zero_add, List.range'_succ, List.range'_zero, evDrawOps, evL, lastC, h0, ha, Bool.false_eq_true, if_false, ht]
    cases hw : wantedV ops st.fr o with
    | none => rfl
    | some b => cases b with
    | false => rfl
    | true =>
      simp only [lastW]
      cases he : evOp E C K f rid false pre o st.fr st.m with
      | none => rfl
      | some r =>
        simp only [Option.bind_some, Option.map_some, h3, if_true]
        have h13 : ¬ ((3 : Nat) = 1) := by decide
        rw [if_neg h13, if_pos (all_or (g := fun (x : Nat × Oper × Fr × V) => ordB b' x.1 pre.length) fun x hx => hb x.1 (hdn x hx))]
        rfl
  | q :: l, i, dn, st, h, hle, hdn => by
    have hp : pre[i]? = some q := by
      have := congrArg (fun l => l[0]?) h
      simpa using this
    have hil : i < pre.length := lt_of_get hp
    have h0 : ops[i]? = some q := by rw [← Array.getElem?_toList, ho, List.getElem?_append_left hil]; exact hp
    have h1 : pre.drop (i + 1) = l := by
      have := congrArg List.tail h
      simpa using this
    obtain ⟨hc3, hal⟩ := hc q (List.mem_of_getElem? hp)
    simp only [List.length_cons, List.range'_succ (n := l.length + 1), evDrawOps, evL, h0, hal, Bool.false_eq_true, if_false, Bool.false_or]
    cases hw : wantedV ops st.fr q with
    | none => rfl
    | some b => cases b with
    | false => exact evDraw_last E C K f rid ops b' pre o ho hc h3 ha hb l (i + 1) _ _ h1 (by omega) hdn
    | true =>
      simp only
      cases he : evOp E C K f rid false (ops.toList.take i) q st.fr st.m with
      | none => rfl
      | some r =>
      simp only [Option.bind_some]
      have e : (clsOf E q != 3) = true := by simpa using hc3
      rw [e]
      simp only [Bool.true_and]
      by_cases hl : r.m.h.length = st.m.h.length
      · have e1 : (r.m.h.length != st.m.h.length) = false := by simp [hl]
        have e2 : (r.m.h.length == st.m.h.length) = true := by simp [hl]
        rw [e1, e2]
        simp only [Bool.false_eq_true, if_false, if_neg hc3, List.all_nil, if_true]
        split
        · exact evDraw_last E C K f rid ops b' pre o ho hc h3 ha hb l (i + 1) _ _ h1 (by omega) (fun x hx => by
            rcases List.mem_cons.1 hx with rfl | hx
            · exact hil
            · exact hdn x hx)
        · exact evDraw_last E C K f rid ops b' pre o ho hc h3 ha hb l (i + 1) _ _ h1 (by omega) hdn
      · have e1 : (r.m.h.length != st.m.h.length) = true := by simp [hl]
        have e2 : (r.m.h.length == st.m.h.length) = false := by simp [hl]
        rw [e1, e2]
        rfl

theorem evRegL (E : Env) (C : Handler) (K : Ctx) (f rid : Nat) (ops : Array Oper) (st : St) (hd : E.dok f rid = true)
    (hc : ops.toList.dropLast.all (fun o => clsOf E o != 3 && !isAlloc o) = true) (hl : (ops.toList.getLast?.any fun o => clsOf E o == 3 && !isAlloc o) = true)
    (hb : (List.range (ops.size - 1)).all (fun j => ordB (Region.before ops) j (ops.size - 1)) = true) :
    evRegion E C K f rid ops true st = (match ops.toList.getLast? with | some o => lastC E C K f rid ops ops.toList.dropLast o (evL E C K f rid false ops ops.toList.dropLast 0 st) | none => none) := by
  cases ho : ops.toList.getLast? with
  | none => rw [ho] at hl; cases hl
  | some o =>
  rw [ho] at hl
  simp only [Option.any_some, Bool.and_eq_true, Bool.not_eq_true', beq_iff_eq] at hl
  have hne : ops.toList ≠ [] := fun h => by rw [h] at ho; cases ho
  have hsp : ops.toList = ops.toList.dropLast ++ [o] := by
    have := List.dropLast_concat_getLast hne
    rw [List.getLast?_eq_some_getLast hne] at ho
    simp only [Option.some.injEq] at ho
    rw [ho] at this; exact this.symm
  have hlen : ops.size - 1 = ops.toList.dropLast.length := by simp
  have hsz : ops.size = ops.toList.dropLast.length + 1 := by
    have := congrArg List.length hsp
    simpa using this
  have hc' : ∀ o ∈ ops.toList.dropLast, clsOf E o ≠ 3 ∧ isAlloc o = false := fun o ho => by
    rw [List.all_eq_true] at hc
    have := hc o ho
    simpa using this
  rw [List.all_eq_true] at hb
  unfold evRegion
  simp only [if_true, hd]
  have hal : (List.range ops.size).filter (fun i => (ops[i]?).any isAlloc) = [] := by
    rw [List.filter_eq_nil_iff]
    intro i hi
    cases ho2 : ops[i]? with
    | none => simp
    | some q =>
      have hm : q ∈ ops.toList := List.mem_of_getElem? (by simpa using ho2 : ops.toList[i]? = some q)
      rw [hsp] at hm
      rcases List.mem_append.1 hm with hm | hm
      · simp [(hc' q hm).2]
      · simp at hm; subst hm; simp [hl.2]
  rw [hal]
  simp only [evOps, Option.bind_some]
  rw [List.range_eq_range']
  have := evDraw_last E C K f rid ops (Region.before ops) ops.toList.dropLast o hsp hc' hl.1 hl.2 (fun j hj => by
    have := hb j (by rw [List.mem_range, hlen]; exact hj)
    rw [hlen] at this; exact this) ops.toList.dropLast 0 [] st (by simp) (by omega) (fun _ h => nomatch h)
  rw [← this]
  congr 1
  congr 1

theorem bft : (false == true) = false := rfl
theorem btf : (true == false) = false := rfl
theorem bff : (false == false) = true := rfl
theorem btt : (true == true) = true := rfl
end Go.Wn

namespace Go.Wn
open Go Go.Proofs

noncomputable def bd46 : Code := match Tryz.f46.body with | some c => c | none => .skip
theorem esc46_2 : env1.esc 46 2 = false := by kernel_rfl
theorem esc46_3 : env1.esc 46 3 = false := by kernel_rfl

set_option maxRecDepth 100000 in
set_option maxHeartbeats 4000000 in
theorem run46 (st1 sp1 : Int) (c1 n1 k1 w1 : SL) (st2 sp2 : Int) (c2 n2 k2 w2 : SL) (hc1 : ∀ e ∈ c1.l, ∃ x y z, e = t3 x y z) (bc1 : c1.l.length < 2 ^ 40) (hn1 : ∀ e ∈ n1.l, ∃ x, e = t1 x) (bn1 : n1.l.length < 2 ^ 40) (hk1 : ∀ e ∈ k1.l, ∃ x y, e = t2 x y) (bk1 : k1.l.length < 2 ^ 40) (hw1 : ∀ e ∈ w1.l, ∃ x y z, e = t3 x y z) (bw1 : w1.l.length < 2 ^ 40) (hc2 : ∀ e ∈ c2.l, ∃ x y z, e = t3 x y z) (bc2 : c2.l.length < 2 ^ 40) (hn2 : ∀ e ∈ n2.l, ∃ x, e = t1 x) (bn2 : n2.l.length < 2 ^ 40) (hk2 : ∀ e ∈ k2.l, ∃ x y, e = t2 x y) (bk2 : k2.l.length < 2 ^ 40) (hw2 : ∀ e ∈ w2.l, ∃ x y z, e = t3 x y z) (bw2 : w2.l.length < 2 ^ 40) (h : Heap) (hm : Pm ⟨[], h⟩) (K : Ctx) (d : Nat) (hd : c1.l.length + n1.l.length + k1.l.length + w1.l.length + c2.l.length + n2.l.length + k2.l.length + w2.l.length + 9 ≤ d) :
    (hand env1 d).1 K 46 [.p (.agg [.i .i64 st1, .i .i64 sp1, c1.v, n1.v, k1.v, w1.v]), .p (.agg [.i .i64 st2, .i .i64 sp2, c2.v, n2.v, k2.v, w2.v])] h = some (.p (.b (allL c1.l c2.l && allL w1.l w2.l && allL k1.l k2.l && allL n1.l n2.l)), h) := by
  obtain ⟨d, rfl⟩ : ∃ d', d = d' + 1 := ⟨d - 1, by omega⟩
  have hst : Pf (start [.p (.agg [.i .i64 st1, .i .i64 sp1, c1.v, n1.v, k1.v, w1.v]), .p (.agg [.i .i64 st2, .i .i64 sp2, c2.v, n2.v, k2.v, w2.v])]) := Pf.start fun x hx => by
    simp only [List.mem_cons, List.mem_nil_iff, or_false] at hx
    rcases hx with rfl | rfl <;> rfl
  generalize hfr : start [.p (.agg [.i .i64 st1, .i .i64 sp1, c1.v, n1.v, k1.v, w1.v]), .p (.agg [.i .i64 st2, .i .i64 sp2, c2.v, n2.v, k2.v, w2.v])] = fr at hst
  have g0 : rd fr 0 = .p (.agg [.i .i64 st1, .i .i64 sp1, c1.v, n1.v, k1.v, w1.v]) := by rw [← hfr, rd_start]; rfl
  have g1 : rd fr 1 = .p (.agg [.i .i64 st2, .i .i64 sp2, c2.v, n2.v, k2.v, w2.v]) := by rw [← hfr, rd_start]; rfl
  have hm1 : Pm ⟨[[.p (.i .i64 st1), .p (.i .i64 sp1), .p (c1.v), .p (n1.v), .p (k1.v), .p (w1.v)], [.p (.i .i64 st2), .p (.i .i64 sp2), .p (c2.v), .p (n2.v), .p (k2.v), .p (w2.v)]], h⟩ := ⟨(fun cs hc => by
    simp only [List.mem_cons, List.mem_nil_iff, or_false] at hc
    rcases hc with rfl | rfl <;> rfl), hm.h⟩
  have hm2 : Pm ⟨[[.p (.i .i64 st1), .p (.i .i64 sp1), .p (c1.v), .p (n1.v), .p (k1.v), .p (w1.v)]], h⟩ := ⟨(fun cs hc => by
    simp only [List.mem_cons, List.mem_nil_iff, or_false] at hc
    subst hc; rfl), hm.h⟩
  have qc : (hand env1 d).1 ⟨h.length, h.length⟩ 106 [.p (c1.v), .p (c2.v)] h = some (.p (.b (allL c1.l c2.l)), h) := run106 c1 c2 hc1 bc1 hc2 bc2 h hm _ d (by omega)
  have qw : (hand env1 d).1 ⟨h.length, h.length⟩ 106 [.p (w1.v), .p (w2.v)] h = some (.p (.b (allL w1.l w2.l)), h) := run106 w1 w2 hw1 bw1 hw2 bw2 h hm _ d (by omega)
  have qk : (hand env1 d).1 ⟨h.length, h.length⟩ 107 [.p (k1.v), .p (k2.v)] h = some (.p (.b (allL k1.l k2.l)), h) := run107 k1 k2 hk1 bk1 hk2 bk2 h hm _ d (by omega)
  have qn : (hand env1 d).1 ⟨h.length, h.length⟩ 108 [.p (n1.v), .p (n2.v)] h = some (.p (.b (allL n1.l n2.l)), h) := run108 n1 n2 hn1 bn1 hn2 bn2 h hm _ d (by omega)
  generalize allL c1.l c2.l = rc at *
  generalize allL w1.l w2.l = rw at *
  generalize allL k1.l k2.l = rk at *
  generalize allL n1.l n2.l = rn at *
  rw [hand_fn (by kernel_rfl) (show env1.Q.fn 46 = some Tryz.f46 by kernel_rfl)]
  have body : ∃ fr2 m2, evCode env1 (hand env1 d).1 (hand env1 d).2 ⟨h.length, h.length⟩ 46 bd46 ⟨fr, ⟨[], h⟩⟩ = some (.ret, ⟨fr2, m2⟩) ∧ rd fr2 4 = .p (.b (rc && rw && rk && rn)) := by
    cases rc
    · simp (config := { maxDischargeDepth := 80 }) only [bd46, Tryz.f46, ev_skip, ev_reg, ev_seq, contC_n, contC_r, contC_x, ev_cond, condC_t, condC_f, ev_block, blockC_n, blockC_r, blockC_x, ev_loop, ev_exit, ev_ret, evReg, evL_nil, evL_cons, stepW_t, stepW_f, stepO_t, stepO_d, bft, btf, bff, btt, wantedV, evOp, argOf, cp, binV, intBin, putF, rd_setF, Option.map_some, Option.bind_some, if_true, Bool.true_or, decide_true, toB, takeS_pf, takeS_c, if_false, Pf.p, Pf.lp, Pf.pt, Pf.cl, Pf.nv, List.all_cons, List.all_nil, Bool.and_true, constV, constCell, nf1, ld, getCells, List.length_cons, List.length_nil, Nat.reduceEqDiff, reduceIte, Nat.reduceAdd, Nat.reduceLeDiff, List.take_succ_cons, List.take_zero, List.drop_zero, ofCells, mkAgg, mapO, V.isP, Bool.false_or, beq_self_eq_true, Bool.false_eq_true, cpL, vc_agg, vc_pagg, vc_i, PV.cells, List.map_cons, List.map_nil, Nat.zero_add, List.getElem?_cons_zero, List.getElem?_cons_succ, ↓SL.cells, ↓SL.vcells, ↓SL.cellOk, g0, g1, hst, hm, evCall, lfL, lf, argsOf, List.contains_nil, ite_self, List.nil_append, List.cons_append, List.append_nil, and_self, newVarV, V.cellOk, Option.getD_some, List.nil_append, List.cons_append, Bool.or_self, z77, a77, hm1, hm2, f77_0, f77_1, f77_2, f77_3, f77_4, f77_5, addOff, List.drop_succ_cons, Nat.one_ne_zero, List.getElem?_toArray, okb106, tk106, okb107, tk107, okb108, tk108, qc, qw, qk, qn, unV, z74, a74, z75, a75, z42, a42, esc46_2, esc46_3, beq_self_eq_true, Bool.and_true, Bool.and_false, Bool.false_and, Bool.true_and]
      exact ⟨_, _, rfl, by simp (config := { maxDischargeDepth := 80 }) only [ev_skip, ev_reg, ev_seq, contC_n, contC_r, contC_x, ev_cond, condC_t, condC_f, ev_block, blockC_n, blockC_r, blockC_x, ev_loop, ev_exit, ev_ret, evReg, evL_nil, evL_cons, stepW_t, stepW_f, stepO_t, stepO_d, bft, btf, bff, btt, wantedV, evOp, argOf, cp, binV, intBin, putF, rd_setF, Option.map_some, Option.bind_some, if_true, Bool.true_or, decide_true, toB, takeS_pf, takeS_c, if_false, Pf.p, Pf.lp, Pf.pt, Pf.cl, Pf.nv, List.all_cons, List.all_nil, Bool.and_true, constV, constCell, nf1, ld, getCells, List.length_cons, List.length_nil, Nat.reduceEqDiff, reduceIte, Nat.reduceAdd, Nat.reduceLeDiff, List.take_succ_cons, List.take_zero, List.drop_zero, ofCells, mkAgg, mapO, V.isP, Bool.false_or, beq_self_eq_true, Bool.false_eq_true, cpL, vc_agg, vc_pagg, vc_i, PV.cells, List.map_cons, List.map_nil, Nat.zero_add, List.getElem?_cons_zero, List.getElem?_cons_succ, ↓SL.cells, ↓SL.vcells, ↓SL.cellOk, g0, g1, hst, hm, evCall, lfL, lf, argsOf, List.contains_nil, ite_self, List.nil_append, List.cons_append, List.append_nil, and_self, newVarV, V.cellOk, Option.getD_some, List.nil_append, List.cons_append, Bool.or_self, z77, a77, hm1, hm2, f77_0, f77_1, f77_2, f77_3, f77_4, f77_5, addOff, List.drop_succ_cons, Nat.one_ne_zero, List.getElem?_toArray, okb106, tk106, okb107, tk107, okb108, tk108, qc, qw, qk, qn, unV, z74, a74, z75, a75, z42, a42, esc46_2, esc46_3, beq_self_eq_true, Bool.and_true, Bool.and_false, Bool.false_and, Bool.true_and]⟩
    cases rw
    · simp (config := { maxDischargeDepth := 80 }) only [bd46, Tryz.f46, ev_skip, ev_reg, ev_seq, contC_n, contC_r, contC_x, ev_cond, condC_t, condC_f, ev_block, blockC_n, blockC_r, blockC_x, ev_loop, ev_exit, ev_ret, evReg, evL_nil, evL_cons, stepW_t, stepW_f, stepO_t, stepO_d, bft, btf, bff, btt, wantedV, evOp, argOf, cp, binV, intBin, putF, rd_setF, Option.map_some, Option.bind_some, if_true, Bool.true_or, decide_true, toB, takeS_pf, takeS_c, if_false, Pf.p, Pf.lp, Pf.pt, Pf.cl, Pf.nv, List.all_cons, List.all_nil, Bool.and_true, constV, constCell, nf1, ld, getCells, List.length_cons, List.length_nil, Nat.reduceEqDiff, reduceIte, Nat.reduceAdd, Nat.reduceLeDiff, List.take_succ_cons, List.take_zero, List.drop_zero, ofCells, mkAgg, mapO, V.isP, Bool.false_or, beq_self_eq_true, Bool.false_eq_true, cpL, vc_agg, vc_pagg, vc_i, PV.cells, List.map_cons, List.map_nil, Nat.zero_add, List.getElem?_cons_zero, List.getElem?_cons_succ, ↓SL.cells, ↓SL.vcells, ↓SL.cellOk, g0, g1, hst, hm, evCall, lfL, lf, argsOf, List.contains_nil, ite_self, List.nil_append, List.cons_append, List.append_nil, and_self, newVarV, V.cellOk, Option.getD_some, List.nil_append, List.cons_append, Bool.or_self, z77, a77, hm1, hm2, f77_0, f77_1, f77_2, f77_3, f77_4, f77_5, addOff, List.drop_succ_cons, Nat.one_ne_zero, List.getElem?_toArray, okb106, tk106, okb107, tk107, okb108, tk108, qc, qw, qk, qn, unV, z74, a74, z75, a75, z42, a42, esc46_2, esc46_3, beq_self_eq_true, Bool.and_true, Bool.and_false, Bool.false_and, Bool.true_and]
      exact ⟨_, _, rfl, by simp (config := { maxDischargeDepth := 80 }) only [ev_skip, ev_reg, ev_seq, contC_n, contC_r, contC_x, ev_cond, condC_t, condC_f, ev_block, blockC_n, blockC_r, blockC_x, ev_loop, ev_exit, ev_ret, evReg, evL_nil, evL_cons, stepW_t, stepW_f, stepO_t, stepO_d, bft, btf, bff, btt, wantedV, evOp, argOf, cp, binV, intBin, putF, rd_setF, Option.map_some, Option.bind_some, if_true, Bool.true_or, decide_true, toB, takeS_pf, takeS_c, if_false, Pf.p, Pf.lp, Pf.pt, Pf.cl, Pf.nv, List.all_cons, List.all_nil, Bool.and_true, constV, constCell, nf1, ld, getCells, List.length_cons, List.length_nil, Nat.reduceEqDiff, reduceIte, Nat.reduceAdd, Nat.reduceLeDiff, List.take_succ_cons, List.take_zero, List.drop_zero, ofCells, mkAgg, mapO, V.isP, Bool.false_or, beq_self_eq_true, Bool.false_eq_true, cpL, vc_agg, vc_pagg, vc_i, PV.cells, List.map_cons, List.map_nil, Nat.zero_add, List.getElem?_cons_zero, List.getElem?_cons_succ, ↓SL.cells, ↓SL.vcells, ↓SL.cellOk, g0, g1, hst, hm, evCall, lfL, lf, argsOf, List.contains_nil, ite_self, List.nil_append, List.cons_append, List.append_nil, and_self, newVarV, V.cellOk, Option.getD_some, List.nil_append, List.cons_append, Bool.or_self, z77, a77, hm1, hm2, f77_0, f77_1, f77_2, f77_3, f77_4, f77_5, addOff, List.drop_succ_cons, Nat.one_ne_zero, List.getElem?_toArray, okb106, tk106, okb107, tk107, okb108, tk108, qc, qw, qk, qn, unV, z74, a74, z75, a75, z42, a42, esc46_2, esc46_3, beq_self_eq_true, Bool.and_true, Bool.and_false, Bool.false_and, Bool.true_and]⟩
    cases rk
    · simp (config := { maxDischargeDepth := 80 }) only [bd46, Tryz.f46, ev_skip, ev_reg, ev_seq, contC_n, contC_r, contC_x, ev_cond, condC_t, condC_f, ev_block, blockC_n, blockC_r, blockC_x, ev_loop, ev_exit, ev_ret, evReg, evL_nil, evL_cons, stepW_t, stepW_f, stepO_t, stepO_d, bft, btf, bff, btt, wantedV, evOp, argOf, cp, binV, intBin, putF, rd_setF, Option.map_some, Option.bind_some, if_true, Bool.true_or, decide_true, toB, takeS_pf, takeS_c, if_false, Pf.p, Pf.lp, Pf.pt, Pf.cl, Pf.nv, List.all_cons, List.all_nil, Bool.and_true, constV, constCell, nf1, ld, getCells, List.length_cons, List.length_nil, Nat.reduceEqDiff, reduceIte, Nat.reduceAdd, Nat.reduceLeDiff, List.take_succ_cons, List.take_zero, List.drop_zero, ofCells, mkAgg, mapO, V.isP, Bool.false_or, beq_self_eq_true, Bool.false_eq_true, cpL, vc_agg, vc_pagg, vc_i, PV.cells, List.map_cons, List.map_nil, Nat.zero_add, List.getElem?_cons_zero, List.getElem?_cons_succ, ↓SL.cells, ↓SL.vcells, ↓SL.cellOk, g0, g1, hst, hm, evCall, lfL, lf, argsOf, List.contains_nil, ite_self, List.nil_append, List.cons_append, List.append_nil, and_self, newVarV, V.cellOk, Option.getD_some, List.nil_append, List.cons_append, Bool.or_self, z77, a77, hm1, hm2, f77_0, f77_1, f77_2, f77_3, f77_4, f77_5, addOff, List.drop_succ_cons, Nat.one_ne_zero, List.getElem?_toArray, okb106, tk106, okb107, tk107, okb108, tk108, qc, qw, qk, qn, unV, z74, a74, z75, a75, z42, a42, esc46_2, esc46_3, beq_self_eq_true, Bool.and_true, Bool.and_false, Bool.false_and, Bool.true_and]
      exact ⟨_, _, rfl, by simp (config := { maxDischargeDepth := 80 }) only [ev_skip, ev_reg, ev_seq, contC_n, contC_r, contC_x, ev_cond, condC_t, condC_f, ev_block, blockC_n, blockC_r, blockC_x, ev_loop, ev_exit, ev_ret, evReg, evL_nil, evL_cons, stepW_t, stepW_f, stepO_t, stepO_d, bft, btf, bff, btt, wantedV, evOp, argOf, cp, binV, intBin, putF, rd_setF, Option.map_some, Option.bind_some, if_true, Bool.true_or, decide_true, toB, takeS_pf, takeS_c, if_false, Pf.p, Pf.lp, Pf.pt, Pf.cl, Pf.nv, List.all_cons, List.all_nil, Bool.and_true, constV, constCell, nf1, ld, getCells, List.length_cons, List.length_nil, Nat.reduceEqDiff, reduceIte, Nat.reduceAdd, Nat.reduceLeDiff, List.take_succ_cons, List.take_zero, List.drop_zero, ofCells, mkAgg, mapO, V.isP, Bool.false_or, beq_self_eq_true, Bool.false_eq_true, cpL, vc_agg, vc_pagg, vc_i, PV.cells, List.map_cons, List.map_nil, Nat.zero_add, List.getElem?_cons_zero, List.getElem?_cons_succ, ↓SL.cells, ↓SL.vcells, ↓SL.cellOk, g0, g1, hst, hm, evCall, lfL, lf, argsOf, List.contains_nil, ite_self, List.nil_append, List.cons_append, List.append_nil, and_self, newVarV, V.cellOk, Option.getD_some, List.nil_append, List.cons_append, Bool.or_self, z77, a77, hm1, hm2, f77_0, f77_1, f77_2, f77_3, f77_4, f77_5, addOff, List.drop_succ_cons, Nat.one_ne_zero, List.getElem?_toArray, okb106, tk106, okb107, tk107, okb108, tk108, qc, qw, qk, qn, unV, z74, a74, z75, a75, z42, a42, esc46_2, esc46_3, beq_self_eq_true, Bool.and_true, Bool.and_false, Bool.false_and, Bool.true_and]⟩
    · simp (config := { maxDischargeDepth := 80 }) only [bd46, Tryz.f46, ev_skip, ev_reg, ev_seq, contC_n, contC_r, contC_x, ev_cond, condC_t, condC_f, ev_block, blockC_n, blockC_r, blockC_x, ev_loop, ev_exit, ev_ret, evReg, evL_nil, evL_cons, stepW_t, stepW_f, stepO_t, stepO_d, bft, btf, bff, btt, wantedV, evOp, argOf, cp, binV, intBin, putF, rd_setF, Option.map_some, Option.bind_some, if_true, Bool.true_or, decide_true, toB, takeS_pf, takeS_c, if_false, Pf.p, Pf.lp, Pf.pt, Pf.cl, Pf.nv, List.all_cons, List.all_nil, Bool.and_true, constV, constCell, nf1, ld, getCells, List.length_cons, List.length_nil, Nat.reduceEqDiff, reduceIte, Nat.reduceAdd, Nat.reduceLeDiff, List.take_succ_cons, List.take_zero, List.drop_zero, ofCells, mkAgg, mapO, V.isP, Bool.false_or, beq_self_eq_true, Bool.false_eq_true, cpL, vc_agg, vc_pagg, vc_i, PV.cells, List.map_cons, List.map_nil, Nat.zero_add, List.getElem?_cons_zero, List.getElem?_cons_succ, ↓SL.cells, ↓SL.vcells, ↓SL.cellOk, g0, g1, hst, hm, evCall, lfL, lf, argsOf, List.contains_nil, ite_self, List.nil_append, List.cons_append, List.append_nil, and_self, newVarV, V.cellOk, Option.getD_some, List.nil_append, List.cons_append, Bool.or_self, z77, a77, hm1, hm2, f77_0, f77_1, f77_2, f77_3, f77_4, f77_5, addOff, List.drop_succ_cons, Nat.one_ne_zero, List.getElem?_toArray, okb106, tk106, okb107, tk107, okb108, tk108, qc, qw, qk, qn, unV, z74, a74, z75, a75, z42, a42, esc46_2, esc46_3, beq_self_eq_true, Bool.and_true, Bool.and_false, Bool.false_and, Bool.true_and]
      exact ⟨_, _, rfl, by simp (config := { maxDischargeDepth := 80 }) only [ev_skip, ev_reg, ev_seq, contC_n, contC_r, contC_x, ev_cond, condC_t, condC_f, ev_block, blockC_n, blockC_r, blockC_x, ev_loop, ev_exit, ev_ret, evReg, evL_nil, evL_cons, stepW_t, stepW_f, stepO_t, stepO_d, bft, btf, bff, btt, wantedV, evOp, argOf, cp, binV, intBin, putF, rd_setF, Option.map_some, Option.bind_some, if_true, Bool.true_or, decide_true, toB, takeS_pf, takeS_c, if_false, Pf.p, Pf.lp, Pf.pt, Pf.cl, Pf.nv, List.all_cons, List.all_nil, Bool.and_true, constV, constCell, nf1, ld, getCells, List.length_cons, List.length_nil, Nat.reduceEqDiff, reduceIte, Nat.reduceAdd, Nat.reduceLeDiff, List.take_succ_cons, List.take_zero, List.drop_zero, ofCells, mkAgg, mapO, V.isP, Bool.false_or, beq_self_eq_true, Bool.false_eq_true, cpL, vc_agg, vc_pagg, vc_i, PV.cells, List.map_cons, List.map_nil, Nat.zero_add, List.getElem?_cons_zero, List.getElem?_cons_succ, ↓SL.cells, ↓SL.vcells, ↓SL.cellOk, g0, g1, hst, hm, evCall, lfL, lf, argsOf, List.contains_nil, ite_self, List.nil_append, List.cons_append, List.append_nil, and_self, newVarV, V.cellOk, Option.getD_some, List.nil_append, List.cons_append, Bool.or_self, z77, a77, hm1, hm2, f77_0, f77_1, f77_2, f77_3, f77_4, f77_5, addOff, List.drop_succ_cons, Nat.one_ne_zero, List.getElem?_toArray, okb106, tk106, okb107, tk107, okb108, tk108, qc, qw, qk, qn, unV, z74, a74, z75, a75, z42, a42, esc46_2, esc46_3, beq_self_eq_true, Bool.and_true, Bool.and_false, Bool.false_and, Bool.true_and]⟩
  obtain ⟨fr2, m2, he, hv⟩ := body
  exact body2 (fn := Tryz.f46) (code := bd46) rfl (by kernel_rfl) rfl (by show (2 : Nat) ≤ Tryz.f46.ntmps; decide) (by rw [hfr]; exact he) (.inr rfl) hv

end Go.Wn

namespace Go.Wn
open Go Go.Proofs
theorem esc47_2 : env1.esc 47 2 = false := by kernel_rfl
theorem esc47_3 : env1.esc 47 3 = false := by kernel_rfl
theorem allL_any (l m : List PV) : allL l m = !l.any (ninL m) := by
  unfold allL
  rw [List.not_any_eq_all_not]
  unfold ninL
  simp

set_option maxRecDepth 100000 in
set_option maxHeartbeats 4000000 in
theorem run47 (st1 sp1 : Int) (c1 n1 k1 w1 : SL) (st2 sp2 : Int) (c2 n2 k2 w2 : SL) (hc1 : ∀ e ∈ c1.l, ∃ x y z, e = t3 x y z) (bc1 : c1.l.length < 2 ^ 40) (hn1 : ∀ e ∈ n1.l, ∃ x, e = t1 x) (bn1 : n1.l.length < 2 ^ 40) (hk1 : ∀ e ∈ k1.l, ∃ x y, e = t2 x y) (bk1 : k1.l.length < 2 ^ 40) (hw1 : ∀ e ∈ w1.l, ∃ x y z, e = t3 x y z) (bw1 : w1.l.length < 2 ^ 40) (hc2 : ∀ e ∈ c2.l, ∃ x y z, e = t3 x y z) (bc2 : c2.l.length < 2 ^ 40) (hn2 : ∀ e ∈ n2.l, ∃ x, e = t1 x) (bn2 : n2.l.length < 2 ^ 40) (hk2 : ∀ e ∈ k2.l, ∃ x y, e = t2 x y) (bk2 : k2.l.length < 2 ^ 40) (hw2 : ∀ e ∈ w2.l, ∃ x y z, e = t3 x y z) (bw2 : w2.l.length < 2 ^ 40) (h : Heap) (hm : Pm ⟨[], h⟩) (K : Ctx) (d : Nat) (hd : c1.l.length + n1.l.length + k1.l.length + w1.l.length + c2.l.length + n2.l.length + k2.l.length + w2.l.length + 9 ≤ d) :
    (hand env1 d).1 K 47 [.p (.agg [.i .i64 st1, .i .i64 sp1, c1.v, n1.v, k1.v, w1.v]), .p (.agg [.i .i64 st2, .i .i64 sp2, c2.v, n2.v, k2.v, w2.v])] h = some (.p (.b (allL c1.l c2.l && allL w1.l w2.l && allL k1.l k2.l && allL n1.l n2.l)), h) := by
  obtain ⟨d, rfl⟩ : ∃ d', d = d' + 1 := ⟨d - 1, by omega⟩
  have hst : Pf (start [.p (.agg [.i .i64 st1, .i .i64 sp1, c1.v, n1.v, k1.v, w1.v]), .p (.agg [.i .i64 st2, .i .i64 sp2, c2.v, n2.v, k2.v, w2.v])]) := Pf.start fun x hx => by
    simp only [List.mem_cons, List.mem_nil_iff, or_false] at hx
    rcases hx with rfl | rfl <;> rfl
  generalize hfr : start [.p (.agg [.i .i64 st1, .i .i64 sp1, c1.v, n1.v, k1.v, w1.v]), .p (.agg [.i .i64 st2, .i .i64 sp2, c2.v, n2.v, k2.v, w2.v])] = fr at hst
  have g0 : rd fr 0 = .p (.agg [.i .i64 st1, .i .i64 sp1, c1.v, n1.v, k1.v, w1.v]) := by rw [← hfr, rd_start]; rfl
  have g1 : rd fr 1 = .p (.agg [.i .i64 st2, .i .i64 sp2, c2.v, n2.v, k2.v, w2.v]) := by rw [← hfr, rd_start]; rfl
  have hm1 : Pm ⟨[[.p (.i .i64 st1), .p (.i .i64 sp1), .p (c1.v), .p (n1.v), .p (k1.v), .p (w1.v)], [.p (.i .i64 st2), .p (.i .i64 sp2), .p (c2.v), .p (n2.v), .p (k2.v), .p (w2.v)]], h⟩ := ⟨(fun cs hc => by
    simp only [List.mem_cons, List.mem_nil_iff, or_false] at hc
    rcases hc with rfl | rfl <;> rfl), hm.h⟩
  have hm2 : Pm ⟨[[.p (.i .i64 st1), .p (.i .i64 sp1), .p (c1.v), .p (n1.v), .p (k1.v), .p (w1.v)]], h⟩ := ⟨(fun cs hc => by
    simp only [List.mem_cons, List.mem_nil_iff, or_false] at hc
    subst hc; rfl), hm.h⟩
  rw [hand_fn (by kernel_rfl) (show env1.Q.fn 47 = some Tryz.f47 by kernel_rfl)]
  have body : ∃ fr2 m2, evCode env1 (hand env1 d).1 (hand env1 d).2 ⟨h.length, h.length⟩ 47 bd47 ⟨fr, ⟨[], h⟩⟩ = some (.ret, ⟨fr2, m2⟩) ∧ rd fr2 4 = .p (.b (allL c1.l c2.l && allL w1.l w2.l && allL k1.l k2.l && allL n1.l n2.l)) := by
    rw [allL_any, allL_any, allL_any, allL_any]
    obtain ⟨fr1, hL0⟩ := loop47_0 c1 n1 k1 w1 c2 n2 k2 w2 st1 sp1 st2 sp2 hc1 bc1 h hm1 hc2 bc2 hm ⟨h.length, h.length⟩ (setF (setF (setF (setF fr 2 (.lptr 0 0)) 3 (.lptr 1 0)) 4 (.p (.b false))) 5 (.p (.i .i64 0))) d (by omega) (hst.lp.lp.p.p) (by simp (config := { maxDischargeDepth := 80 }) only [RD, ev_skip, ev_reg, ev_seq, contC_n, contC_r, contC_x, ev_cond, condC_t, condC_f, ev_block, blockC_n, blockC_r, blockC_x, ev_loop, ev_exit, ev_ret, evReg, evL_nil, evL_cons, stepW_t, stepW_f, stepO_t, stepO_d, bft, btf, bff, btt, wantedV, evOp, argOf, cp, binV, intBin, putF, rd_setF, Option.map_some, Option.bind_some, if_true, Bool.true_or, decide_true, toB, takeS_pf, takeS_c, if_false, Pf.p, Pf.lp, Pf.pt, Pf.cl, Pf.nv, List.all_cons, List.all_nil, Bool.and_true, constV, constCell, nf1, ld, getCells, List.length_cons, List.length_nil, Nat.reduceEqDiff, reduceIte, Nat.reduceAdd, Nat.reduceLeDiff, List.take_succ_cons, List.take_zero, List.drop_zero, ofCells, mkAgg, mapO, V.isP, Bool.false_or, beq_self_eq_true, Bool.false_eq_true, cpL, vc_agg, vc_pagg, vc_i, PV.cells, List.map_cons, List.map_nil, Nat.zero_add, List.getElem?_cons_zero, List.getElem?_cons_succ, ↓SL.cells, ↓SL.vcells, ↓SL.cellOk, and_self, Int.natCast_zero]; try rfl)
    simp (config := { maxDischargeDepth := 80 }) only [lp47_0, loopsOf, bd47, Tryz.f47, List.getD_cons_zero, List.getD_cons_succ, List.nil_append, List.cons_append, List.append_nil, RD, and_true] at hL0
    rcases hL0 with ⟨hin0, hL0, _, h4⟩ | ⟨hin0, hL0, hp0, r2_0, r3_0⟩
    · simp (config := { maxDischargeDepth := 80 }) only [bd47, Tryz.f47, ev_skip, ev_reg, ev_seq, contC_n, contC_r, contC_x, ev_cond, condC_t, condC_f, ev_block, blockC_n, blockC_r, blockC_x, ev_loop, ev_exit, ev_ret, evReg, evL_nil, evL_cons, stepW_t, stepW_f, stepO_t, stepO_d, bft, btf, bff, btt, wantedV, evOp, argOf, cp, binV, intBin, putF, rd_setF, Option.map_some, Option.bind_some, if_true, Bool.true_or, decide_true, toB, takeS_pf, takeS_c, if_false, Pf.p, Pf.lp, Pf.pt, Pf.cl, Pf.nv, List.all_cons, List.all_nil, Bool.and_true, constV, constCell, nf1, ld, getCells, List.length_cons, List.length_nil, Nat.reduceEqDiff, reduceIte, Nat.reduceAdd, Nat.reduceLeDiff, List.take_succ_cons, List.take_zero, List.drop_zero, ofCells, mkAgg, mapO, V.isP, Bool.false_or, beq_self_eq_true, Bool.false_eq_true, cpL, vc_agg, vc_pagg, vc_i, PV.cells, List.map_cons, List.map_nil, Nat.zero_add, List.getElem?_cons_zero, List.getElem?_cons_succ, ↓SL.cells, ↓SL.vcells, ↓SL.cellOk, g0, g1, hst, hm, evCall, lfL, lf, argsOf, List.contains_nil, ite_self, List.nil_append, List.cons_append, List.append_nil, and_self, newVarV, V.cellOk, Option.getD_some, List.nil_append, List.cons_append, Bool.or_self, z77, a77, hm1, hm2, f77_0, f77_1, f77_2, f77_3, f77_4, f77_5, addOff, List.drop_succ_cons, Nat.one_ne_zero, evBuiltin, len109, len110, len111, unV, z74, a74, z75, a75, z42, a42, esc47_2, esc47_3, hL0]
      exact ⟨_, _, rfl, by rw [h4]; simp [hin0]⟩
    obtain ⟨fr2, hL1⟩ := loop47_1 w1 c1 n1 k1 c2 n2 k2 w2 st1 sp1 st2 sp2 hw1 bw1 h hm1 hw2 bw2 hm ⟨h.length, h.length⟩ (setF fr1 6 (.p (.i .i64 0))) d (by omega) hp0.p (by simp (config := { maxDischargeDepth := 80 }) only [RD, ev_skip, ev_reg, ev_seq, contC_n, contC_r, contC_x, ev_cond, condC_t, condC_f, ev_block, blockC_n, blockC_r, blockC_x, ev_loop, ev_exit, ev_ret, evReg, evL_nil, evL_cons, stepW_t, stepW_f, stepO_t, stepO_d, bft, btf, bff, btt, wantedV, evOp, argOf, cp, binV, intBin, putF, rd_setF, Option.map_some, Option.bind_some, if_true, Bool.true_or, decide_true, toB, takeS_pf, takeS_c, if_false, Pf.p, Pf.lp, Pf.pt, Pf.cl, Pf.nv, List.all_cons, List.all_nil, Bool.and_true, constV, constCell, nf1, ld, getCells, List.length_cons, List.length_nil, Nat.reduceEqDiff, reduceIte, Nat.reduceAdd, Nat.reduceLeDiff, List.take_succ_cons, List.take_zero, List.drop_zero, ofCells, mkAgg, mapO, V.isP, Bool.false_or, beq_self_eq_true, Bool.false_eq_true, cpL, vc_agg, vc_pagg, vc_i, PV.cells, List.map_cons, List.map_nil, Nat.zero_add, List.getElem?_cons_zero, List.getElem?_cons_succ, ↓SL.cells, ↓SL.vcells, ↓SL.cellOk, r2_0, r3_0, and_self, Int.natCast_zero]; try rfl)
    simp (config := { maxDischargeDepth := 80 }) only [lp47_1, loopsOf, bd47, Tryz.f47, List.getD_cons_zero, List.getD_cons_succ, List.nil_append, List.cons_append, List.append_nil, RD, and_true] at hL1
    rcases hL1 with ⟨hin1, hL1, _, h4⟩ | ⟨hin1, hL1, hp1, r2_1, r3_1⟩
    · simp (config := { maxDischargeDepth := 80 }) only [bd47, Tryz.f47, ev_skip, ev_reg, ev_seq, contC_n, contC_r, contC_x, ev_cond, condC_t, condC_f, ev_block, blockC_n, blockC_r, blockC_x, ev_loop, ev_exit, ev_ret, evReg, evL_nil, evL_cons, stepW_t, stepW_f, stepO_t, stepO_d, bft, btf, bff, btt, wantedV, evOp, argOf, cp, binV, intBin, putF, rd_setF, Option.map_some, Option.bind_some, if_true, Bool.true_or, decide_true, toB, takeS_pf, takeS_c, if_false, Pf.p, Pf.lp, Pf.pt, Pf.cl, Pf.nv, List.all_cons, List.all_nil, Bool.and_true, constV, constCell, nf1, ld, getCells, List.length_cons, List.length_nil, Nat.reduceEqDiff, reduceIte, Nat.reduceAdd, Nat.reduceLeDiff, List.take_succ_cons, List.take_zero, List.drop_zero, ofCells, mkAgg, mapO, V.isP, Bool.false_or, beq_self_eq_true, Bool.false_eq_true, cpL, vc_agg, vc_pagg, vc_i, PV.cells, List.map_cons, List.map_nil, Nat.zero_add, List.getElem?_cons_zero, List.getElem?_cons_succ, ↓SL.cells, ↓SL.vcells, ↓SL.cellOk, g0, g1, hst, hm, evCall, lfL, lf, argsOf, List.contains_nil, ite_self, List.nil_append, List.cons_append, List.append_nil, and_self, newVarV, V.cellOk, Option.getD_some, List.nil_append, List.cons_append, Bool.or_self, z77, a77, hm1, hm2, f77_0, f77_1, f77_2, f77_3, f77_4, f77_5, addOff, List.drop_succ_cons, Nat.one_ne_zero, evBuiltin, len109, len110, len111, unV, z74, a74, z75, a75, z42, a42, esc47_2, esc47_3, hL0, hL1, hp0]
      exact ⟨_, _, rfl, by rw [h4]; simp [hin0, hin1]⟩
    obtain ⟨fr3, hL2⟩ := loop47_2 k1 c1 n1 w1 c2 n2 k2 w2 st1 sp1 st2 sp2 hk1 bk1 h hm1 hk2 bk2 hm ⟨h.length, h.length⟩ (setF fr2 7 (.p (.i .i64 0))) d (by omega) hp1.p (by simp (config := { maxDischargeDepth := 80 }) only [RD, ev_skip, ev_reg, ev_seq, contC_n, contC_r, contC_x, ev_cond, condC_t, condC_f, ev_block, blockC_n, blockC_r, blockC_x, ev_loop, ev_exit, ev_ret, evReg, evL_nil, evL_cons, stepW_t, stepW_f, stepO_t, stepO_d, bft, btf, bff, btt, wantedV, evOp, argOf, cp, binV, intBin, putF, rd_setF, Option.map_some, Option.bind_some, if_true, Bool.true_or, decide_true, toB, takeS_pf, takeS_c, if_false, Pf.p, Pf.lp, Pf.pt, Pf.cl, Pf.nv, List.all_cons, List.all_nil, Bool.and_true, constV, constCell, nf1, ld, getCells, List.length_cons, List.length_nil, Nat.reduceEqDiff, reduceIte, Nat.reduceAdd, Nat.reduceLeDiff, List.take_succ_cons, List.take_zero, List.drop_zero, ofCells, mkAgg, mapO, V.isP, Bool.false_or, beq_self_eq_true, Bool.false_eq_true, cpL, vc_agg, vc_pagg, vc_i, PV.cells, List.map_cons, List.map_nil, Nat.zero_add, List.getElem?_cons_zero, List.getElem?_cons_succ, ↓SL.cells, ↓SL.vcells, ↓SL.cellOk, r2_1, r3_1, and_self, Int.natCast_zero]; try rfl)
    simp (config := { maxDischargeDepth := 80 }) only [lp47_2, loopsOf, bd47, Tryz.f47, List.getD_cons_zero, List.getD_cons_succ, List.nil_append, List.cons_append, List.append_nil, RD, and_true] at hL2
    rcases hL2 with ⟨hin2, hL2, _, h4⟩ | ⟨hin2, hL2, hp2, r2_2, r3_2⟩
    · simp (config := { maxDischargeDepth := 80 }) only [bd47, Tryz.f47, ev_skip, ev_reg, ev_seq, contC_n, contC_r, contC_x, ev_cond, condC_t, condC_f, ev_block, blockC_n, blockC_r, blockC_x, ev_loop, ev_exit, ev_ret, evReg, evL_nil, evL_cons, stepW_t, stepW_f, stepO_t, stepO_d, bft, btf, bff, btt, wantedV, evOp, argOf, cp, binV, intBin, putF, rd_setF, Option.map_some, Option.bind_some, if_true, Bool.true_or, decide_true, toB, takeS_pf, takeS_c, if_false, Pf.p, Pf.lp, Pf.pt, Pf.cl, Pf.nv, List.all_cons, List.all_nil, Bool.and_true, constV, constCell, nf1, ld, getCells, List.length_cons, List.length_nil, Nat.reduceEqDiff, reduceIte, Nat.reduceAdd, Nat.reduceLeDiff, List.take_succ_cons, List.take_zero, List.drop_zero, ofCells, mkAgg, mapO, V.isP, Bool.false_or, beq_self_eq_true, Bool.false_eq_true, cpL, vc_agg, vc_pagg, vc_i, PV.cells, List.map_cons, List.map_nil, Nat.zero_add, List.getElem?_cons_zero, List.getElem?_cons_succ, ↓SL.cells, ↓SL.vcells, ↓SL.cellOk, g0, g1, hst, hm, evCall, lfL, lf, argsOf, List.contains_nil, ite_self, List.nil_append, List.cons_append, List.append_nil, and_self, newVarV, V.cellOk, Option.getD_some, List.nil_append, List.cons_append, Bool.or_self, z77, a77, hm1, hm2, f77_0, f77_1, f77_2, f77_3, f77_4, f77_5, addOff, List.drop_succ_cons, Nat.one_ne_zero, evBuiltin, len109, len110, len111, unV, z74, a74, z75, a75, z42, a42, esc47_2, esc47_3, hL0, hL1, hL2, hp0, hp1]
      exact ⟨_, _, rfl, by rw [h4]; simp [hin0, hin1, hin2]⟩
    obtain ⟨fr4, hL3⟩ := loop47_3 n1 c1 k1 w1 c2 n2 k2 w2 st1 sp1 st2 sp2 hn1 bn1 h hm1 hn2 bn2 hm ⟨h.length, h.length⟩ (setF fr3 8 (.p (.i .i64 0))) d (by omega) hp2.p (by simp (config := { maxDischargeDepth := 80 }) only [RD, ev_skip, ev_reg, ev_seq, contC_n, contC_r, contC_x, ev_cond, condC_t, condC_f, ev_block, blockC_n, blockC_r, blockC_x, ev_loop, ev_exit, ev_ret, evReg, evL_nil, evL_cons, stepW_t, stepW_f, stepO_t, stepO_d, bft, btf, bff, btt, wantedV, evOp, argOf, cp, binV, intBin, putF, rd_setF, Option.map_some, Option.bind_some, if_true, Bool.true_or, decide_true, toB, takeS_pf, takeS_c, if_false, Pf.p, Pf.lp, Pf.pt, Pf.cl, Pf.nv, List.all_cons, List.all_nil, Bool.and_true, constV, constCell, nf1, ld, getCells, List.length_cons, List.length_nil, Nat.reduceEqDiff, reduceIte, Nat.reduceAdd, Nat.reduceLeDiff, List.take_succ_cons, List.take_zero, List.drop_zero, ofCells, mkAgg, mapO, V.isP, Bool.false_or, beq_self_eq_true, Bool.false_eq_true, cpL, vc_agg, vc_pagg, vc_i, PV.cells, List.map_cons, List.map_nil, Nat.zero_add, List.getElem?_cons_zero, List.getElem?_cons_succ, ↓SL.cells, ↓SL.vcells, ↓SL.cellOk, r2_2, r3_2, and_self, Int.natCast_zero]; try rfl)
    simp (config := { maxDischargeDepth := 80 }) only [lp47_3, loopsOf, bd47, Tryz.f47, List.getD_cons_zero, List.getD_cons_succ, List.nil_append, List.cons_append, List.append_nil, RD, and_true] at hL3
    rcases hL3 with ⟨hin3, hL3, _, h4⟩ | ⟨hin3, hL3, hp3, r2_3, r3_3⟩
    · simp (config := { maxDischargeDepth := 80 }) only [bd47, Tryz.f47, ev_skip, ev_reg, ev_seq, contC_n, contC_r, contC_x, ev_cond, condC_t, condC_f, ev_block, blockC_n, blockC_r, blockC_x, ev_loop, ev_exit, ev_ret, evReg, evL_nil, evL_cons, stepW_t, stepW_f, stepO_t, stepO_d, bft, btf, bff, btt, wantedV, evOp, argOf, cp, binV, intBin, putF, rd_setF, Option.map_some, Option.bind_some, if_true, Bool.true_or, decide_true, toB, takeS_pf, takeS_c, if_false, Pf.p, Pf.lp, Pf.pt, Pf.cl, Pf.nv, List.all_cons, List.all_nil, Bool.and_true, constV, constCell, nf1, ld, getCells, List.length_cons, List.length_nil, Nat.reduceEqDiff, reduceIte, Nat.reduceAdd, Nat.reduceLeDiff, List.take_succ_cons, List.take_zero, List.drop_zero, ofCells, mkAgg, mapO, V.isP, Bool.false_or, beq_self_eq_true, Bool.false_eq_true, cpL, vc_agg, vc_pagg, vc_i, PV.cells, List.map_cons, List.map_nil, Nat.zero_add, List.getElem?_cons_zero, List.getElem?_cons_succ, ↓SL.cells, ↓SL.vcells, ↓SL.cellOk, g0, g1, hst, hm, evCall, lfL, lf, argsOf, List.contains_nil, ite_self, List.nil_append, List.cons_append, List.append_nil, and_self, newVarV, V.cellOk, Option.getD_some, List.nil_append, List.cons_append, Bool.or_self, z77, a77, hm1, hm2, f77_0, f77_1, f77_2, f77_3, f77_4, f77_5, addOff, List.drop_succ_cons, Nat.one_ne_zero, evBuiltin, len109, len110, len111, unV, z74, a74, z75, a75, z42, a42, esc47_2, esc47_3, hL0, hL1, hL2, hL3, hp0, hp1, hp2]
      exact ⟨_, _, rfl, by rw [h4]; simp [hin0, hin1, hin2, hin3]⟩
    simp (config := { maxDischargeDepth := 80 }) only [bd47, Tryz.f47, ev_skip, ev_reg, ev_seq, contC_n, contC_r, contC_x, ev_cond, condC_t, condC_f, ev_block, blockC_n, blockC_r, blockC_x, ev_loop, ev_exit, ev_ret, evReg, evL_nil, evL_cons, stepW_t, stepW_f, stepO_t, stepO_d, bft, btf, bff, btt, wantedV, evOp, argOf, cp, binV, intBin, putF, rd_setF, Option.map_some, Option.bind_some, if_true, Bool.true_or, decide_true, toB, takeS_pf, takeS_c, if_false, Pf.p, Pf.lp, Pf.pt, Pf.cl, Pf.nv, List.all_cons, List.all_nil, Bool.and_true, constV, constCell, nf1, ld, getCells, List.length_cons, List.length_nil, Nat.reduceEqDiff, reduceIte, Nat.reduceAdd, Nat.reduceLeDiff, List.take_succ_cons, List.take_zero, List.drop_zero, ofCells, mkAgg, mapO, V.isP, Bool.false_or, beq_self_eq_true, Bool.false_eq_true, cpL, vc_agg, vc_pagg, vc_i, PV.cells, List.map_cons, List.map_nil, Nat.zero_add, List.getElem?_cons_zero, List.getElem?_cons_succ, ↓SL.cells, ↓SL.vcells, ↓SL.cellOk, g0, g1, hst, hm, evCall, lfL, lf, argsOf, List.contains_nil, ite_self, List.nil_append, List.cons_append, List.append_nil, and_self, newVarV, V.cellOk, Option.getD_some, List.nil_append, List.cons_append, Bool.or_self, z77, a77, hm1, hm2, f77_0, f77_1, f77_2, f77_3, f77_4, f77_5, addOff, List.drop_succ_cons, Nat.one_ne_zero, evBuiltin, len109, len110, len111, unV, z74, a74, z75, a75, z42, a42, esc47_2, esc47_3, hL0, hL1, hL2, hL3, hp0, hp1, hp2, hp3]
    exact ⟨_, _, rfl, by simp (config := { maxDischargeDepth := 80 }) only [ev_skip, ev_reg, ev_seq, contC_n, contC_r, contC_x, ev_cond, condC_t, condC_f, ev_block, blockC_n, blockC_r, blockC_x, ev_loop, ev_exit, ev_ret, evReg, evL_nil, evL_cons, stepW_t, stepW_f, stepO_t, stepO_d, bft, btf, bff, btt, wantedV, evOp, argOf, cp, binV, intBin, putF, rd_setF, Option.map_some, Option.bind_some, if_true, Bool.true_or, decide_true, toB, takeS_pf, takeS_c, if_false, Pf.p, Pf.lp, Pf.pt, Pf.cl, Pf.nv, List.all_cons, List.all_nil, Bool.and_true, constV, constCell, nf1, ld, getCells, List.length_cons, List.length_nil, Nat.reduceEqDiff, reduceIte, Nat.reduceAdd, Nat.reduceLeDiff, List.take_succ_cons, List.take_zero, List.drop_zero, ofCells, mkAgg, mapO, V.isP, Bool.false_or, beq_self_eq_true, Bool.false_eq_true, cpL, vc_agg, vc_pagg, vc_i, PV.cells, List.map_cons, List.map_nil, Nat.zero_add, List.getElem?_cons_zero, List.getElem?_cons_succ, ↓SL.cells, ↓SL.vcells, ↓SL.cellOk, g0, g1, hst, hm, evCall, lfL, lf, argsOf, List.contains_nil, ite_self, List.nil_append, List.cons_append, List.append_nil, and_self, newVarV, V.cellOk, Option.getD_some, List.nil_append, List.cons_append, Bool.or_self, z77, a77, hm1, hm2, f77_0, f77_1, f77_2, f77_3, f77_4, f77_5, addOff, List.drop_succ_cons, Nat.one_ne_zero, evBuiltin, len109, len110, len111, unV, z74, a74, z75, a75, z42, a42, esc47_2, esc47_3]; simp [hin0, hin1, hin2, hin3]⟩
  obtain ⟨fr2, m2, he, hv⟩ := body
  exact body2 (fn := Tryz.f47) (code := bd47) rfl (by kernel_rfl) rfl (by show (2 : Nat) ≤ Tryz.f47.ntmps; decide) (by rw [hfr]; exact he) (.inr rfl) hv

end Go.Wn
