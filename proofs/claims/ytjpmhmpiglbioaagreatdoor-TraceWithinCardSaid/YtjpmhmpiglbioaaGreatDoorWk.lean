/- Part of the proof: an evaluator of the model's code over pure trees, and what it computes. No condition of its own. -/
import Derived.Test.YtjpmhmpiglbioaaGreatDoorWj
set_option linter.unusedSimpArgs false
set_option linter.unusedVariables false
namespace Go.Wn
open Go Go.Proofs
theorem okb191 : okFn env1.Q 191 = true := by kernel_rfl
theorem tk191 : env1.tk 191 = [] := by kernel_rfl

noncomputable def bd253 : Code := match Tryz.f253.body with | some c => c | none => .skip
noncomputable def lp253_0 : Code := (loopsOf bd253).getD 0 .skip

set_option maxRecDepth 100000 in
theorem round253 (C : Handler) (L : LHandler) (K : Ctx) (fr : Fr) (h : Heap) (es : SL) (i k : Nat) (x y : Int) (r : Bool) (hi : es.l[i]? = some (t2 x y)) (hb : es.l.length < 2 ^ 40) (hC : ∀ K, C K 191 [.p (t2 x y), .ptr k 0] h = some (.p (.b r), h)) (hp : Pf fr) (hm : Pm ⟨[], h⟩) (hR : RD fr [(0, .p (es.v)), (1, .clo (.func 191) [] [.ptr k 0]), (7, .p (.i .i64 es.l.length)), (8, .p (.i .i64 i))]) :
    ∃ fr', evCode env1 C L K 253 lp253_0 ⟨fr, ⟨[], h⟩⟩ = some (if r then .ret else .nrm, ⟨fr', ⟨[], h⟩⟩) ∧ Pf fr' ∧ (r = true → rd fr' 4 = .p (.i .i64 i)) ∧ (r = false → RD fr' [(0, .p (es.v)), (1, .clo (.func 191) [] [.ptr k 0]), (7, .p (.i .i64 es.l.length)), (8, .p (.i .i64 (i + 1 : Nat)))]) := by
  simp only [RD, and_true] at hR
  obtain ⟨h0, h1, h7, h8⟩ := hR
  have hlt : i < es.l.length := lt_of_get hi
  have hlt' : (i : Int) < (es.l.length : Int) := by omega
  have hix := ixa254 (h := h) hi
  have hw := wrap_nat hlt hb
  have hC' := hC; simp only [t2] at hC'
  unfold lp253_0
  simp (config := { maxDischargeDepth := 80 }) only [loopsOf, bd253, Tryz.f253, List.getD_cons_zero, List.getD_cons_succ, List.nil_append, List.cons_append, List.append_nil, evCode, evReg, evL, wantedV, evOp, argOf, cp, binV, intBin, putF, rd_setF, Option.map_some, Option.bind_some, if_true, Bool.true_or, decide_true, toB, takeS_pf, takeS_c, if_false, Pf.p, Pf.lp, Pf.pt, Pf.cl, Pf.nv, List.all_cons, List.all_nil, Bool.and_true, constV, constCell, nf1, ld, getCells, List.length_cons, List.length_nil, Nat.reduceEqDiff, reduceIte, Nat.reduceAdd, Nat.reduceLeDiff, List.take_succ_cons, List.take_zero, List.drop_zero, ofCells, mkAgg, mapO, V.isP, Bool.false_or, beq_self_eq_true, Bool.false_eq_true, cpL, vc_agg, vc_pagg, vc_i, PV.cells, List.map_cons, List.map_nil, Nat.zero_add, List.getElem?_cons_zero, List.getElem?_cons_succ, ↓SL.cells, ↓SL.vcells, ↓SL.cellOk, h0, h1, h7, h8, u75, z193, a193, hix, hlt', evCall, okb191, tk191, hC', lfL, lf, argsOf, List.contains_nil, ite_self, hp, hm]
  cases hE : r
  · simp (config := { maxDischargeDepth := 80 }) only [hE, Bool.not_true, Bool.not_false, if_true, if_false, evCode, evReg, evL, wantedV, evOp, argOf, cp, binV, intBin, putF, rd_setF, Option.map_some, Option.bind_some, if_true, Bool.true_or, decide_true, toB, takeS_pf, takeS_c, if_false, Pf.p, Pf.lp, Pf.pt, Pf.cl, Pf.nv, List.all_cons, List.all_nil, Bool.and_true, constV, constCell, nf1, ld, getCells, List.length_cons, List.length_nil, Nat.reduceEqDiff, reduceIte, Nat.reduceAdd, Nat.reduceLeDiff, List.take_succ_cons, List.take_zero, List.drop_zero, ofCells, mkAgg, mapO, V.isP, Bool.false_or, beq_self_eq_true, Bool.false_eq_true, cpL, vc_agg, vc_pagg, vc_i, PV.cells, List.map_cons, List.map_nil, Nat.zero_add, List.getElem?_cons_zero, List.getElem?_cons_succ, ↓SL.cells, ↓SL.vcells, ↓SL.cellOk, h0, h1, h7, h8, u75, z193, a193, hix, hlt', evCall, okb191, tk191, hC', lfL, lf, argsOf, List.contains_nil, ite_self, hp, hm]
    refine ⟨_, rfl, ?_, fun h => (by cases h), fun _ => ?_⟩
    · simp (config := { maxDischargeDepth := 80 }) only [evCode, evReg, evL, wantedV, evOp, argOf, cp, binV, intBin, putF, rd_setF, Option.map_some, Option.bind_some, if_true, Bool.true_or, decide_true, toB, takeS_pf, takeS_c, if_false, Pf.p, Pf.lp, Pf.pt, Pf.cl, Pf.nv, List.all_cons, List.all_nil, Bool.and_true, constV, constCell, nf1, ld, getCells, List.length_cons, List.length_nil, Nat.reduceEqDiff, reduceIte, Nat.reduceAdd, Nat.reduceLeDiff, List.take_succ_cons, List.take_zero, List.drop_zero, ofCells, mkAgg, mapO, V.isP, Bool.false_or, beq_self_eq_true, Bool.false_eq_true, cpL, vc_agg, vc_pagg, vc_i, PV.cells, List.map_cons, List.map_nil, Nat.zero_add, List.getElem?_cons_zero, List.getElem?_cons_succ, ↓SL.cells, ↓SL.vcells, ↓SL.cellOk, h0, h1, h7, h8, u75, z193, a193, hix, hlt', evCall, okb191, tk191, hC', lfL, lf, argsOf, List.contains_nil, ite_self, hp, hm]
    · simp (config := { maxDischargeDepth := 80 }) only [RD, evCode, evReg, evL, wantedV, evOp, argOf, cp, binV, intBin, putF, rd_setF, Option.map_some, Option.bind_some, if_true, Bool.true_or, decide_true, toB, takeS_pf, takeS_c, if_false, Pf.p, Pf.lp, Pf.pt, Pf.cl, Pf.nv, List.all_cons, List.all_nil, Bool.and_true, constV, constCell, nf1, ld, getCells, List.length_cons, List.length_nil, Nat.reduceEqDiff, reduceIte, Nat.reduceAdd, Nat.reduceLeDiff, List.take_succ_cons, List.take_zero, List.drop_zero, ofCells, mkAgg, mapO, V.isP, Bool.false_or, beq_self_eq_true, Bool.false_eq_true, cpL, vc_agg, vc_pagg, vc_i, PV.cells, List.map_cons, List.map_nil, Nat.zero_add, List.getElem?_cons_zero, List.getElem?_cons_succ, ↓SL.cells, ↓SL.vcells, ↓SL.cellOk, h0, h1, h7, h8, u75, z193, a193, hix, hlt', evCall, okb191, tk191, hC', lfL, lf, argsOf, List.contains_nil, ite_self, hp, hm, hw, and_self]
  · simp (config := { maxDischargeDepth := 80 }) only [hE, Bool.not_true, Bool.not_false, if_true, if_false, evCode, evReg, evL, wantedV, evOp, argOf, cp, binV, intBin, putF, rd_setF, Option.map_some, Option.bind_some, if_true, Bool.true_or, decide_true, toB, takeS_pf, takeS_c, if_false, Pf.p, Pf.lp, Pf.pt, Pf.cl, Pf.nv, List.all_cons, List.all_nil, Bool.and_true, constV, constCell, nf1, ld, getCells, List.length_cons, List.length_nil, Nat.reduceEqDiff, reduceIte, Nat.reduceAdd, Nat.reduceLeDiff, List.take_succ_cons, List.take_zero, List.drop_zero, ofCells, mkAgg, mapO, V.isP, Bool.false_or, beq_self_eq_true, Bool.false_eq_true, cpL, vc_agg, vc_pagg, vc_i, PV.cells, List.map_cons, List.map_nil, Nat.zero_add, List.getElem?_cons_zero, List.getElem?_cons_succ, ↓SL.cells, ↓SL.vcells, ↓SL.cellOk, h0, h1, h7, h8, u75, z193, a193, hix, hlt', evCall, okb191, tk191, hC', lfL, lf, argsOf, List.contains_nil, ite_self, hp, hm]
    refine ⟨_, rfl, ?_, fun _ => ?_, fun h => (by cases h)⟩
    · simp (config := { maxDischargeDepth := 80 }) only [evCode, evReg, evL, wantedV, evOp, argOf, cp, binV, intBin, putF, rd_setF, Option.map_some, Option.bind_some, if_true, Bool.true_or, decide_true, toB, takeS_pf, takeS_c, if_false, Pf.p, Pf.lp, Pf.pt, Pf.cl, Pf.nv, List.all_cons, List.all_nil, Bool.and_true, constV, constCell, nf1, ld, getCells, List.length_cons, List.length_nil, Nat.reduceEqDiff, reduceIte, Nat.reduceAdd, Nat.reduceLeDiff, List.take_succ_cons, List.take_zero, List.drop_zero, ofCells, mkAgg, mapO, V.isP, Bool.false_or, beq_self_eq_true, Bool.false_eq_true, cpL, vc_agg, vc_pagg, vc_i, PV.cells, List.map_cons, List.map_nil, Nat.zero_add, List.getElem?_cons_zero, List.getElem?_cons_succ, ↓SL.cells, ↓SL.vcells, ↓SL.cellOk, h0, h1, h7, h8, u75, z193, a193, hix, hlt', evCall, okb191, tk191, hC', lfL, lf, argsOf, List.contains_nil, ite_self, hp, hm]
    · simp (config := { maxDischargeDepth := 80 }) only [evCode, evReg, evL, wantedV, evOp, argOf, cp, binV, intBin, putF, rd_setF, Option.map_some, Option.bind_some, if_true, Bool.true_or, decide_true, toB, takeS_pf, takeS_c, if_false, Pf.p, Pf.lp, Pf.pt, Pf.cl, Pf.nv, List.all_cons, List.all_nil, Bool.and_true, constV, constCell, nf1, ld, getCells, List.length_cons, List.length_nil, Nat.reduceEqDiff, reduceIte, Nat.reduceAdd, Nat.reduceLeDiff, List.take_succ_cons, List.take_zero, List.drop_zero, ofCells, mkAgg, mapO, V.isP, Bool.false_or, beq_self_eq_true, Bool.false_eq_true, cpL, vc_agg, vc_pagg, vc_i, PV.cells, List.map_cons, List.map_nil, Nat.zero_add, List.getElem?_cons_zero, List.getElem?_cons_succ, ↓SL.cells, ↓SL.vcells, ↓SL.cellOk, h0, h1, h7, h8, u75, z193, a193, hix, hlt', evCall, okb191, tk191, hC', lfL, lf, argsOf, List.contains_nil, ite_self, hp, hm]

set_option maxRecDepth 100000 in
theorem exit253 (C : Handler) (L : LHandler) (K : Ctx) (fr : Fr) (h : Heap) (es : SL) (k : Nat) (hp : Pf fr) (hm : Pm ⟨[], h⟩) (hR : RD fr [(0, .p (es.v)), (1, .clo (.func 191) [] [.ptr k 0]), (7, .p (.i .i64 es.l.length)), (8, .p (.i .i64 es.l.length))]) :
    ∃ fr', evCode env1 C L K 253 lp253_0 ⟨fr, ⟨[], h⟩⟩ = some (.ext 0, ⟨fr', ⟨[], h⟩⟩) ∧ Pf fr' := by
  simp only [RD, and_true] at hR
  obtain ⟨h0, h1, h7, h8⟩ := hR
  have hn : ¬ ((es.l.length : Int) < (es.l.length : Int)) := by omega
  unfold lp253_0
  simp (config := { maxDischargeDepth := 80 }) only [loopsOf, bd253, Tryz.f253, List.getD_cons_zero, List.getD_cons_succ, List.nil_append, List.cons_append, List.append_nil, evCode, evReg, evL, wantedV, evOp, argOf, cp, binV, intBin, putF, rd_setF, Option.map_some, Option.bind_some, if_true, Bool.true_or, decide_true, toB, takeS_pf, takeS_c, if_false, Pf.p, Pf.lp, Pf.pt, Pf.cl, Pf.nv, List.all_cons, List.all_nil, Bool.and_true, constV, constCell, nf1, ld, getCells, List.length_cons, List.length_nil, Nat.reduceEqDiff, reduceIte, Nat.reduceAdd, Nat.reduceLeDiff, List.take_succ_cons, List.take_zero, List.drop_zero, ofCells, mkAgg, mapO, V.isP, Bool.false_or, beq_self_eq_true, Bool.false_eq_true, cpL, vc_agg, vc_pagg, vc_i, PV.cells, List.map_cons, List.map_nil, Nat.zero_add, List.getElem?_cons_zero, List.getElem?_cons_succ, ↓SL.cells, ↓SL.vcells, ↓SL.cellOk, h0, h1, h7, h8, hp, hn, decide_false]
  exact ⟨_, rfl, by simp (config := { maxDischargeDepth := 80 }) only [evCode, evReg, evL, wantedV, evOp, argOf, cp, binV, intBin, putF, rd_setF, Option.map_some, Option.bind_some, if_true, Bool.true_or, decide_true, toB, takeS_pf, takeS_c, if_false, Pf.p, Pf.lp, Pf.pt, Pf.cl, Pf.nv, List.all_cons, List.all_nil, Bool.and_true, constV, constCell, nf1, ld, getCells, List.length_cons, List.length_nil, Nat.reduceEqDiff, reduceIte, Nat.reduceAdd, Nat.reduceLeDiff, List.take_succ_cons, List.take_zero, List.drop_zero, ofCells, mkAgg, mapO, V.isP, Bool.false_or, beq_self_eq_true, Bool.false_eq_true, cpL, vc_agg, vc_pagg, vc_i, PV.cells, List.map_cons, List.map_nil, Nat.zero_add, List.getElem?_cons_zero, List.getElem?_cons_succ, ↓SL.cells, ↓SL.vcells, ↓SL.cellOk, h0, h1, h7, h8, hp]⟩

theorem loop253 (es : SL) (hes : ∀ e ∈ es.l, ∃ x y, e = t2 x y) (hb : es.l.length < 2 ^ 40) (h : Heap) (hm : Pm ⟨[], h⟩) (k : Nat) (hk : k < h.length) (r : PV → Bool) (d0 : Nat) (hC : ∀ d K e, d0 ≤ d → e ∈ es.l → (hand env1 d).1 K 191 [.p e, .ptr k 0] h = some (.p (.b (r e)), h)) (K : Ctx) (fr : Fr) (d : Nat) (hd : d0 + es.l.length + 1 ≤ d) (hp : Pf fr) (hR : RD fr [(0, .p (es.v)), (1, .clo (.func 191) [] [.ptr k 0]), (7, .p (.i .i64 es.l.length)), (8, .p (.i .i64 0))]) :
    ∃ fr', (es.l.any r = true ∧ (hand env1 d).2 K 253 lp253_0 ⟨fr, ⟨[], h⟩⟩ = some (.ret, ⟨fr', ⟨[], h⟩⟩) ∧ ∃ n : Nat, rd fr' 4 = .p (.i .i64 n)) ∨ (es.l.any r = false ∧ (hand env1 d).2 K 253 lp253_0 ⟨fr, ⟨[], h⟩⟩ = some (.ext 0, ⟨fr', ⟨[], h⟩⟩) ∧ Pf fr') := by
  have key := loop_find (E := env1) (K := K) (f := 253) (body := lp253_0) (m := ⟨[], h⟩) (by kernel_rfl) nil_lm es.l.length d0 0 (fun i fr => Pf fr ∧ RD fr [(0, .p (es.v)), (1, .clo (.func 191) [] [.ptr k 0]), (7, .p (.i .i64 es.l.length)), (8, .p (.i .i64 i))]) (fun fr => ∃ n : Nat, rd fr 4 = .p (.i .i64 n)) Pf (fun i => (es.l[i]?).any r)
    (fun d i fr hd hi ⟨hp, hR⟩ => by
      obtain ⟨x, y, he⟩ := hes es.l[i] (by simp)
      have hi' : es.l[i]? = some (t2 x y) := by rw [List.getElem?_eq_getElem hi, he]
      have hin : t2 x y ∈ es.l := List.mem_of_getElem? hi'
      obtain ⟨fr', e, hp', q1, q2⟩ := round253 (hand env1 d).1 (hand env1 d).2 ⟨K.ro, h.length⟩ (mask (env1.nvs 253) fr) h es i k x y (r (t2 x y)) hi' hb (fun K => hC d K _ hd hin) (hp.mask _) hm (hR.mask (by kernel_rfl))
      refine ⟨fr', ?_⟩
      simp only [hi', Option.any_some]
      cases hr : r (t2 x y) with
      | true => rw [hr] at e q1; exact .inl ⟨rfl, e, i, q1 rfl⟩
      | false => rw [hr] at e q2; exact .inr ⟨rfl, e, hp'.drop _ _ _, (q2 rfl).drop (by simp only [List.all_cons, List.all_nil, rb, rbL, lb, lbL, hk, decide_true, Bool.and_self])⟩)
    (fun d fr hd ⟨hp, hR⟩ => exit253 (hand env1 d).1 (hand env1 d).2 ⟨K.ro, h.length⟩ (mask (env1.nvs 253) fr) h es k (hp.mask _) hm (hR.mask (by kernel_rfl)))
  obtain ⟨fr', h1 | h1⟩ := key es.l.length 0 fr d (by omega) (by omega) ⟨hp, hR⟩
  · refine ⟨fr', .inl ⟨?_, h1.2⟩⟩
    obtain ⟨j, _, hj, h2⟩ := h1.1
    rw [List.getElem?_eq_getElem hj] at h2
    exact List.any_eq_true.2 ⟨es.l[j], by simp, h2⟩
  · refine ⟨fr', .inr ⟨?_, h1.2⟩⟩
    rw [List.any_eq_false]
    intro x hx
    obtain ⟨j, hj, rfl⟩ := List.mem_iff_getElem.1 hx
    have := h1.1 j (by omega) hj
    rw [List.getElem?_eq_getElem hj] at this
    simpa using this

theorem len253 (h : Heap) (es : SL) : lenB env1.Q h 75 (.p (es.v)) = some (.p (.i .i64 es.l.length)) := by obtain ⟨l, b⟩ := es; cases b <;> cases l <;> kernel_rfl

set_option maxRecDepth 100000 in
theorem run253 (es : SL) (hes : ∀ e ∈ es.l, ∃ x y, e = t2 x y) (hb : es.l.length < 2 ^ 40) (h : Heap) (hm : Pm ⟨[], h⟩) (k : Nat) (hk : k < h.length) (r : PV → Bool) (d0 : Nat) (hC : ∀ d K e, d0 ≤ d → e ∈ es.l → (hand env1 d).1 K 191 [.p e, .ptr k 0] h = some (.p (.b (r e)), h)) (K : Ctx) (d : Nat) (hd : d0 + es.l.length + 2 ≤ d) :
    ∃ n : Int, (hand env1 d).1 K 253 [.p (es.v), .clo (.func 191) [] [.ptr k 0]] h = some (.p (.i .i64 n), h) ∧ decide ((0 : Int) ≤ n) = es.l.any r := by
  obtain ⟨d, rfl⟩ : ∃ d', d = d' + 1 := ⟨d - 1, by omega⟩
  have hst : Pf (start [.p (es.v), .clo (.func 191) [] [.ptr k 0]]) := Pf.start fun x hx => by
    simp only [List.mem_cons, List.mem_nil_iff, or_false] at hx
    rcases hx with rfl | rfl <;> rfl
  generalize hfr : start [.p (es.v), .clo (.func 191) [] [.ptr k 0]] = fr at hst
  have g0 : rd fr 0 = .p (es.v) := by rw [← hfr, rd_start]; rfl
  have g1 : rd fr 1 = .clo (.func 191) [] [.ptr k 0] := by rw [← hfr, rd_start]; rfl
  obtain ⟨fr', hL⟩ := loop253 es hes hb h hm k hk r d0 hC ⟨h.length, h.length⟩
    (setF (setF (setF (setF fr 4 (.p (.i .i64 0))) 6 (.p (es.v))) 7 (.p (.i .i64 es.l.length))) 8 (.p (.i .i64 0))) d (by omega)
    (hst.p.p.p.p) (by simp (config := { maxDischargeDepth := 80 }) only [RD, evCode, evReg, evL, wantedV, evOp, argOf, cp, binV, intBin, putF, rd_setF, Option.map_some, Option.bind_some, if_true, Bool.true_or, decide_true, toB, takeS_pf, takeS_c, if_false, Pf.p, Pf.lp, Pf.pt, Pf.cl, Pf.nv, List.all_cons, List.all_nil, Bool.and_true, constV, constCell, nf1, ld, getCells, List.length_cons, List.length_nil, Nat.reduceEqDiff, reduceIte, Nat.reduceAdd, Nat.reduceLeDiff, List.take_succ_cons, List.take_zero, List.drop_zero, ofCells, mkAgg, mapO, V.isP, Bool.false_or, beq_self_eq_true, Bool.false_eq_true, cpL, vc_agg, vc_pagg, vc_i, PV.cells, List.map_cons, List.map_nil, Nat.zero_add, List.getElem?_cons_zero, List.getElem?_cons_succ, ↓SL.cells, ↓SL.vcells, ↓SL.cellOk, g0, g1, and_self])
  simp (config := { maxDischargeDepth := 80 }) only [lp253_0, loopsOf, bd253, Tryz.f253, List.getD_cons_zero, List.getD_cons_succ, List.nil_append, List.cons_append, List.append_nil] at hL
  rw [hand_fn (by kernel_rfl) (show env1.Q.fn 253 = some Tryz.f253 by kernel_rfl)]
  have fin : ∀ e' fr2, evCode env1 (hand env1 d).1 (hand env1 d).2 ⟨h.length, h.length⟩ 253 bd253 ⟨fr, ⟨[], h⟩⟩ = some (e', ⟨fr2, ⟨[], h⟩⟩) → (e' = .nrm ∨ e' = .ret) → ∀ n : Int, rd fr2 4 = .p (.i .i64 n) →
      evBody env1 (hand env1 d).1 (hand env1 d).2 K 253 Tryz.f253 [.p (es.v), .clo (.func 191) [] [.ptr k 0]] h = some (.p (.i .i64 n), h) := fun e' fr2 he hx n h4 =>
    body2 (fn := Tryz.f253) (code := bd253) rfl (by kernel_rfl) rfl (by show (2 : Nat) ≤ Tryz.f253.ntmps; decide) (by rw [hfr]; exact he) hx h4
  rcases hL with ⟨hin, hL, n, h4⟩ | ⟨hout, hL, hp'⟩
  · refine ⟨n, fin .ret fr' ?_ (.inr rfl) n h4, by rw [hin]; simp⟩
    simp (config := { maxDischargeDepth := 80 }) only [bd253, Tryz.f253, evCode, evReg, evL, wantedV, evOp, argOf, cp, binV, intBin, putF, rd_setF, Option.map_some, Option.bind_some, if_true, Bool.true_or, decide_true, toB, takeS_pf, takeS_c, if_false, Pf.p, Pf.lp, Pf.pt, Pf.cl, Pf.nv, List.all_cons, List.all_nil, Bool.and_true, constV, constCell, nf1, ld, getCells, List.length_cons, List.length_nil, Nat.reduceEqDiff, reduceIte, Nat.reduceAdd, Nat.reduceLeDiff, List.take_succ_cons, List.take_zero, List.drop_zero, ofCells, mkAgg, mapO, V.isP, Bool.false_or, beq_self_eq_true, Bool.false_eq_true, cpL, vc_agg, vc_pagg, vc_i, PV.cells, List.map_cons, List.map_nil, Nat.zero_add, List.getElem?_cons_zero, List.getElem?_cons_succ, ↓SL.cells, ↓SL.vcells, ↓SL.cellOk, evCall, evBuiltin, len253, g0, g1, hst, hm, and_self, Bool.or_self, hL]
  · refine ⟨-1, fin .ret (setF fr' 4 (.p (.i .i64 (-1)))) ?_ (.inr rfl) (-1) (by simp (config := { maxDischargeDepth := 80 }) only [evCode, evReg, evL, wantedV, evOp, argOf, cp, binV, intBin, putF, rd_setF, Option.map_some, Option.bind_some, if_true, Bool.true_or, decide_true, toB, takeS_pf, takeS_c, if_false, Pf.p, Pf.lp, Pf.pt, Pf.cl, Pf.nv, List.all_cons, List.all_nil, Bool.and_true, constV, constCell, nf1, ld, getCells, List.length_cons, List.length_nil, Nat.reduceEqDiff, reduceIte, Nat.reduceAdd, Nat.reduceLeDiff, List.take_succ_cons, List.take_zero, List.drop_zero, ofCells, mkAgg, mapO, V.isP, Bool.false_or, beq_self_eq_true, Bool.false_eq_true, cpL, vc_agg, vc_pagg, vc_i, PV.cells, List.map_cons, List.map_nil, Nat.zero_add, List.getElem?_cons_zero, List.getElem?_cons_succ, ↓SL.cells, ↓SL.vcells, ↓SL.cellOk]), by rw [hout]; rfl⟩
    simp (config := { maxDischargeDepth := 80 }) only [bd253, Tryz.f253, evCode, evReg, evL, wantedV, evOp, argOf, cp, binV, intBin, putF, rd_setF, Option.map_some, Option.bind_some, if_true, Bool.true_or, decide_true, toB, takeS_pf, takeS_c, if_false, Pf.p, Pf.lp, Pf.pt, Pf.cl, Pf.nv, List.all_cons, List.all_nil, Bool.and_true, constV, constCell, nf1, ld, getCells, List.length_cons, List.length_nil, Nat.reduceEqDiff, reduceIte, Nat.reduceAdd, Nat.reduceLeDiff, List.take_succ_cons, List.take_zero, List.drop_zero, ofCells, mkAgg, mapO, V.isP, Bool.false_or, beq_self_eq_true, Bool.false_eq_true, cpL, vc_agg, vc_pagg, vc_i, PV.cells, List.map_cons, List.map_nil, Nat.zero_add, List.getElem?_cons_zero, List.getElem?_cons_succ, ↓SL.cells, ↓SL.vcells, ↓SL.cellOk, evCall, evBuiltin, len253, g0, g1, hst, hm, and_self, Bool.or_self, hL]
theorem okb254 : okFn env1.Q 254 = true := by kernel_rfl
theorem tk254 : env1.tk 254 = [] := by kernel_rfl
theorem okb253 : okFn env1.Q 253 = true := by kernel_rfl
theorem tk253 : env1.tk 253 = [] := by kernel_rfl
theorem okb190 : okFn env1.Q 190 = true := by kernel_rfl
theorem tk190 : env1.tk 190 = [] := by kernel_rfl
theorem okb192 : okFn env1.Q 192 = true := by kernel_rfl
theorem tk192 : env1.tk 192 = [] := by kernel_rfl
theorem okb107 : okFn env1.Q 107 = true := by kernel_rfl
theorem tk107 : env1.tk 107 = [] := by kernel_rfl
theorem esc192 : env1.esc 192 3 = false := by kernel_rfl
theorem esc191 : env1.esc 191 2 = false := by kernel_rfl
theorem esc107 : env1.esc 107 3 = true := by kernel_rfl

noncomputable def bd192 : Code := match Tryz.f192.body with | some c => c | none => .skip

set_option maxRecDepth 100000 in
theorem run192 (es : SL) (x y : Int) (hes : ∀ e ∈ es.l, ∃ x y, e = t2 x y) (hb : es.l.length < 2 ^ 40) (h : Heap) (hm : Pm ⟨[], h⟩) (K : Ctx) (d : Nat) (hd : es.l.length + 3 ≤ d) :
    (hand env1 d).1 K 192 [.p (es.v), .p (.agg [.i .i64 x, .i .i64 y])] h = some (.p (.b (inL es.l (t2 x y))), h) := by
  obtain ⟨d, rfl⟩ : ∃ d', d = d' + 1 := ⟨d - 1, by omega⟩
  have hst : Pf (start [.p (es.v), .p (.agg [.i .i64 x, .i .i64 y])]) := Pf.start fun x hx => by
    simp only [List.mem_cons, List.mem_nil_iff, or_false] at hx
    rcases hx with rfl | rfl <;> rfl
  generalize hfr : start [.p (es.v), .p (.agg [.i .i64 x, .i .i64 y])] = fr at hst
  have g0 : rd fr 0 = .p (es.v) := by rw [← hfr, rd_start]; rfl
  have g1 : rd fr 1 = .p (.agg [.i .i64 x, .i .i64 y]) := by rw [← hfr, rd_start]; rfl
  obtain ⟨n, hn, hdec⟩ := run254' es (t2 x y) ⟨x, y, rfl⟩ hes hb h hm ⟨h.length, h.length⟩ d (by omega)
  simp only [t2] at hn
  have hdec' : decide (n ≥ (0 : Int)) = inL es.l (t2 x y) := hdec
  have hm1 : Pm ⟨[[.p (.i .i64 x), .p (.i .i64 y)]], h⟩ := ⟨(fun cs hc => by simp at hc; subst hc; rfl), hm.h⟩
  rw [hand_fn (by kernel_rfl) (show env1.Q.fn 192 = some Tryz.f192 by kernel_rfl)]
  have body : ∃ fr2 m2, evCode env1 (hand env1 d).1 (hand env1 d).2 ⟨h.length, h.length⟩ 192 bd192 ⟨fr, ⟨[], h⟩⟩ = some (.ret, ⟨fr2, m2⟩) ∧ rd fr2 4 = .p (.b (inL es.l (t2 x y))) := by
    simp (config := { maxDischargeDepth := 80 }) only [bd192, Tryz.f192, evCode, evReg, evL, wantedV, evOp, argOf, cp, binV, intBin, putF, rd_setF, Option.map_some, Option.bind_some, if_true, Bool.true_or, decide_true, toB, takeS_pf, takeS_c, if_false, Pf.p, Pf.lp, Pf.pt, Pf.cl, Pf.nv, List.all_cons, List.all_nil, Bool.and_true, constV, constCell, nf1, ld, getCells, List.length_cons, List.length_nil, Nat.reduceEqDiff, reduceIte, Nat.reduceAdd, Nat.reduceLeDiff, List.take_succ_cons, List.take_zero, List.drop_zero, ofCells, mkAgg, mapO, V.isP, Bool.false_or, beq_self_eq_true, Bool.false_eq_true, cpL, vc_agg, vc_pagg, vc_i, PV.cells, List.map_cons, List.map_nil, Nat.zero_add, List.getElem?_cons_zero, List.getElem?_cons_succ, ↓SL.cells, ↓SL.vcells, ↓SL.cellOk, g0, g1, hst, hm, evCall, lfL, lf, argsOf, List.contains_nil, ite_self, List.nil_append, List.cons_append, List.append_nil, and_self, okb254, tk254, hn, hdec', newVarV, esc192, V.cellOk, z193, a193, Option.getD_some, List.nil_append, Bool.or_self, unV, hm1]
    exact ⟨_, _, rfl, by simp (config := { maxDischargeDepth := 80 }) only [evCode, evReg, evL, wantedV, evOp, argOf, cp, binV, intBin, putF, rd_setF, Option.map_some, Option.bind_some, if_true, Bool.true_or, decide_true, toB, takeS_pf, takeS_c, if_false, Pf.p, Pf.lp, Pf.pt, Pf.cl, Pf.nv, List.all_cons, List.all_nil, Bool.and_true, constV, constCell, nf1, ld, getCells, List.length_cons, List.length_nil, Nat.reduceEqDiff, reduceIte, Nat.reduceAdd, Nat.reduceLeDiff, List.take_succ_cons, List.take_zero, List.drop_zero, ofCells, mkAgg, mapO, V.isP, Bool.false_or, beq_self_eq_true, Bool.false_eq_true, cpL, vc_agg, vc_pagg, vc_i, PV.cells, List.map_cons, List.map_nil, Nat.zero_add, List.getElem?_cons_zero, List.getElem?_cons_succ, ↓SL.cells, ↓SL.vcells, ↓SL.cellOk, g0, g1, hst, hm, evCall, lfL, lf, argsOf, List.contains_nil, ite_self, List.nil_append, List.cons_append, List.append_nil, and_self, okb254, tk254, hn, hdec', newVarV, esc192, V.cellOk, z193, a193, Option.getD_some, List.nil_append, Bool.or_self, unV, hm1]⟩
  obtain ⟨fr2, m2, he, hv⟩ := body
  exact body2 (fn := Tryz.f192) (code := bd192) rfl (by kernel_rfl) rfl (by show (2 : Nat) ≤ Tryz.f192.ntmps; decide) (by rw [hfr]; exact he) (.inr rfl) hv

noncomputable def bd191 : Code := match Tryz.f191.body with | some c => c | none => .skip

set_option maxRecDepth 100000 in
theorem run191 (es : SL) (x y : Int) (hes : ∀ e ∈ es.l, ∃ x y, e = t2 x y) (hb : es.l.length < 2 ^ 40) (h : Heap) (k : Nat) (hk : h[k]? = some (.var [.p (es.v)])) (hm : Pm ⟨[], h⟩) (K : Ctx) (d : Nat) (hd : es.l.length + 4 ≤ d) :
    (hand env1 d).1 K 191 [.p (.agg [.i .i64 x, .i .i64 y]), .ptr k 0] h = some (.p (.b (!inL es.l (t2 x y))), h) := by
  obtain ⟨d, rfl⟩ : ∃ d', d = d' + 1 := ⟨d - 1, by omega⟩
  have hst : Pf (start [.p (.agg [.i .i64 x, .i .i64 y]), .ptr k 0]) := Pf.start fun x hx => by
    simp only [List.mem_cons, List.mem_nil_iff, or_false] at hx
    rcases hx with rfl | rfl <;> rfl
  generalize hfr : start [.p (.agg [.i .i64 x, .i .i64 y]), .ptr k 0] = fr at hst
  have g0 : rd fr 0 = .p (.agg [.i .i64 x, .i .i64 y]) := by rw [← hfr, rd_start]; rfl
  have g1 : rd fr 1 = .ptr k 0 := by rw [← hfr, rd_start]; rfl
  have hn : (hand env1 d).1 ⟨h.length, h.length⟩ 192 [.p (es.v), .p (.agg [.i .i64 x, .i .i64 y])] h = some (.p (.b (inL es.l (t2 x y))), h) := run192 es x y hes hb h hm _ d (by omega)
  have hm1 : Pm ⟨[[.p (.i .i64 x), .p (.i .i64 y)]], h⟩ := ⟨(fun cs hc => by simp at hc; subst hc; rfl), hm.h⟩
  rw [hand_fn (by kernel_rfl) (show env1.Q.fn 191 = some Tryz.f191 by kernel_rfl)]
  have body : ∃ fr2 m2, evCode env1 (hand env1 d).1 (hand env1 d).2 ⟨h.length, h.length⟩ 191 bd191 ⟨fr, ⟨[], h⟩⟩ = some (.ret, ⟨fr2, m2⟩) ∧ rd fr2 3 = .p (.b (!inL es.l (t2 x y))) := by
    simp (config := { maxDischargeDepth := 80 }) only [bd191, Tryz.f191, evCode, evReg, evL, wantedV, evOp, argOf, cp, binV, intBin, putF, rd_setF, Option.map_some, Option.bind_some, if_true, Bool.true_or, decide_true, toB, takeS_pf, takeS_c, if_false, Pf.p, Pf.lp, Pf.pt, Pf.cl, Pf.nv, List.all_cons, List.all_nil, Bool.and_true, constV, constCell, nf1, ld, getCells, List.length_cons, List.length_nil, Nat.reduceEqDiff, reduceIte, Nat.reduceAdd, Nat.reduceLeDiff, List.take_succ_cons, List.take_zero, List.drop_zero, ofCells, mkAgg, mapO, V.isP, Bool.false_or, beq_self_eq_true, Bool.false_eq_true, cpL, vc_agg, vc_pagg, vc_i, PV.cells, List.map_cons, List.map_nil, Nat.zero_add, List.getElem?_cons_zero, List.getElem?_cons_succ, ↓SL.cells, ↓SL.vcells, ↓SL.cellOk, g0, g1, hst, hm, evCall, lfL, lf, argsOf, List.contains_nil, ite_self, List.nil_append, List.cons_append, List.append_nil, and_self, unV, hk, okb192, tk192, hn, z75, a75, newVarV, esc191, V.cellOk, z193, a193, Option.getD_some, List.nil_append, Bool.or_self, hm1]
    exact ⟨_, _, rfl, by simp (config := { maxDischargeDepth := 80 }) only [evCode, evReg, evL, wantedV, evOp, argOf, cp, binV, intBin, putF, rd_setF, Option.map_some, Option.bind_some, if_true, Bool.true_or, decide_true, toB, takeS_pf, takeS_c, if_false, Pf.p, Pf.lp, Pf.pt, Pf.cl, Pf.nv, List.all_cons, List.all_nil, Bool.and_true, constV, constCell, nf1, ld, getCells, List.length_cons, List.length_nil, Nat.reduceEqDiff, reduceIte, Nat.reduceAdd, Nat.reduceLeDiff, List.take_succ_cons, List.take_zero, List.drop_zero, ofCells, mkAgg, mapO, V.isP, Bool.false_or, beq_self_eq_true, Bool.false_eq_true, cpL, vc_agg, vc_pagg, vc_i, PV.cells, List.map_cons, List.map_nil, Nat.zero_add, List.getElem?_cons_zero, List.getElem?_cons_succ, ↓SL.cells, ↓SL.vcells, ↓SL.cellOk, g0, g1, hst, hm, evCall, lfL, lf, argsOf, List.contains_nil, ite_self, List.nil_append, List.cons_append, List.append_nil, and_self, unV, hk, okb192, tk192, hn, z75, a75, newVarV, esc191, V.cellOk, z193, a193, Option.getD_some, List.nil_append, Bool.or_self, hm1]⟩
  obtain ⟨fr2, m2, he, hv⟩ := body
  exact body2 (fn := Tryz.f191) (code := bd191) rfl (by kernel_rfl) rfl (by show (2 : Nat) ≤ Tryz.f191.ntmps; decide) (by rw [hfr]; exact he) (.inr rfl) hv

noncomputable def bd190 : Code := match Tryz.f190.body with | some c => c | none => .skip

set_option maxRecDepth 100000 in
theorem run190 (es : SL) (hes : ∀ e ∈ es.l, ∃ x y, e = t2 x y) (hb : es.l.length < 2 ^ 40) (h : Heap) (hm : Pm ⟨[], h⟩) (k : Nat) (hk : k < h.length) (r : PV → Bool) (d0 : Nat) (hC : ∀ d K e, d0 ≤ d → e ∈ es.l → (hand env1 d).1 K 191 [.p e, .ptr k 0] h = some (.p (.b (r e)), h)) (K : Ctx) (d : Nat) (hd : d0 + es.l.length + 3 ≤ d) :
    (hand env1 d).1 K 190 [.p (es.v), .clo (.func 191) [] [.ptr k 0]] h = some (.p (.b (es.l.any r)), h) := by
  obtain ⟨d, rfl⟩ : ∃ d', d = d' + 1 := ⟨d - 1, by omega⟩
  have hst : Pf (start [.p (es.v), .clo (.func 191) [] [.ptr k 0]]) := Pf.start fun x hx => by
    simp only [List.mem_cons, List.mem_nil_iff, or_false] at hx
    rcases hx with rfl | rfl <;> rfl
  generalize hfr : start [.p (es.v), .clo (.func 191) [] [.ptr k 0]] = fr at hst
  have g0 : rd fr 0 = .p (es.v) := by rw [← hfr, rd_start]; rfl
  have g1 : rd fr 1 = .clo (.func 191) [] [.ptr k 0] := by rw [← hfr, rd_start]; rfl
  obtain ⟨n, hn, hdec⟩ := run253 es hes hb h hm k hk r d0 hC ⟨h.length, h.length⟩ d (by omega)
  have hdec' : decide (n ≥ (0 : Int)) = es.l.any r := hdec
  rw [hand_fn (by kernel_rfl) (show env1.Q.fn 190 = some Tryz.f190 by kernel_rfl)]
  have body : ∃ fr2 m2, evCode env1 (hand env1 d).1 (hand env1 d).2 ⟨h.length, h.length⟩ 190 bd190 ⟨fr, ⟨[], h⟩⟩ = some (.ret, ⟨fr2, m2⟩) ∧ rd fr2 4 = .p (.b (es.l.any r)) := by
    simp (config := { maxDischargeDepth := 80 }) only [bd190, Tryz.f190, evCode, evReg, evL, wantedV, evOp, argOf, cp, binV, intBin, putF, rd_setF, Option.map_some, Option.bind_some, if_true, Bool.true_or, decide_true, toB, takeS_pf, takeS_c, if_false, Pf.p, Pf.lp, Pf.pt, Pf.cl, Pf.nv, List.all_cons, List.all_nil, Bool.and_true, constV, constCell, nf1, ld, getCells, List.length_cons, List.length_nil, Nat.reduceEqDiff, reduceIte, Nat.reduceAdd, Nat.reduceLeDiff, List.take_succ_cons, List.take_zero, List.drop_zero, ofCells, mkAgg, mapO, V.isP, Bool.false_or, beq_self_eq_true, Bool.false_eq_true, cpL, vc_agg, vc_pagg, vc_i, PV.cells, List.map_cons, List.map_nil, Nat.zero_add, List.getElem?_cons_zero, List.getElem?_cons_succ, ↓SL.cells, ↓SL.vcells, ↓SL.cellOk, g0, g1, hst, hm, evCall, lfL, lf, argsOf, List.contains_nil, ite_self, List.nil_append, List.cons_append, List.append_nil, and_self, okb253, tk253, hn, hdec', lfL, lf]
    exact ⟨_, _, rfl, by simp (config := { maxDischargeDepth := 80 }) only [evCode, evReg, evL, wantedV, evOp, argOf, cp, binV, intBin, putF, rd_setF, Option.map_some, Option.bind_some, if_true, Bool.true_or, decide_true, toB, takeS_pf, takeS_c, if_false, Pf.p, Pf.lp, Pf.pt, Pf.cl, Pf.nv, List.all_cons, List.all_nil, Bool.and_true, constV, constCell, nf1, ld, getCells, List.length_cons, List.length_nil, Nat.reduceEqDiff, reduceIte, Nat.reduceAdd, Nat.reduceLeDiff, List.take_succ_cons, List.take_zero, List.drop_zero, ofCells, mkAgg, mapO, V.isP, Bool.false_or, beq_self_eq_true, Bool.false_eq_true, cpL, vc_agg, vc_pagg, vc_i, PV.cells, List.map_cons, List.map_nil, Nat.zero_add, List.getElem?_cons_zero, List.getElem?_cons_succ, ↓SL.cells, ↓SL.vcells, ↓SL.cellOk, g0, g1, hst, hm, evCall, lfL, lf, argsOf, List.contains_nil, ite_self, List.nil_append, List.cons_append, List.append_nil, and_self, okb253, tk253, hn, hdec', lfL, lf]⟩
  obtain ⟨fr2, m2, he, hv⟩ := body
  exact body2 (fn := Tryz.f190) (code := bd190) rfl (by kernel_rfl) rfl (by show (2 : Nat) ≤ Tryz.f190.ntmps; decide) (by rw [hfr]; exact he) (.inr rfl) hv

noncomputable def bd107 : Code := match Tryz.f107.body with | some c => c | none => .skip

set_option maxRecDepth 100000 in
theorem run107 (es bs : SL) (hes : ∀ e ∈ es.l, ∃ x y, e = t2 x y) (hb : es.l.length < 2 ^ 40) (hbs : ∀ e ∈ bs.l, ∃ x y, e = t2 x y) (hbb : bs.l.length < 2 ^ 40) (h : Heap) (hm : Pm ⟨[], h⟩) (K : Ctx) (d : Nat) (hd : bs.l.length + es.l.length + 8 ≤ d) :
    (hand env1 d).1 K 107 [.p (es.v), .p (bs.v)] h = some (.p (.b (allL es.l bs.l)), h) := by
  obtain ⟨d, rfl⟩ : ∃ d', d = d' + 1 := ⟨d - 1, by omega⟩
  have hst : Pf (start [.p (es.v), .p (bs.v)]) := Pf.start fun x hx => by
    simp only [List.mem_cons, List.mem_nil_iff, or_false] at hx
    rcases hx with rfl | rfl <;> rfl
  generalize hfr : start [.p (es.v), .p (bs.v)] = fr at hst
  have g0 : rd fr 0 = .p (es.v) := by rw [← hfr, rd_start]; rfl
  have g1 : rd fr 1 = .p (bs.v) := by rw [← hfr, rd_start]; rfl
  have hm1 : Pm ⟨[], h ++ [.var [.p (bs.v)]]⟩ := ⟨hm.l, fun x hx => by
    rcases List.mem_append.1 hx with hx | hx
    · exact hm.h x hx
    · simp at hx; subst hx; rfl⟩
  have hn : (hand env1 d).1 ⟨h.length, h.length⟩ 190 [.p (es.v), .clo (.func 191) [] [.ptr h.length 0]] (h ++ [.var [.p (bs.v)]]) = some (.p (.b (es.l.any fun e => !inL bs.l e)), h ++ [.var [.p (bs.v)]]) :=
    run190 es hes hb _ hm1 h.length (by simp) (fun e => !inL bs.l e) (bs.l.length + 4) (fun d K e hd he => by
      obtain ⟨x, y, rfl⟩ := hes e he
      exact run191 bs x y hbs hbb _ h.length (by simp) hm1 K d hd) _ d (by omega)
  have hall : (!es.l.any fun e => !inL bs.l e) = allL es.l bs.l := by unfold allL; rw [List.not_any_eq_all_not]; simp
  rw [hand_fn (by kernel_rfl) (show env1.Q.fn 107 = some Tryz.f107 by kernel_rfl)]
  have body : ∃ fr2 m2, evCode env1 (hand env1 d).1 (hand env1 d).2 ⟨h.length, h.length⟩ 107 bd107 ⟨fr, ⟨[], h⟩⟩ = some (.ret, ⟨fr2, m2⟩) ∧ rd fr2 4 = .p (.b (allL es.l bs.l)) := by
    simp (config := { maxDischargeDepth := 80 }) only [bd107, Tryz.f107, evCode, evReg, evL, wantedV, evOp, argOf, cp, binV, intBin, putF, rd_setF, Option.map_some, Option.bind_some, if_true, Bool.true_or, decide_true, toB, takeS_pf, takeS_c, if_false, Pf.p, Pf.lp, Pf.pt, Pf.cl, Pf.nv, List.all_cons, List.all_nil, Bool.and_true, constV, constCell, nf1, ld, getCells, List.length_cons, List.length_nil, Nat.reduceEqDiff, reduceIte, Nat.reduceAdd, Nat.reduceLeDiff, List.take_succ_cons, List.take_zero, List.drop_zero, ofCells, mkAgg, mapO, V.isP, Bool.false_or, beq_self_eq_true, Bool.false_eq_true, cpL, vc_agg, vc_pagg, vc_i, PV.cells, List.map_cons, List.map_nil, Nat.zero_add, List.getElem?_cons_zero, List.getElem?_cons_succ, ↓SL.cells, ↓SL.vcells, ↓SL.cellOk, g0, g1, hst, hm, evCall, lfL, lf, argsOf, List.contains_nil, ite_self, List.nil_append, List.cons_append, List.append_nil, and_self, okb190, tk190, hn, hall, unV, newVarV, esc107, V.cellOk, z75, a75, Option.getD_some, List.nil_append, Bool.or_true, hm1, List.map_nil, List.map_cons, Array.toList]
    exact ⟨_, _, rfl, by simp (config := { maxDischargeDepth := 80 }) only [evCode, evReg, evL, wantedV, evOp, argOf, cp, binV, intBin, putF, rd_setF, Option.map_some, Option.bind_some, if_true, Bool.true_or, decide_true, toB, takeS_pf, takeS_c, if_false, Pf.p, Pf.lp, Pf.pt, Pf.cl, Pf.nv, List.all_cons, List.all_nil, Bool.and_true, constV, constCell, nf1, ld, getCells, List.length_cons, List.length_nil, Nat.reduceEqDiff, reduceIte, Nat.reduceAdd, Nat.reduceLeDiff, List.take_succ_cons, List.take_zero, List.drop_zero, ofCells, mkAgg, mapO, V.isP, Bool.false_or, beq_self_eq_true, Bool.false_eq_true, cpL, vc_agg, vc_pagg, vc_i, PV.cells, List.map_cons, List.map_nil, Nat.zero_add, List.getElem?_cons_zero, List.getElem?_cons_succ, ↓SL.cells, ↓SL.vcells, ↓SL.cellOk, g0, g1, hst, hm, evCall, lfL, lf, argsOf, List.contains_nil, ite_self, List.nil_append, List.cons_append, List.append_nil, and_self, okb190, tk190, hn, hall, unV, newVarV, esc107, V.cellOk, z75, a75, Option.getD_some, List.nil_append, Bool.or_true, hm1, List.map_nil, List.map_cons, Array.toList]⟩
  obtain ⟨fr2, m2, he, hv⟩ := body
  exact body2 (fn := Tryz.f107) (code := bd107) rfl (by kernel_rfl) rfl (by show (2 : Nat) ≤ Tryz.f107.ntmps; decide) (by rw [hfr]; exact he) (.inr rfl) hv

noncomputable def bd110 : Code := match Tryz.f110.body with | some c => c | none => .skip
noncomputable def lp110_0 : Code := (loopsOf bd110).getD 0 .skip
theorem len110 (h : Heap) (es : SL) : lenB env1.Q h 75 (.p (es.v)) = some (.p (.i .i64 es.l.length)) := by obtain ⟨l, b⟩ := es; cases b <;> cases l <;> kernel_rfl
theorem esc110 : env1.esc 110 3 = false := by kernel_rfl

set_option maxRecDepth 100000 in
theorem round110_0 (C : Handler) (L : LHandler) (K : Ctx) (fr : Fr) (h : Heap) (es : SL) (i : Nat) (a b : Int) (x y : Int) (hi : es.l[i]? = some (t2 x y)) (hb : es.l.length < 2 ^ 40)  (hp : Pf fr) (hm : Pm ⟨[[.p (.i .i64 a), .p (.i .i64 b)]], h⟩) (hR : RD fr [(0, .p (es.v)), (3, .lptr 0 0), (5, .p (.i .i64 i))]) :
    ∃ fr', evCode env1 C L K 110 lp110_0 ⟨fr, ⟨[[.p (.i .i64 a), .p (.i .i64 b)]], h⟩⟩ = some (if (decide (x = a ∧ y = b)) then .ret else .nrm, ⟨fr', ⟨[[.p (.i .i64 a), .p (.i .i64 b)]], h⟩⟩) ∧ Pf fr' ∧ ((decide (x = a ∧ y = b)) = true → rd fr' 4 = .p (.b true)) ∧ ((decide (x = a ∧ y = b)) = false → RD fr' [(0, .p (es.v)), (3, .lptr 0 0), (5, .p (.i .i64 (i + 1 : Nat)))]) := by
  simp only [RD, and_true] at hR
  obtain ⟨h0, h3, h5⟩ := hR
  have hlt : i < es.l.length := lt_of_get hi
  have hlt' : (i : Int) < (es.l.length : Int) := by omega
  have hix := ixa254 (h := h) hi
  have hw := wrap_nat hlt hb
  unfold lp110_0
  simp (config := { maxDischargeDepth := 80 }) only [loopsOf, bd110, Tryz.f110, List.getD_cons_zero, List.getD_cons_succ, List.nil_append, List.cons_append, List.append_nil, evCode, evReg, evL, wantedV, evOp, argOf, cp, binV, intBin, putF, rd_setF, Option.map_some, Option.bind_some, if_true, Bool.true_or, decide_true, toB, takeS_pf, takeS_c, if_false, Pf.p, Pf.lp, Pf.pt, Pf.cl, Pf.nv, List.all_cons, List.all_nil, Bool.and_true, constV, constCell, nf1, ld, getCells, List.length_cons, List.length_nil, Nat.reduceEqDiff, reduceIte, Nat.reduceAdd, Nat.reduceLeDiff, List.take_succ_cons, List.take_zero, List.drop_zero, ofCells, mkAgg, mapO, V.isP, Bool.false_or, beq_self_eq_true, Bool.false_eq_true, cpL, vc_agg, vc_pagg, vc_i, PV.cells, List.map_cons, List.map_nil, Nat.zero_add, List.getElem?_cons_zero, List.getElem?_cons_succ, ↓SL.cells, ↓SL.vcells, ↓SL.cellOk, h0, h3, h5, hix, hlt', evCall, evBuiltin, len110, u75, z193, a193, eq193, hp, hm]
  rw [evRegD]
  rotate_left
  · rfl
  · kernel_rfl
  simp (config := { maxDischargeDepth := 80 }) only [evCode, evReg, evL, wantedV, evOp, argOf, cp, binV, intBin, putF, rd_setF, Option.map_some, Option.bind_some, if_true, Bool.true_or, decide_true, toB, takeS_pf, takeS_c, if_false, Pf.p, Pf.lp, Pf.pt, Pf.cl, Pf.nv, List.all_cons, List.all_nil, Bool.and_true, constV, constCell, nf1, ld, getCells, List.length_cons, List.length_nil, Nat.reduceEqDiff, reduceIte, Nat.reduceAdd, Nat.reduceLeDiff, List.take_succ_cons, List.take_zero, List.drop_zero, ofCells, mkAgg, mapO, V.isP, Bool.false_or, beq_self_eq_true, Bool.false_eq_true, cpL, vc_agg, vc_pagg, vc_i, PV.cells, List.map_cons, List.map_nil, Nat.zero_add, List.getElem?_cons_zero, List.getElem?_cons_succ, ↓SL.cells, ↓SL.vcells, ↓SL.cellOk, h0, h3, h5, hix, hlt', evCall, evBuiltin, len110, u75, z193, a193, eq193, hp, hm]
  cases hE : (decide (x = a ∧ y = b))
  · simp (config := { maxDischargeDepth := 80 }) only [hE, Bool.not_true, Bool.not_false, if_true, if_false, evCode, evReg, evL, wantedV, evOp, argOf, cp, binV, intBin, putF, rd_setF, Option.map_some, Option.bind_some, if_true, Bool.true_or, decide_true, toB, takeS_pf, takeS_c, if_false, Pf.p, Pf.lp, Pf.pt, Pf.cl, Pf.nv, List.all_cons, List.all_nil, Bool.and_true, constV, constCell, nf1, ld, getCells, List.length_cons, List.length_nil, Nat.reduceEqDiff, reduceIte, Nat.reduceAdd, Nat.reduceLeDiff, List.take_succ_cons, List.take_zero, List.drop_zero, ofCells, mkAgg, mapO, V.isP, Bool.false_or, beq_self_eq_true, Bool.false_eq_true, cpL, vc_agg, vc_pagg, vc_i, PV.cells, List.map_cons, List.map_nil, Nat.zero_add, List.getElem?_cons_zero, List.getElem?_cons_succ, ↓SL.cells, ↓SL.vcells, ↓SL.cellOk, h0, h3, h5, hix, hlt', evCall, evBuiltin, len110, u75, z193, a193, eq193, hp, hm]
    refine ⟨_, rfl, ?_, fun h => (by cases h), fun _ => ?_⟩
    · simp (config := { maxDischargeDepth := 80 }) only [evCode, evReg, evL, wantedV, evOp, argOf, cp, binV, intBin, putF, rd_setF, Option.map_some, Option.bind_some, if_true, Bool.true_or, decide_true, toB, takeS_pf, takeS_c, if_false, Pf.p, Pf.lp, Pf.pt, Pf.cl, Pf.nv, List.all_cons, List.all_nil, Bool.and_true, constV, constCell, nf1, ld, getCells, List.length_cons, List.length_nil, Nat.reduceEqDiff, reduceIte, Nat.reduceAdd, Nat.reduceLeDiff, List.take_succ_cons, List.take_zero, List.drop_zero, ofCells, mkAgg, mapO, V.isP, Bool.false_or, beq_self_eq_true, Bool.false_eq_true, cpL, vc_agg, vc_pagg, vc_i, PV.cells, List.map_cons, List.map_nil, Nat.zero_add, List.getElem?_cons_zero, List.getElem?_cons_succ, ↓SL.cells, ↓SL.vcells, ↓SL.cellOk, h0, h3, h5, hix, hlt', evCall, evBuiltin, len110, u75, z193, a193, eq193, hp, hm]
    · simp (config := { maxDischargeDepth := 80 }) only [RD, evCode, evReg, evL, wantedV, evOp, argOf, cp, binV, intBin, putF, rd_setF, Option.map_some, Option.bind_some, if_true, Bool.true_or, decide_true, toB, takeS_pf, takeS_c, if_false, Pf.p, Pf.lp, Pf.pt, Pf.cl, Pf.nv, List.all_cons, List.all_nil, Bool.and_true, constV, constCell, nf1, ld, getCells, List.length_cons, List.length_nil, Nat.reduceEqDiff, reduceIte, Nat.reduceAdd, Nat.reduceLeDiff, List.take_succ_cons, List.take_zero, List.drop_zero, ofCells, mkAgg, mapO, V.isP, Bool.false_or, beq_self_eq_true, Bool.false_eq_true, cpL, vc_agg, vc_pagg, vc_i, PV.cells, List.map_cons, List.map_nil, Nat.zero_add, List.getElem?_cons_zero, List.getElem?_cons_succ, ↓SL.cells, ↓SL.vcells, ↓SL.cellOk, h0, h3, h5, hix, hlt', evCall, evBuiltin, len110, u75, z193, a193, eq193, hp, hm, hw, and_self]
  · simp (config := { maxDischargeDepth := 80 }) only [hE, Bool.not_true, Bool.not_false, if_true, if_false, evCode, evReg, evL, wantedV, evOp, argOf, cp, binV, intBin, putF, rd_setF, Option.map_some, Option.bind_some, if_true, Bool.true_or, decide_true, toB, takeS_pf, takeS_c, if_false, Pf.p, Pf.lp, Pf.pt, Pf.cl, Pf.nv, List.all_cons, List.all_nil, Bool.and_true, constV, constCell, nf1, ld, getCells, List.length_cons, List.length_nil, Nat.reduceEqDiff, reduceIte, Nat.reduceAdd, Nat.reduceLeDiff, List.take_succ_cons, List.take_zero, List.drop_zero, ofCells, mkAgg, mapO, V.isP, Bool.false_or, beq_self_eq_true, Bool.false_eq_true, cpL, vc_agg, vc_pagg, vc_i, PV.cells, List.map_cons, List.map_nil, Nat.zero_add, List.getElem?_cons_zero, List.getElem?_cons_succ, ↓SL.cells, ↓SL.vcells, ↓SL.cellOk, h0, h3, h5, hix, hlt', evCall, evBuiltin, len110, u75, z193, a193, eq193, hp, hm]
    refine ⟨_, rfl, ?_, fun _ => ?_, fun h => (by cases h)⟩
    · simp (config := { maxDischargeDepth := 80 }) only [evCode, evReg, evL, wantedV, evOp, argOf, cp, binV, intBin, putF, rd_setF, Option.map_some, Option.bind_some, if_true, Bool.true_or, decide_true, toB, takeS_pf, takeS_c, if_false, Pf.p, Pf.lp, Pf.pt, Pf.cl, Pf.nv, List.all_cons, List.all_nil, Bool.and_true, constV, constCell, nf1, ld, getCells, List.length_cons, List.length_nil, Nat.reduceEqDiff, reduceIte, Nat.reduceAdd, Nat.reduceLeDiff, List.take_succ_cons, List.take_zero, List.drop_zero, ofCells, mkAgg, mapO, V.isP, Bool.false_or, beq_self_eq_true, Bool.false_eq_true, cpL, vc_agg, vc_pagg, vc_i, PV.cells, List.map_cons, List.map_nil, Nat.zero_add, List.getElem?_cons_zero, List.getElem?_cons_succ, ↓SL.cells, ↓SL.vcells, ↓SL.cellOk, h0, h3, h5, hix, hlt', evCall, evBuiltin, len110, u75, z193, a193, eq193, hp, hm]
    · simp (config := { maxDischargeDepth := 80 }) only [evCode, evReg, evL, wantedV, evOp, argOf, cp, binV, intBin, putF, rd_setF, Option.map_some, Option.bind_some, if_true, Bool.true_or, decide_true, toB, takeS_pf, takeS_c, if_false, Pf.p, Pf.lp, Pf.pt, Pf.cl, Pf.nv, List.all_cons, List.all_nil, Bool.and_true, constV, constCell, nf1, ld, getCells, List.length_cons, List.length_nil, Nat.reduceEqDiff, reduceIte, Nat.reduceAdd, Nat.reduceLeDiff, List.take_succ_cons, List.take_zero, List.drop_zero, ofCells, mkAgg, mapO, V.isP, Bool.false_or, beq_self_eq_true, Bool.false_eq_true, cpL, vc_agg, vc_pagg, vc_i, PV.cells, List.map_cons, List.map_nil, Nat.zero_add, List.getElem?_cons_zero, List.getElem?_cons_succ, ↓SL.cells, ↓SL.vcells, ↓SL.cellOk, h0, h3, h5, hix, hlt', evCall, evBuiltin, len110, u75, z193, a193, eq193, hp, hm]

set_option maxRecDepth 100000 in
theorem exit110_0 (C : Handler) (L : LHandler) (K : Ctx) (fr : Fr) (h : Heap) (es : SL) (a b : Int) (hp : Pf fr) (hm : Pm ⟨[[.p (.i .i64 a), .p (.i .i64 b)]], h⟩) (hR : RD fr [(0, .p (es.v)), (3, .lptr 0 0), (5, .p (.i .i64 es.l.length))]) :
    ∃ fr', evCode env1 C L K 110 lp110_0 ⟨fr, ⟨[[.p (.i .i64 a), .p (.i .i64 b)]], h⟩⟩ = some (.ext 0, ⟨fr', ⟨[[.p (.i .i64 a), .p (.i .i64 b)]], h⟩⟩) ∧ Pf fr' ∧ RD fr' [] := by
  simp only [RD, and_true] at hR
  obtain ⟨h0, h3, h5⟩ := hR
  have hn : ¬ ((es.l.length : Int) < (es.l.length : Int)) := by omega
  unfold lp110_0
  simp (config := { maxDischargeDepth := 80 }) only [loopsOf, bd110, Tryz.f110, List.getD_cons_zero, List.getD_cons_succ, List.nil_append, List.cons_append, List.append_nil, evCode, evReg, evL, wantedV, evOp, argOf, cp, binV, intBin, putF, rd_setF, Option.map_some, Option.bind_some, if_true, Bool.true_or, decide_true, toB, takeS_pf, takeS_c, if_false, Pf.p, Pf.lp, Pf.pt, Pf.cl, Pf.nv, List.all_cons, List.all_nil, Bool.and_true, constV, constCell, nf1, ld, getCells, List.length_cons, List.length_nil, Nat.reduceEqDiff, reduceIte, Nat.reduceAdd, Nat.reduceLeDiff, List.take_succ_cons, List.take_zero, List.drop_zero, ofCells, mkAgg, mapO, V.isP, Bool.false_or, beq_self_eq_true, Bool.false_eq_true, cpL, vc_agg, vc_pagg, vc_i, PV.cells, List.map_cons, List.map_nil, Nat.zero_add, List.getElem?_cons_zero, List.getElem?_cons_succ, ↓SL.cells, ↓SL.vcells, ↓SL.cellOk, h0, h3, h5, evCall, evBuiltin, len110, hp, hm, hn, decide_false]
  exact ⟨_, rfl, by simp (config := { maxDischargeDepth := 80 }) only [evCode, evReg, evL, wantedV, evOp, argOf, cp, binV, intBin, putF, rd_setF, Option.map_some, Option.bind_some, if_true, Bool.true_or, decide_true, toB, takeS_pf, takeS_c, if_false, Pf.p, Pf.lp, Pf.pt, Pf.cl, Pf.nv, List.all_cons, List.all_nil, Bool.and_true, constV, constCell, nf1, ld, getCells, List.length_cons, List.length_nil, Nat.reduceEqDiff, reduceIte, Nat.reduceAdd, Nat.reduceLeDiff, List.take_succ_cons, List.take_zero, List.drop_zero, ofCells, mkAgg, mapO, V.isP, Bool.false_or, beq_self_eq_true, Bool.false_eq_true, cpL, vc_agg, vc_pagg, vc_i, PV.cells, List.map_cons, List.map_nil, Nat.zero_add, List.getElem?_cons_zero, List.getElem?_cons_succ, ↓SL.cells, ↓SL.vcells, ↓SL.cellOk, h0, h3, h5, evCall, evBuiltin, len110, hp, hm], by simp (config := { maxDischargeDepth := 80 }) only [RD, evCode, evReg, evL, wantedV, evOp, argOf, cp, binV, intBin, putF, rd_setF, Option.map_some, Option.bind_some, if_true, Bool.true_or, decide_true, toB, takeS_pf, takeS_c, if_false, Pf.p, Pf.lp, Pf.pt, Pf.cl, Pf.nv, List.all_cons, List.all_nil, Bool.and_true, constV, constCell, nf1, ld, getCells, List.length_cons, List.length_nil, Nat.reduceEqDiff, reduceIte, Nat.reduceAdd, Nat.reduceLeDiff, List.take_succ_cons, List.take_zero, List.drop_zero, ofCells, mkAgg, mapO, V.isP, Bool.false_or, beq_self_eq_true, Bool.false_eq_true, cpL, vc_agg, vc_pagg, vc_i, PV.cells, List.map_cons, List.map_nil, Nat.zero_add, List.getElem?_cons_zero, List.getElem?_cons_succ, ↓SL.cells, ↓SL.vcells, ↓SL.cellOk, h0, h3, h5, evCall, evBuiltin, len110, hp, hm, and_self]⟩

theorem loop110_0 (es : SL) (a b : Int) (hes : ∀ e ∈ es.l, ∃ x y, e = t2 x y) (hb : es.l.length < 2 ^ 40) (h : Heap) (hm : Pm ⟨[[.p (.i .i64 a), .p (.i .i64 b)]], h⟩)  (K : Ctx) (fr : Fr) (d : Nat) (hd : 0 + es.l.length + 1 ≤ d) (hp : Pf fr) (hR : RD fr [(0, .p (es.v)), (3, .lptr 0 0), (5, .p (.i .i64 0))]) :
    ∃ fr', (es.l.any (eqP (t2 a b)) = true ∧ (hand env1 d).2 K 110 lp110_0 ⟨fr, ⟨[[.p (.i .i64 a), .p (.i .i64 b)]], h⟩⟩ = some (.ret, ⟨fr', ⟨[[.p (.i .i64 a), .p (.i .i64 b)]], h⟩⟩) ∧ ∃ i : Nat, rd fr' 4 = .p (.b true)) ∨ (es.l.any (eqP (t2 a b)) = false ∧ (hand env1 d).2 K 110 lp110_0 ⟨fr, ⟨[[.p (.i .i64 a), .p (.i .i64 b)]], h⟩⟩ = some (.ext 0, ⟨fr', ⟨[[.p (.i .i64 a), .p (.i .i64 b)]], h⟩⟩) ∧ Pf fr' ∧ RD fr' []) := by
  have key := loop_find (E := env1) (K := K) (f := 110) (body := lp110_0) (m := ⟨[[.p (.i .i64 a), .p (.i .i64 b)]], h⟩) (by kernel_rfl) (fun cs hcs => by
      simp only [List.mem_cons, List.mem_nil_iff, or_false] at hcs
      rcases hcs with rfl
      · exact ⟨[.i .i64 a, .i .i64 b], rfl⟩) es.l.length 0 0 (fun i fr => Pf fr ∧ RD fr [(0, .p (es.v)), (3, .lptr 0 0), (5, .p (.i .i64 i))]) (fun fr => ∃ i : Nat, rd fr 4 = .p (.b true)) (fun fr => Pf fr ∧ RD fr []) (fun i => (es.l[i]?).any (eqP (t2 a b)))
    (fun d i fr hd hi ⟨hp, hR⟩ => by
      obtain ⟨x, y, he⟩ := hes es.l[i] (by simp)
      have hi' : es.l[i]? = some (t2 x y) := by rw [List.getElem?_eq_getElem hi, he]
      have hin : t2 x y ∈ es.l := List.mem_of_getElem? hi'
      obtain ⟨fr', e, hp', q1, q2⟩ := round110_0 (hand env1 d).1 (hand env1 d).2 ⟨K.ro, h.length⟩ (mask (env1.nvs 110) fr) h es i a b x y hi' hb (hp.mask _) hm (hR.mask (by kernel_rfl))
      refine ⟨fr', ?_⟩
      simp only [hi', Option.any_some]
      have hr0 : ((eqP (t2 a b))) (t2 x y) = ((decide (x = a ∧ y = b))) := by unfold eqP t2; simp [eq_comm]
      rw [hr0]
      cases hr : ((decide (x = a ∧ y = b))) with
      | true => rw [hr] at e q1; exact .inl ⟨rfl, e, i, q1 rfl⟩
      | false => rw [hr] at e q2; exact .inr ⟨rfl, e, hp'.drop _ _ _, (q2 rfl).drop (by kernel_rfl)⟩)
    (fun d fr hd ⟨hp, hR⟩ => exit110_0 (hand env1 d).1 (hand env1 d).2 ⟨K.ro, h.length⟩ (mask (env1.nvs 110) fr) h es a b (hp.mask _) hm (hR.mask (by kernel_rfl)))
  obtain ⟨fr', h1 | h1⟩ := key es.l.length 0 fr d (by omega) (by omega) ⟨hp, hR⟩
  · refine ⟨fr', .inl ⟨?_, h1.2⟩⟩
    obtain ⟨j, _, hj, h2⟩ := h1.1
    rw [List.getElem?_eq_getElem hj] at h2
    exact List.any_eq_true.2 ⟨es.l[j], by simp, h2⟩
  · refine ⟨fr', .inr ⟨?_, h1.2⟩⟩
    rw [List.any_eq_false]
    intro x hx
    obtain ⟨j, hj, rfl⟩ := List.mem_iff_getElem.1 hx
    have := h1.1 j (by omega) hj
    rw [List.getElem?_eq_getElem hj] at this
    simpa using this

set_option maxRecDepth 100000 in
theorem run110 (es : SL) (a b : Int) (hes : ∀ e ∈ es.l, ∃ x y, e = t2 x y) (hb : es.l.length < 2 ^ 40) (h : Heap) (hm : Pm ⟨[], h⟩) (K : Ctx) (d : Nat) (hd : es.l.length + 2 ≤ d) :
    (hand env1 d).1 K 110 [.p (es.v), .p (.agg [.i .i64 a, .i .i64 b])] h = some (.p (.b (inL es.l (t2 a b))), h) := by
  obtain ⟨d, rfl⟩ : ∃ d', d = d' + 1 := ⟨d - 1, by omega⟩
  have hst : Pf (start [.p (es.v), .p (.agg [.i .i64 a, .i .i64 b])]) := Pf.start fun x hx => by
    simp only [List.mem_cons, List.mem_nil_iff, or_false] at hx
    rcases hx with rfl | rfl <;> rfl
  generalize hfr : start [.p (es.v), .p (.agg [.i .i64 a, .i .i64 b])] = fr at hst
  have g0 : rd fr 0 = .p (es.v) := by rw [← hfr, rd_start]; rfl
  have g1 : rd fr 1 = .p (.agg [.i .i64 a, .i .i64 b]) := by rw [← hfr, rd_start]; rfl
  have hm1 : Pm ⟨[[.p (.i .i64 a), .p (.i .i64 b)]], h⟩ := ⟨(fun cs hc => by simp at hc; subst hc; rfl), hm.h⟩
  obtain ⟨fr', hL⟩ := loop110_0 es a b hes hb h hm1 ⟨h.length, h.length⟩ (setF (setF (setF fr 3 (.lptr 0 0)) 4 (.p (.b false))) 5 (.p (.i .i64 0))) d (by omega) (hst.lp.p.p) (by simp (config := { maxDischargeDepth := 80 }) only [RD, evCode, evReg, evL, wantedV, evOp, argOf, cp, binV, intBin, putF, rd_setF, Option.map_some, Option.bind_some, if_true, Bool.true_or, decide_true, toB, takeS_pf, takeS_c, if_false, Pf.p, Pf.lp, Pf.pt, Pf.cl, Pf.nv, List.all_cons, List.all_nil, Bool.and_true, constV, constCell, nf1, ld, getCells, List.length_cons, List.length_nil, Nat.reduceEqDiff, reduceIte, Nat.reduceAdd, Nat.reduceLeDiff, List.take_succ_cons, List.take_zero, List.drop_zero, ofCells, mkAgg, mapO, V.isP, Bool.false_or, beq_self_eq_true, Bool.false_eq_true, cpL, vc_agg, vc_pagg, vc_i, PV.cells, List.map_cons, List.map_nil, Nat.zero_add, List.getElem?_cons_zero, List.getElem?_cons_succ, ↓SL.cells, ↓SL.vcells, ↓SL.cellOk, g0, g1, and_self, Int.natCast_zero]; try rfl)
  simp (config := { maxDischargeDepth := 80 }) only [lp110_0, loopsOf, bd110, Tryz.f110, List.getD_cons_zero, List.getD_cons_succ, List.nil_append, List.cons_append, List.append_nil] at hL
  rw [hand_fn (by kernel_rfl) (show env1.Q.fn 110 = some Tryz.f110 by kernel_rfl)]
  rw [inL_any]
  have body : ∃ fr2 m2, evCode env1 (hand env1 d).1 (hand env1 d).2 ⟨h.length, h.length⟩ 110 bd110 ⟨fr, ⟨[], h⟩⟩ = some (.ret, ⟨fr2, m2⟩) ∧ rd fr2 4 = .p (.b (es.l.any (eqP (t2 a b)))) := by
    rcases hL with ⟨hin, hL, _, h4⟩ | ⟨hout, hL, hp', _⟩
    · simp (config := { maxDischargeDepth := 80 }) only [bd110, Tryz.f110, evCode, evReg, evL, wantedV, evOp, argOf, cp, binV, intBin, putF, rd_setF, Option.map_some, Option.bind_some, if_true, Bool.true_or, decide_true, toB, takeS_pf, takeS_c, if_false, Pf.p, Pf.lp, Pf.pt, Pf.cl, Pf.nv, List.all_cons, List.all_nil, Bool.and_true, constV, constCell, nf1, ld, getCells, List.length_cons, List.length_nil, Nat.reduceEqDiff, reduceIte, Nat.reduceAdd, Nat.reduceLeDiff, List.take_succ_cons, List.take_zero, List.drop_zero, ofCells, mkAgg, mapO, V.isP, Bool.false_or, beq_self_eq_true, Bool.false_eq_true, cpL, vc_agg, vc_pagg, vc_i, PV.cells, List.map_cons, List.map_nil, Nat.zero_add, List.getElem?_cons_zero, List.getElem?_cons_succ, ↓SL.cells, ↓SL.vcells, ↓SL.cellOk, evCall, evBuiltin, len110, z193, a193, g0, g1, hst, hm, hm1, and_self, newVarV, esc110, V.cellOk, Option.getD_some, List.nil_append, Bool.or_self, hL]
      exact ⟨_, _, rfl, by rw [h4, hin]⟩
    · simp (config := { maxDischargeDepth := 80 }) only [bd110, Tryz.f110, evCode, evReg, evL, wantedV, evOp, argOf, cp, binV, intBin, putF, rd_setF, Option.map_some, Option.bind_some, if_true, Bool.true_or, decide_true, toB, takeS_pf, takeS_c, if_false, Pf.p, Pf.lp, Pf.pt, Pf.cl, Pf.nv, List.all_cons, List.all_nil, Bool.and_true, constV, constCell, nf1, ld, getCells, List.length_cons, List.length_nil, Nat.reduceEqDiff, reduceIte, Nat.reduceAdd, Nat.reduceLeDiff, List.take_succ_cons, List.take_zero, List.drop_zero, ofCells, mkAgg, mapO, V.isP, Bool.false_or, beq_self_eq_true, Bool.false_eq_true, cpL, vc_agg, vc_pagg, vc_i, PV.cells, List.map_cons, List.map_nil, Nat.zero_add, List.getElem?_cons_zero, List.getElem?_cons_succ, ↓SL.cells, ↓SL.vcells, ↓SL.cellOk, evCall, evBuiltin, len110, z193, a193, g0, g1, hst, hm, hm1, and_self, newVarV, esc110, V.cellOk, Option.getD_some, List.nil_append, Bool.or_self, hL]
      exact ⟨_, _, rfl, by simp (config := { maxDischargeDepth := 80 }) only [evCode, evReg, evL, wantedV, evOp, argOf, cp, binV, intBin, putF, rd_setF, Option.map_some, Option.bind_some, if_true, Bool.true_or, decide_true, toB, takeS_pf, takeS_c, if_false, Pf.p, Pf.lp, Pf.pt, Pf.cl, Pf.nv, List.all_cons, List.all_nil, Bool.and_true, constV, constCell, nf1, ld, getCells, List.length_cons, List.length_nil, Nat.reduceEqDiff, reduceIte, Nat.reduceAdd, Nat.reduceLeDiff, List.take_succ_cons, List.take_zero, List.drop_zero, ofCells, mkAgg, mapO, V.isP, Bool.false_or, beq_self_eq_true, Bool.false_eq_true, cpL, vc_agg, vc_pagg, vc_i, PV.cells, List.map_cons, List.map_nil, Nat.zero_add, List.getElem?_cons_zero, List.getElem?_cons_succ, ↓SL.cells, ↓SL.vcells, ↓SL.cellOk, hout]⟩
  obtain ⟨fr2, m2, he, hv⟩ := body
  exact body2 (fn := Tryz.f110) (code := bd110) rfl (by kernel_rfl) rfl (by show (2 : Nat) ≤ Tryz.f110.ntmps; decide) (by rw [hfr]; exact he) (.inr rfl) hv

end Go.Wn

namespace Go.Wn
open Go Go.Proofs

theorem ixa256 {h : Heap} {es : SL} {i : Nat} {x : Int} (hi : es.l[i]? = some (t1 x)) : ixAddr env1.Q h 42 (.p (es.v)) (.p (.i .i64 i)) = some (.p (.ref [.i .i64 x] 0)) := by
  have hlt := lt_of_get hi
  have : natIx (.p (.i .i64 i)) es.l.length = some i := by
    unfold natIx toI
    simp [hlt]
  rw [SL.v_of hi]
  simp only [ixAddr, u42, z3, Option.bind_some, this, hi]
  rfl

noncomputable def bd256 : Code := match Tryz.f256.body with | some c => c | none => .skip
noncomputable def lp256_0 : Code := (loopsOf bd256).getD 0 .skip
theorem len256 (h : Heap) (es : SL) : lenB env1.Q h 42 (.p (es.v)) = some (.p (.i .i64 es.l.length)) := by obtain ⟨l, b⟩ := es; cases b <;> cases l <;> kernel_rfl

set_option maxRecDepth 100000 in
theorem round256_0 (C : Handler) (L : LHandler) (K : Ctx) (fr : Fr) (h : Heap) (es : SL) (i : Nat) (a : Int) (x : Int) (hi : es.l[i]? = some (t1 x)) (hb : es.l.length < 2 ^ 40)  (hp : Pf fr) (hm : Pm ⟨[], h⟩) (hR : RD fr [(0, .p (es.v)), (1, .p (.i .i64 a)), (7, .p (.i .i64 es.l.length)), (8, .p (.i .i64 i))]) :
    ∃ fr', evCode env1 C L K 256 lp256_0 ⟨fr, ⟨[], h⟩⟩ = some (if (a == x) then .ret else .nrm, ⟨fr', ⟨[], h⟩⟩) ∧ Pf fr' ∧ ((a == x) = true → rd fr' 4 = .p (.i .i64 i)) ∧ ((a == x) = false → RD fr' [(0, .p (es.v)), (1, .p (.i .i64 a)), (7, .p (.i .i64 es.l.length)), (8, .p (.i .i64 (i + 1 : Nat)))]) := by
  simp only [RD, and_true] at hR
  obtain ⟨h0, h1, h7, h8⟩ := hR
  have hlt : i < es.l.length := lt_of_get hi
  have hlt' : (i : Int) < (es.l.length : Int) := by omega
  have hix := ixa256 (h := h) hi
  have hw := wrap_nat hlt hb
  unfold lp256_0
  simp (config := { maxDischargeDepth := 80 }) only [loopsOf, bd256, Tryz.f256, List.getD_cons_zero, List.getD_cons_succ, List.nil_append, List.cons_append, List.append_nil, evCode, evReg, evL, wantedV, evOp, argOf, cp, binV, intBin, putF, rd_setF, Option.map_some, Option.bind_some, if_true, Bool.true_or, decide_true, toB, takeS_pf, takeS_c, if_false, Pf.p, Pf.lp, Pf.pt, Pf.cl, Pf.nv, List.all_cons, List.all_nil, Bool.and_true, constV, constCell, nf1, ld, getCells, List.length_cons, List.length_nil, Nat.reduceEqDiff, reduceIte, Nat.reduceAdd, Nat.reduceLeDiff, List.take_succ_cons, List.take_zero, List.drop_zero, ofCells, mkAgg, mapO, V.isP, Bool.false_or, beq_self_eq_true, Bool.false_eq_true, cpL, vc_agg, vc_pagg, vc_i, PV.cells, List.map_cons, List.map_nil, Nat.zero_add, List.getElem?_cons_zero, List.getElem?_cons_succ, ↓SL.cells, ↓SL.vcells, ↓SL.cellOk, h0, h1, h7, h8, hix, hlt', u42, z3, a3, hp, hm]
  cases hE : (a == x)
  · simp (config := { maxDischargeDepth := 80 }) only [hE, Bool.not_true, Bool.not_false, if_true, if_false, evCode, evReg, evL, wantedV, evOp, argOf, cp, binV, intBin, putF, rd_setF, Option.map_some, Option.bind_some, if_true, Bool.true_or, decide_true, toB, takeS_pf, takeS_c, if_false, Pf.p, Pf.lp, Pf.pt, Pf.cl, Pf.nv, List.all_cons, List.all_nil, Bool.and_true, constV, constCell, nf1, ld, getCells, List.length_cons, List.length_nil, Nat.reduceEqDiff, reduceIte, Nat.reduceAdd, Nat.reduceLeDiff, List.take_succ_cons, List.take_zero, List.drop_zero, ofCells, mkAgg, mapO, V.isP, Bool.false_or, beq_self_eq_true, Bool.false_eq_true, cpL, vc_agg, vc_pagg, vc_i, PV.cells, List.map_cons, List.map_nil, Nat.zero_add, List.getElem?_cons_zero, List.getElem?_cons_succ, ↓SL.cells, ↓SL.vcells, ↓SL.cellOk, h0, h1, h7, h8, hix, hlt', u42, z3, a3, hp, hm]
    refine ⟨_, rfl, ?_, fun h => (by cases h), fun _ => ?_⟩
    · simp (config := { maxDischargeDepth := 80 }) only [evCode, evReg, evL, wantedV, evOp, argOf, cp, binV, intBin, putF, rd_setF, Option.map_some, Option.bind_some, if_true, Bool.true_or, decide_true, toB, takeS_pf, takeS_c, if_false, Pf.p, Pf.lp, Pf.pt, Pf.cl, Pf.nv, List.all_cons, List.all_nil, Bool.and_true, constV, constCell, nf1, ld, getCells, List.length_cons, List.length_nil, Nat.reduceEqDiff, reduceIte, Nat.reduceAdd, Nat.reduceLeDiff, List.take_succ_cons, List.take_zero, List.drop_zero, ofCells, mkAgg, mapO, V.isP, Bool.false_or, beq_self_eq_true, Bool.false_eq_true, cpL, vc_agg, vc_pagg, vc_i, PV.cells, List.map_cons, List.map_nil, Nat.zero_add, List.getElem?_cons_zero, List.getElem?_cons_succ, ↓SL.cells, ↓SL.vcells, ↓SL.cellOk, h0, h1, h7, h8, hix, hlt', u42, z3, a3, hp, hm]
    · simp (config := { maxDischargeDepth := 80 }) only [RD, evCode, evReg, evL, wantedV, evOp, argOf, cp, binV, intBin, putF, rd_setF, Option.map_some, Option.bind_some, if_true, Bool.true_or, decide_true, toB, takeS_pf, takeS_c, if_false, Pf.p, Pf.lp, Pf.pt, Pf.cl, Pf.nv, List.all_cons, List.all_nil, Bool.and_true, constV, constCell, nf1, ld, getCells, List.length_cons, List.length_nil, Nat.reduceEqDiff, reduceIte, Nat.reduceAdd, Nat.reduceLeDiff, List.take_succ_cons, List.take_zero, List.drop_zero, ofCells, mkAgg, mapO, V.isP, Bool.false_or, beq_self_eq_true, Bool.false_eq_true, cpL, vc_agg, vc_pagg, vc_i, PV.cells, List.map_cons, List.map_nil, Nat.zero_add, List.getElem?_cons_zero, List.getElem?_cons_succ, ↓SL.cells, ↓SL.vcells, ↓SL.cellOk, h0, h1, h7, h8, hix, hlt', u42, z3, a3, hp, hm, hw, and_self]
  · simp (config := { maxDischargeDepth := 80 }) only [hE, Bool.not_true, Bool.not_false, if_true, if_false, evCode, evReg, evL, wantedV, evOp, argOf, cp, binV, intBin, putF, rd_setF, Option.map_some, Option.bind_some, if_true, Bool.true_or, decide_true, toB, takeS_pf, takeS_c, if_false, Pf.p, Pf.lp, Pf.pt, Pf.cl, Pf.nv, List.all_cons, List.all_nil, Bool.and_true, constV, constCell, nf1, ld, getCells, List.length_cons, List.length_nil, Nat.reduceEqDiff, reduceIte, Nat.reduceAdd, Nat.reduceLeDiff, List.take_succ_cons, List.take_zero, List.drop_zero, ofCells, mkAgg, mapO, V.isP, Bool.false_or, beq_self_eq_true, Bool.false_eq_true, cpL, vc_agg, vc_pagg, vc_i, PV.cells, List.map_cons, List.map_nil, Nat.zero_add, List.getElem?_cons_zero, List.getElem?_cons_succ, ↓SL.cells, ↓SL.vcells, ↓SL.cellOk, h0, h1, h7, h8, hix, hlt', u42, z3, a3, hp, hm]
    refine ⟨_, rfl, ?_, fun _ => ?_, fun h => (by cases h)⟩
    · simp (config := { maxDischargeDepth := 80 }) only [evCode, evReg, evL, wantedV, evOp, argOf, cp, binV, intBin, putF, rd_setF, Option.map_some, Option.bind_some, if_true, Bool.true_or, decide_true, toB, takeS_pf, takeS_c, if_false, Pf.p, Pf.lp, Pf.pt, Pf.cl, Pf.nv, List.all_cons, List.all_nil, Bool.and_true, constV, constCell, nf1, ld, getCells, List.length_cons, List.length_nil, Nat.reduceEqDiff, reduceIte, Nat.reduceAdd, Nat.reduceLeDiff, List.take_succ_cons, List.take_zero, List.drop_zero, ofCells, mkAgg, mapO, V.isP, Bool.false_or, beq_self_eq_true, Bool.false_eq_true, cpL, vc_agg, vc_pagg, vc_i, PV.cells, List.map_cons, List.map_nil, Nat.zero_add, List.getElem?_cons_zero, List.getElem?_cons_succ, ↓SL.cells, ↓SL.vcells, ↓SL.cellOk, h0, h1, h7, h8, hix, hlt', u42, z3, a3, hp, hm]
    · simp (config := { maxDischargeDepth := 80 }) only [evCode, evReg, evL, wantedV, evOp, argOf, cp, binV, intBin, putF, rd_setF, Option.map_some, Option.bind_some, if_true, Bool.true_or, decide_true, toB, takeS_pf, takeS_c, if_false, Pf.p, Pf.lp, Pf.pt, Pf.cl, Pf.nv, List.all_cons, List.all_nil, Bool.and_true, constV, constCell, nf1, ld, getCells, List.length_cons, List.length_nil, Nat.reduceEqDiff, reduceIte, Nat.reduceAdd, Nat.reduceLeDiff, List.take_succ_cons, List.take_zero, List.drop_zero, ofCells, mkAgg, mapO, V.isP, Bool.false_or, beq_self_eq_true, Bool.false_eq_true, cpL, vc_agg, vc_pagg, vc_i, PV.cells, List.map_cons, List.map_nil, Nat.zero_add, List.getElem?_cons_zero, List.getElem?_cons_succ, ↓SL.cells, ↓SL.vcells, ↓SL.cellOk, h0, h1, h7, h8, hix, hlt', u42, z3, a3, hp, hm]

set_option maxRecDepth 100000 in
theorem exit256_0 (C : Handler) (L : LHandler) (K : Ctx) (fr : Fr) (h : Heap) (es : SL) (a : Int) (hp : Pf fr) (hm : Pm ⟨[], h⟩) (hR : RD fr [(0, .p (es.v)), (1, .p (.i .i64 a)), (7, .p (.i .i64 es.l.length)), (8, .p (.i .i64 es.l.length))]) :
    ∃ fr', evCode env1 C L K 256 lp256_0 ⟨fr, ⟨[], h⟩⟩ = some (.ext 0, ⟨fr', ⟨[], h⟩⟩) ∧ Pf fr' ∧ RD fr' [] := by
  simp only [RD, and_true] at hR
  obtain ⟨h0, h1, h7, h8⟩ := hR
  have hn : ¬ ((es.l.length : Int) < (es.l.length : Int)) := by omega
  unfold lp256_0
  simp (config := { maxDischargeDepth := 80 }) only [loopsOf, bd256, Tryz.f256, List.getD_cons_zero, List.getD_cons_succ, List.nil_append, List.cons_append, List.append_nil, evCode, evReg, evL, wantedV, evOp, argOf, cp, binV, intBin, putF, rd_setF, Option.map_some, Option.bind_some, if_true, Bool.true_or, decide_true, toB, takeS_pf, takeS_c, if_false, Pf.p, Pf.lp, Pf.pt, Pf.cl, Pf.nv, List.all_cons, List.all_nil, Bool.and_true, constV, constCell, nf1, ld, getCells, List.length_cons, List.length_nil, Nat.reduceEqDiff, reduceIte, Nat.reduceAdd, Nat.reduceLeDiff, List.take_succ_cons, List.take_zero, List.drop_zero, ofCells, mkAgg, mapO, V.isP, Bool.false_or, beq_self_eq_true, Bool.false_eq_true, cpL, vc_agg, vc_pagg, vc_i, PV.cells, List.map_cons, List.map_nil, Nat.zero_add, List.getElem?_cons_zero, List.getElem?_cons_succ, ↓SL.cells, ↓SL.vcells, ↓SL.cellOk, h0, h1, h7, h8, hp, hm, hn, decide_false]
  exact ⟨_, rfl, by simp (config := { maxDischargeDepth := 80 }) only [evCode, evReg, evL, wantedV, evOp, argOf, cp, binV, intBin, putF, rd_setF, Option.map_some, Option.bind_some, if_true, Bool.true_or, decide_true, toB, takeS_pf, takeS_c, if_false, Pf.p, Pf.lp, Pf.pt, Pf.cl, Pf.nv, List.all_cons, List.all_nil, Bool.and_true, constV, constCell, nf1, ld, getCells, List.length_cons, List.length_nil, Nat.reduceEqDiff, reduceIte, Nat.reduceAdd, Nat.reduceLeDiff, List.take_succ_cons, List.take_zero, List.drop_zero, ofCells, mkAgg, mapO, V.isP, Bool.false_or, beq_self_eq_true, Bool.false_eq_true, cpL, vc_agg, vc_pagg, vc_i, PV.cells, List.map_cons, List.map_nil, Nat.zero_add, List.getElem?_cons_zero, List.getElem?_cons_succ, ↓SL.cells, ↓SL.vcells, ↓SL.cellOk, h0, h1, h7, h8, hp, hm], by simp (config := { maxDischargeDepth := 80 }) only [RD, evCode, evReg, evL, wantedV, evOp, argOf, cp, binV, intBin, putF, rd_setF, Option.map_some, Option.bind_some, if_true, Bool.true_or, decide_true, toB, takeS_pf, takeS_c, if_false, Pf.p, Pf.lp, Pf.pt, Pf.cl, Pf.nv, List.all_cons, List.all_nil, Bool.and_true, constV, constCell, nf1, ld, getCells, List.length_cons, List.length_nil, Nat.reduceEqDiff, reduceIte, Nat.reduceAdd, Nat.reduceLeDiff, List.take_succ_cons, List.take_zero, List.drop_zero, ofCells, mkAgg, mapO, V.isP, Bool.false_or, beq_self_eq_true, Bool.false_eq_true, cpL, vc_agg, vc_pagg, vc_i, PV.cells, List.map_cons, List.map_nil, Nat.zero_add, List.getElem?_cons_zero, List.getElem?_cons_succ, ↓SL.cells, ↓SL.vcells, ↓SL.cellOk, h0, h1, h7, h8, hp, hm, and_self]⟩

theorem loop256_0 (es : SL) (a : Int) (hes : ∀ e ∈ es.l, ∃ x, e = t1 x) (hb : es.l.length < 2 ^ 40) (h : Heap) (hm : Pm ⟨[], h⟩)  (K : Ctx) (fr : Fr) (d : Nat) (hd : 0 + es.l.length + 1 ≤ d) (hp : Pf fr) (hR : RD fr [(0, .p (es.v)), (1, .p (.i .i64 a)), (7, .p (.i .i64 es.l.length)), (8, .p (.i .i64 0))]) :
    ∃ fr', (es.l.any (eqP (t1 a)) = true ∧ (hand env1 d).2 K 256 lp256_0 ⟨fr, ⟨[], h⟩⟩ = some (.ret, ⟨fr', ⟨[], h⟩⟩) ∧ ∃ i : Nat, rd fr' 4 = .p (.i .i64 i)) ∨ (es.l.any (eqP (t1 a)) = false ∧ (hand env1 d).2 K 256 lp256_0 ⟨fr, ⟨[], h⟩⟩ = some (.ext 0, ⟨fr', ⟨[], h⟩⟩) ∧ Pf fr' ∧ RD fr' []) := by
  have key := loop_find (E := env1) (K := K) (f := 256) (body := lp256_0) (m := ⟨[], h⟩) (by kernel_rfl) nil_lm es.l.length 0 0 (fun i fr => Pf fr ∧ RD fr [(0, .p (es.v)), (1, .p (.i .i64 a)), (7, .p (.i .i64 es.l.length)), (8, .p (.i .i64 i))]) (fun fr => ∃ i : Nat, rd fr 4 = .p (.i .i64 i)) (fun fr => Pf fr ∧ RD fr []) (fun i => (es.l[i]?).any (eqP (t1 a)))
    (fun d i fr hd hi ⟨hp, hR⟩ => by
      obtain ⟨x, he⟩ := hes es.l[i] (by simp)
      have hi' : es.l[i]? = some (t1 x) := by rw [List.getElem?_eq_getElem hi, he]
      have hin : t1 x ∈ es.l := List.mem_of_getElem? hi'
      obtain ⟨fr', e, hp', q1, q2⟩ := round256_0 (hand env1 d).1 (hand env1 d).2 ⟨K.ro, h.length⟩ (mask (env1.nvs 256) fr) h es i a x hi' hb (hp.mask _) hm (hR.mask (by kernel_rfl))
      refine ⟨fr', ?_⟩
      simp only [hi', Option.any_some]
      have hr0 : ((eqP (t1 a))) (t1 x) = ((a == x)) := by unfold eqP t1; simp only [PV.i.injEq, true_and]; rw [Bool.eq_iff_iff]; simp
      rw [hr0]
      cases hr : ((a == x)) with
      | true => rw [hr] at e q1; exact .inl ⟨rfl, e, i, q1 rfl⟩
      | false => rw [hr] at e q2; exact .inr ⟨rfl, e, hp'.drop _ _ _, (q2 rfl).drop (by kernel_rfl)⟩)
    (fun d fr hd ⟨hp, hR⟩ => exit256_0 (hand env1 d).1 (hand env1 d).2 ⟨K.ro, h.length⟩ (mask (env1.nvs 256) fr) h es a (hp.mask _) hm (hR.mask (by kernel_rfl)))
  obtain ⟨fr', h1 | h1⟩ := key es.l.length 0 fr d (by omega) (by omega) ⟨hp, hR⟩
  · refine ⟨fr', .inl ⟨?_, h1.2⟩⟩
    obtain ⟨j, _, hj, h2⟩ := h1.1
    rw [List.getElem?_eq_getElem hj] at h2
    exact List.any_eq_true.2 ⟨es.l[j], by simp, h2⟩
  · refine ⟨fr', .inr ⟨?_, h1.2⟩⟩
    rw [List.any_eq_false]
    intro x hx
    obtain ⟨j, hj, rfl⟩ := List.mem_iff_getElem.1 hx
    have := h1.1 j (by omega) hj
    rw [List.getElem?_eq_getElem hj] at this
    simpa using this

set_option maxRecDepth 100000 in
theorem run256' (es : SL) (e : PV) (he : ∃ x, e = t1 x) (hes : ∀ e ∈ es.l, ∃ x, e = t1 x) (hb : es.l.length < 2 ^ 40) (h : Heap) (hm : Pm ⟨[], h⟩) (K : Ctx) (d : Nat) (hd : es.l.length + 2 ≤ d) :
    ∃ n : Int, (hand env1 d).1 K 256 [.p (es.v), .p e] h = some (.p (.i .i64 n), h) ∧ decide ((0 : Int) ≤ n) = inL es.l e := by
  obtain ⟨a, rfl⟩ := he
  show ∃ n : Int, (hand env1 d).1 K 256 [.p (es.v), .p (.i .i64 a)] h = some (.p (.i .i64 n), h) ∧ decide ((0 : Int) ≤ n) = inL es.l (t1 a)
  obtain ⟨d, rfl⟩ : ∃ d', d = d' + 1 := ⟨d - 1, by omega⟩
  have hst : Pf (start [.p (es.v), .p (.i .i64 a)]) := Pf.start fun x hx => by
    simp only [List.mem_cons, List.mem_nil_iff, or_false] at hx
    rcases hx with rfl | rfl <;> rfl
  generalize hfr : start [.p (es.v), .p (.i .i64 a)] = fr at hst
  have g0 : rd fr 0 = .p (es.v) := by rw [← hfr, rd_start]; rfl
  have g1 : rd fr 1 = .p (.i .i64 a) := by rw [← hfr, rd_start]; rfl
  obtain ⟨fr', hL⟩ := loop256_0 es a hes hb h hm ⟨h.length, h.length⟩ (setF (setF (setF (setF fr 4 (.p (.i .i64 0))) 6 (.p (es.v))) 7 (.p (.i .i64 es.l.length))) 8 (.p (.i .i64 0))) d (by omega) (hst.p.p.p.p) (by simp (config := { maxDischargeDepth := 80 }) only [RD, evCode, evReg, evL, wantedV, evOp, argOf, cp, binV, intBin, putF, rd_setF, Option.map_some, Option.bind_some, if_true, Bool.true_or, decide_true, toB, takeS_pf, takeS_c, if_false, Pf.p, Pf.lp, Pf.pt, Pf.cl, Pf.nv, List.all_cons, List.all_nil, Bool.and_true, constV, constCell, nf1, ld, getCells, List.length_cons, List.length_nil, Nat.reduceEqDiff, reduceIte, Nat.reduceAdd, Nat.reduceLeDiff, List.take_succ_cons, List.take_zero, List.drop_zero, ofCells, mkAgg, mapO, V.isP, Bool.false_or, beq_self_eq_true, Bool.false_eq_true, cpL, vc_agg, vc_pagg, vc_i, PV.cells, List.map_cons, List.map_nil, Nat.zero_add, List.getElem?_cons_zero, List.getElem?_cons_succ, ↓SL.cells, ↓SL.vcells, ↓SL.cellOk, g0, g1, and_self, Int.natCast_zero]; try rfl)
  simp (config := { maxDischargeDepth := 80 }) only [lp256_0, loopsOf, bd256, Tryz.f256, List.getD_cons_zero, List.getD_cons_succ, List.nil_append, List.cons_append, List.append_nil] at hL
  rw [hand_fn (by kernel_rfl) (show env1.Q.fn 256 = some Tryz.f256 by kernel_rfl)]
  rw [inL_any]
  have fin : ∀ e' fr2, evCode env1 (hand env1 d).1 (hand env1 d).2 ⟨h.length, h.length⟩ 256 bd256 ⟨fr, ⟨[], h⟩⟩ = some (e', ⟨fr2, ⟨[], h⟩⟩) → (e' = .nrm ∨ e' = .ret) → ∀ n : Int, rd fr2 4 = .p (.i .i64 n) →
      evBody env1 (hand env1 d).1 (hand env1 d).2 K 256 Tryz.f256 [.p (es.v), .p (.i .i64 a)] h = some (.p (.i .i64 n), h) := fun e' fr2 he hx n h4 =>
    body2 (fn := Tryz.f256) (code := bd256) rfl (by kernel_rfl) rfl (by show (2 : Nat) ≤ Tryz.f256.ntmps; decide) (by rw [hfr]; exact he) hx h4
  rcases hL with ⟨hin, hL, n, h4⟩ | ⟨hout, hL, hp', _⟩
  · refine ⟨n, fin .ret fr' ?_ (.inr rfl) n h4, by rw [hin]; simp⟩
    simp (config := { maxDischargeDepth := 80 }) only [bd256, Tryz.f256, evCode, evReg, evL, wantedV, evOp, argOf, cp, binV, intBin, putF, rd_setF, Option.map_some, Option.bind_some, if_true, Bool.true_or, decide_true, toB, takeS_pf, takeS_c, if_false, Pf.p, Pf.lp, Pf.pt, Pf.cl, Pf.nv, List.all_cons, List.all_nil, Bool.and_true, constV, constCell, nf1, ld, getCells, List.length_cons, List.length_nil, Nat.reduceEqDiff, reduceIte, Nat.reduceAdd, Nat.reduceLeDiff, List.take_succ_cons, List.take_zero, List.drop_zero, ofCells, mkAgg, mapO, V.isP, Bool.false_or, beq_self_eq_true, Bool.false_eq_true, cpL, vc_agg, vc_pagg, vc_i, PV.cells, List.map_cons, List.map_nil, Nat.zero_add, List.getElem?_cons_zero, List.getElem?_cons_succ, ↓SL.cells, ↓SL.vcells, ↓SL.cellOk, evCall, evBuiltin, len256, g0, g1, hst, hm, and_self, hL]
  · refine ⟨-1, fin .ret (setF fr' 4 (.p (.i .i64 (-1)))) ?_ (.inr rfl) (-1) (by simp (config := { maxDischargeDepth := 80 }) only [evCode, evReg, evL, wantedV, evOp, argOf, cp, binV, intBin, putF, rd_setF, Option.map_some, Option.bind_some, if_true, Bool.true_or, decide_true, toB, takeS_pf, takeS_c, if_false, Pf.p, Pf.lp, Pf.pt, Pf.cl, Pf.nv, List.all_cons, List.all_nil, Bool.and_true, constV, constCell, nf1, ld, getCells, List.length_cons, List.length_nil, Nat.reduceEqDiff, reduceIte, Nat.reduceAdd, Nat.reduceLeDiff, List.take_succ_cons, List.take_zero, List.drop_zero, ofCells, mkAgg, mapO, V.isP, Bool.false_or, beq_self_eq_true, Bool.false_eq_true, cpL, vc_agg, vc_pagg, vc_i, PV.cells, List.map_cons, List.map_nil, Nat.zero_add, List.getElem?_cons_zero, List.getElem?_cons_succ, ↓SL.cells, ↓SL.vcells, ↓SL.cellOk]), by rw [hout]; rfl⟩
    simp (config := { maxDischargeDepth := 80 }) only [bd256, Tryz.f256, evCode, evReg, evL, wantedV, evOp, argOf, cp, binV, intBin, putF, rd_setF, Option.map_some, Option.bind_some, if_true, Bool.true_or, decide_true, toB, takeS_pf, takeS_c, if_false, Pf.p, Pf.lp, Pf.pt, Pf.cl, Pf.nv, List.all_cons, List.all_nil, Bool.and_true, constV, constCell, nf1, ld, getCells, List.length_cons, List.length_nil, Nat.reduceEqDiff, reduceIte, Nat.reduceAdd, Nat.reduceLeDiff, List.take_succ_cons, List.take_zero, List.drop_zero, ofCells, mkAgg, mapO, V.isP, Bool.false_or, beq_self_eq_true, Bool.false_eq_true, cpL, vc_agg, vc_pagg, vc_i, PV.cells, List.map_cons, List.map_nil, Nat.zero_add, List.getElem?_cons_zero, List.getElem?_cons_succ, ↓SL.cells, ↓SL.vcells, ↓SL.cellOk, evCall, evBuiltin, len256, g0, g1, hst, hm, and_self, hL]
theorem okb194 : okFn env1.Q 194 = true := by kernel_rfl
theorem tk194 : env1.tk 194 = [] := by kernel_rfl

noncomputable def bd255 : Code := match Tryz.f255.body with | some c => c | none => .skip
noncomputable def lp255_0 : Code := (loopsOf bd255).getD 0 .skip

set_option maxRecDepth 100000 in
theorem round255 (C : Handler) (L : LHandler) (K : Ctx) (fr : Fr) (h : Heap) (es : SL) (i k : Nat) (x : Int) (r : Bool) (hi : es.l[i]? = some (t1 x)) (hb : es.l.length < 2 ^ 40) (hC : ∀ K, C K 194 [.p (t1 x), .ptr k 0] h = some (.p (.b r), h)) (hp : Pf fr) (hm : Pm ⟨[], h⟩) (hR : RD fr [(0, .p (es.v)), (1, .clo (.func 194) [] [.ptr k 0]), (7, .p (.i .i64 es.l.length)), (8, .p (.i .i64 i))]) :
    ∃ fr', evCode env1 C L K 255 lp255_0 ⟨fr, ⟨[], h⟩⟩ = some (if r then .ret else .nrm, ⟨fr', ⟨[], h⟩⟩) ∧ Pf fr' ∧ (r = true → rd fr' 4 = .p (.i .i64 i)) ∧ (r = false → RD fr' [(0, .p (es.v)), (1, .clo (.func 194) [] [.ptr k 0]), (7, .p (.i .i64 es.l.length)), (8, .p (.i .i64 (i + 1 : Nat)))]) := by
  simp only [RD, and_true] at hR
  obtain ⟨h0, h1, h7, h8⟩ := hR
  have hlt : i < es.l.length := lt_of_get hi
  have hlt' : (i : Int) < (es.l.length : Int) := by omega
  have hix := ixa256 (h := h) hi
  have hw := wrap_nat hlt hb
  have hC' := hC; simp only [t1] at hC'
  unfold lp255_0
  simp (config := { maxDischargeDepth := 80 }) only [loopsOf, bd255, Tryz.f255, List.getD_cons_zero, List.getD_cons_succ, List.nil_append, List.cons_append, List.append_nil, evCode, evReg, evL, wantedV, evOp, argOf, cp, binV, intBin, putF, rd_setF, Option.map_some, Option.bind_some, if_true, Bool.true_or, decide_true, toB, takeS_pf, takeS_c, if_false, Pf.p, Pf.lp, Pf.pt, Pf.cl, Pf.nv, List.all_cons, List.all_nil, Bool.and_true, constV, constCell, nf1, ld, getCells, List.length_cons, List.length_nil, Nat.reduceEqDiff, reduceIte, Nat.reduceAdd, Nat.reduceLeDiff, List.take_succ_cons, List.take_zero, List.drop_zero, ofCells, mkAgg, mapO, V.isP, Bool.false_or, beq_self_eq_true, Bool.false_eq_true, cpL, vc_agg, vc_pagg, vc_i, PV.cells, List.map_cons, List.map_nil, Nat.zero_add, List.getElem?_cons_zero, List.getElem?_cons_succ, ↓SL.cells, ↓SL.vcells, ↓SL.cellOk, h0, h1, h7, h8, u42, z3, a3, hix, hlt', evCall, okb194, tk194, hC', lfL, lf, argsOf, List.contains_nil, ite_self, hp, hm]
  cases hE : r
  · simp (config := { maxDischargeDepth := 80 }) only [hE, Bool.not_true, Bool.not_false, if_true, if_false, evCode, evReg, evL, wantedV, evOp, argOf, cp, binV, intBin, putF, rd_setF, Option.map_some, Option.bind_some, if_true, Bool.true_or, decide_true, toB, takeS_pf, takeS_c, if_false, Pf.p, Pf.lp, Pf.pt, Pf.cl, Pf.nv, List.all_cons, List.all_nil, Bool.and_true, constV, constCell, nf1, ld, getCells, List.length_cons, List.length_nil, Nat.reduceEqDiff, reduceIte, Nat.reduceAdd, Nat.reduceLeDiff, List.take_succ_cons, List.take_zero, List.drop_zero, ofCells, mkAgg, mapO, V.isP, Bool.false_or, beq_self_eq_true, Bool.false_eq_true, cpL, vc_agg, vc_pagg, vc_i, PV.cells, List.map_cons, List.map_nil, Nat.zero_add, List.getElem?_cons_zero, List.getElem?_cons_succ, ↓SL.cells, ↓SL.vcells, ↓SL.cellOk, h0, h1, h7, h8, u42, z3, a3, hix, hlt', evCall, okb194, tk194, hC', lfL, lf, argsOf, List.contains_nil, ite_self, hp, hm]
    refine ⟨_, rfl, ?_, fun h => (by cases h), fun _ => ?_⟩
    · simp (config := { maxDischargeDepth := 80 }) only [evCode, evReg, evL, wantedV, evOp, argOf, cp, binV, intBin, putF, rd_setF, Option.map_some, Option.bind_some, if_true, Bool.true_or, decide_true, toB, takeS_pf, takeS_c, if_false, Pf.p, Pf.lp, Pf.pt, Pf.cl, Pf.nv, List.all_cons, List.all_nil, Bool.and_true, constV, constCell, nf1, ld, getCells, List.length_cons, List.length_nil, Nat.reduceEqDiff, reduceIte, Nat.reduceAdd, Nat.reduceLeDiff, List.take_succ_cons, List.take_zero, List.drop_zero, ofCells, mkAgg, mapO, V.isP, Bool.false_or, beq_self_eq_true, Bool.false_eq_true, cpL, vc_agg, vc_pagg, vc_i, PV.cells, List.map_cons, List.map_nil, Nat.zero_add, List.getElem?_cons_zero, List.getElem?_cons_succ, ↓SL.cells, ↓SL.vcells, ↓SL.cellOk, h0, h1, h7, h8, u42, z3, a3, hix, hlt', evCall, okb194, tk194, hC', lfL, lf, argsOf, List.contains_nil, ite_self, hp, hm]
    · simp (config := { maxDischargeDepth := 80 }) only [RD, evCode, evReg, evL, wantedV, evOp, argOf, cp, binV, intBin, putF, rd_setF, Option.map_some, Option.bind_some, if_true, Bool.true_or, decide_true, toB, takeS_pf, takeS_c, if_false, Pf.p, Pf.lp, Pf.pt, Pf.cl, Pf.nv, List.all_cons, List.all_nil, Bool.and_true, constV, constCell, nf1, ld, getCells, List.length_cons, List.length_nil, Nat.reduceEqDiff, reduceIte, Nat.reduceAdd, Nat.reduceLeDiff, List.take_succ_cons, List.take_zero, List.drop_zero, ofCells, mkAgg, mapO, V.isP, Bool.false_or, beq_self_eq_true, Bool.false_eq_true, cpL, vc_agg, vc_pagg, vc_i, PV.cells, List.map_cons, List.map_nil, Nat.zero_add, List.getElem?_cons_zero, List.getElem?_cons_succ, ↓SL.cells, ↓SL.vcells, ↓SL.cellOk, h0, h1, h7, h8, u42, z3, a3, hix, hlt', evCall, okb194, tk194, hC', lfL, lf, argsOf, List.contains_nil, ite_self, hp, hm, hw, and_self]
  · simp (config := { maxDischargeDepth := 80 }) only [hE, Bool.not_true, Bool.not_false, if_true, if_false, evCode, evReg, evL, wantedV, evOp, argOf, cp, binV, intBin, putF, rd_setF, Option.map_some, Option.bind_some, if_true, Bool.true_or, decide_true, toB, takeS_pf, takeS_c, if_false, Pf.p, Pf.lp, Pf.pt, Pf.cl, Pf.nv, List.all_cons, List.all_nil, Bool.and_true, constV, constCell, nf1, ld, getCells, List.length_cons, List.length_nil, Nat.reduceEqDiff, reduceIte, Nat.reduceAdd, Nat.reduceLeDiff, List.take_succ_cons, List.take_zero, List.drop_zero, ofCells, mkAgg, mapO, V.isP, Bool.false_or, beq_self_eq_true, Bool.false_eq_true, cpL, vc_agg, vc_pagg, vc_i, PV.cells, List.map_cons, List.map_nil, Nat.zero_add, List.getElem?_cons_zero, List.getElem?_cons_succ, ↓SL.cells, ↓SL.vcells, ↓SL.cellOk, h0, h1, h7, h8, u42, z3, a3, hix, hlt', evCall, okb194, tk194, hC', lfL, lf, argsOf, List.contains_nil, ite_self, hp, hm]
    refine ⟨_, rfl, ?_, fun _ => ?_, fun h => (by cases h)⟩
    · simp (config := { maxDischargeDepth := 80 }) only [evCode, evReg, evL, wantedV, evOp, argOf, cp, binV, intBin, putF, rd_setF, Option.map_some, Option.bind_some, if_true, Bool.true_or, decide_true, toB, takeS_pf, takeS_c, if_false, Pf.p, Pf.lp, Pf.pt, Pf.cl, Pf.nv, List.all_cons, List.all_nil, Bool.and_true, constV, constCell, nf1, ld, getCells, List.length_cons, List.length_nil, Nat.reduceEqDiff, reduceIte, Nat.reduceAdd, Nat.reduceLeDiff, List.take_succ_cons, List.take_zero, List.drop_zero, ofCells, mkAgg, mapO, V.isP, Bool.false_or, beq_self_eq_true, Bool.false_eq_true, cpL, vc_agg, vc_pagg, vc_i, PV.cells, List.map_cons, List.map_nil, Nat.zero_add, List.getElem?_cons_zero, List.getElem?_cons_succ, ↓SL.cells, ↓SL.vcells, ↓SL.cellOk, h0, h1, h7, h8, u42, z3, a3, hix, hlt', evCall, okb194, tk194, hC', lfL, lf, argsOf, List.contains_nil, ite_self, hp, hm]
    · simp (config := { maxDischargeDepth := 80 }) only [evCode, evReg, evL, wantedV, evOp, argOf, cp, binV, intBin, putF, rd_setF, Option.map_some, Option.bind_some, if_true, Bool.true_or, decide_true, toB, takeS_pf, takeS_c, if_false, Pf.p, Pf.lp, Pf.pt, Pf.cl, Pf.nv, List.all_cons, List.all_nil, Bool.and_true, constV, constCell, nf1, ld, getCells, List.length_cons, List.length_nil, Nat.reduceEqDiff, reduceIte, Nat.reduceAdd, Nat.reduceLeDiff, List.take_succ_cons, List.take_zero, List.drop_zero, ofCells, mkAgg, mapO, V.isP, Bool.false_or, beq_self_eq_true, Bool.false_eq_true, cpL, vc_agg, vc_pagg, vc_i, PV.cells, List.map_cons, List.map_nil, Nat.zero_add, List.getElem?_cons_zero, List.getElem?_cons_succ, ↓SL.cells, ↓SL.vcells, ↓SL.cellOk, h0, h1, h7, h8, u42, z3, a3, hix, hlt', evCall, okb194, tk194, hC', lfL, lf, argsOf, List.contains_nil, ite_self, hp, hm]

set_option maxRecDepth 100000 in
theorem exit255 (C : Handler) (L : LHandler) (K : Ctx) (fr : Fr) (h : Heap) (es : SL) (k : Nat) (hp : Pf fr) (hm : Pm ⟨[], h⟩) (hR : RD fr [(0, .p (es.v)), (1, .clo (.func 194) [] [.ptr k 0]), (7, .p (.i .i64 es.l.length)), (8, .p (.i .i64 es.l.length))]) :
    ∃ fr', evCode env1 C L K 255 lp255_0 ⟨fr, ⟨[], h⟩⟩ = some (.ext 0, ⟨fr', ⟨[], h⟩⟩) ∧ Pf fr' := by
  simp only [RD, and_true] at hR
  obtain ⟨h0, h1, h7, h8⟩ := hR
  have hn : ¬ ((es.l.length : Int) < (es.l.length : Int)) := by omega
  unfold lp255_0
  simp (config := { maxDischargeDepth := 80 }) only [loopsOf, bd255, Tryz.f255, List.getD_cons_zero, List.getD_cons_succ, List.nil_append, List.cons_append, List.append_nil, evCode, evReg, evL, wantedV, evOp, argOf, cp, binV, intBin, putF, rd_setF, Option.map_some, Option.bind_some, if_true, Bool.true_or, decide_true, toB, takeS_pf, takeS_c, if_false, Pf.p, Pf.lp, Pf.pt, Pf.cl, Pf.nv, List.all_cons, List.all_nil, Bool.and_true, constV, constCell, nf1, ld, getCells, List.length_cons, List.length_nil, Nat.reduceEqDiff, reduceIte, Nat.reduceAdd, Nat.reduceLeDiff, List.take_succ_cons, List.take_zero, List.drop_zero, ofCells, mkAgg, mapO, V.isP, Bool.false_or, beq_self_eq_true, Bool.false_eq_true, cpL, vc_agg, vc_pagg, vc_i, PV.cells, List.map_cons, List.map_nil, Nat.zero_add, List.getElem?_cons_zero, List.getElem?_cons_succ, ↓SL.cells, ↓SL.vcells, ↓SL.cellOk, h0, h1, h7, h8, hp, hn, decide_false]
  exact ⟨_, rfl, by simp (config := { maxDischargeDepth := 80 }) only [evCode, evReg, evL, wantedV, evOp, argOf, cp, binV, intBin, putF, rd_setF, Option.map_some, Option.bind_some, if_true, Bool.true_or, decide_true, toB, takeS_pf, takeS_c, if_false, Pf.p, Pf.lp, Pf.pt, Pf.cl, Pf.nv, List.all_cons, List.all_nil, Bool.and_true, constV, constCell, nf1, ld, getCells, List.length_cons, List.length_nil, Nat.reduceEqDiff, reduceIte, Nat.reduceAdd, Nat.reduceLeDiff, List.take_succ_cons, List.take_zero, List.drop_zero, ofCells, mkAgg, mapO, V.isP, Bool.false_or, beq_self_eq_true, Bool.false_eq_true, cpL, vc_agg, vc_pagg, vc_i, PV.cells, List.map_cons, List.map_nil, Nat.zero_add, List.getElem?_cons_zero, List.getElem?_cons_succ, ↓SL.cells, ↓SL.vcells, ↓SL.cellOk, h0, h1, h7, h8, hp]⟩

theorem loop255 (es : SL) (hes : ∀ e ∈ es.l, ∃ x, e = t1 x) (hb : es.l.length < 2 ^ 40) (h : Heap) (hm : Pm ⟨[], h⟩) (k : Nat) (hk : k < h.length) (r : PV → Bool) (d0 : Nat) (hC : ∀ d K e, d0 ≤ d → e ∈ es.l → (hand env1 d).1 K 194 [.p e, .ptr k 0] h = some (.p (.b (r e)), h)) (K : Ctx) (fr : Fr) (d : Nat) (hd : d0 + es.l.length + 1 ≤ d) (hp : Pf fr) (hR : RD fr [(0, .p (es.v)), (1, .clo (.func 194) [] [.ptr k 0]), (7, .p (.i .i64 es.l.length)), (8, .p (.i .i64 0))]) :
    ∃ fr', (es.l.any r = true ∧ (hand env1 d).2 K 255 lp255_0 ⟨fr, ⟨[], h⟩⟩ = some (.ret, ⟨fr', ⟨[], h⟩⟩) ∧ ∃ n : Nat, rd fr' 4 = .p (.i .i64 n)) ∨ (es.l.any r = false ∧ (hand env1 d).2 K 255 lp255_0 ⟨fr, ⟨[], h⟩⟩ = some (.ext 0, ⟨fr', ⟨[], h⟩⟩) ∧ Pf fr') := by
  have key := loop_find (E := env1) (K := K) (f := 255) (body := lp255_0) (m := ⟨[], h⟩) (by kernel_rfl) nil_lm es.l.length d0 0 (fun i fr => Pf fr ∧ RD fr [(0, .p (es.v)), (1, .clo (.func 194) [] [.ptr k 0]), (7, .p (.i .i64 es.l.length)), (8, .p (.i .i64 i))]) (fun fr => ∃ n : Nat, rd fr 4 = .p (.i .i64 n)) Pf (fun i => (es.l[i]?).any r)
    (fun d i fr hd hi ⟨hp, hR⟩ => by
      obtain ⟨x, he⟩ := hes es.l[i] (by simp)
      have hi' : es.l[i]? = some (t1 x) := by rw [List.getElem?_eq_getElem hi, he]
      have hin : t1 x ∈ es.l := List.mem_of_getElem? hi'
      obtain ⟨fr', e, hp', q1, q2⟩ := round255 (hand env1 d).1 (hand env1 d).2 ⟨K.ro, h.length⟩ (mask (env1.nvs 255) fr) h es i k x (r (t1 x)) hi' hb (fun K => hC d K _ hd hin) (hp.mask _) hm (hR.mask (by kernel_rfl))
      refine ⟨fr', ?_⟩
      simp only [hi', Option.any_some]
      cases hr : r (t1 x) with
      | true => rw [hr] at e q1; exact .inl ⟨rfl, e, i, q1 rfl⟩
      | false => rw [hr] at e q2; exact .inr ⟨rfl, e, hp'.drop _ _ _, (q2 rfl).drop (by simp only [List.all_cons, List.all_nil, rb, rbL, lb, lbL, hk, decide_true, Bool.and_self])⟩)
    (fun d fr hd ⟨hp, hR⟩ => exit255 (hand env1 d).1 (hand env1 d).2 ⟨K.ro, h.length⟩ (mask (env1.nvs 255) fr) h es k (hp.mask _) hm (hR.mask (by kernel_rfl)))
  obtain ⟨fr', h1 | h1⟩ := key es.l.length 0 fr d (by omega) (by omega) ⟨hp, hR⟩
  · refine ⟨fr', .inl ⟨?_, h1.2⟩⟩
    obtain ⟨j, _, hj, h2⟩ := h1.1
    rw [List.getElem?_eq_getElem hj] at h2
    exact List.any_eq_true.2 ⟨es.l[j], by simp, h2⟩
  · refine ⟨fr', .inr ⟨?_, h1.2⟩⟩
    rw [List.any_eq_false]
    intro x hx
    obtain ⟨j, hj, rfl⟩ := List.mem_iff_getElem.1 hx
    have := h1.1 j (by omega) hj
    rw [List.getElem?_eq_getElem hj] at this
    simpa using this

theorem len255 (h : Heap) (es : SL) : lenB env1.Q h 42 (.p (es.v)) = some (.p (.i .i64 es.l.length)) := by obtain ⟨l, b⟩ := es; cases b <;> cases l <;> kernel_rfl

set_option maxRecDepth 100000 in
theorem run255 (es : SL) (hes : ∀ e ∈ es.l, ∃ x, e = t1 x) (hb : es.l.length < 2 ^ 40) (h : Heap) (hm : Pm ⟨[], h⟩) (k : Nat) (hk : k < h.length) (r : PV → Bool) (d0 : Nat) (hC : ∀ d K e, d0 ≤ d → e ∈ es.l → (hand env1 d).1 K 194 [.p e, .ptr k 0] h = some (.p (.b (r e)), h)) (K : Ctx) (d : Nat) (hd : d0 + es.l.length + 2 ≤ d) :
    ∃ n : Int, (hand env1 d).1 K 255 [.p (es.v), .clo (.func 194) [] [.ptr k 0]] h = some (.p (.i .i64 n), h) ∧ decide ((0 : Int) ≤ n) = es.l.any r := by
  obtain ⟨d, rfl⟩ : ∃ d', d = d' + 1 := ⟨d - 1, by omega⟩
  have hst : Pf (start [.p (es.v), .clo (.func 194) [] [.ptr k 0]]) := Pf.start fun x hx => by
    simp only [List.mem_cons, List.mem_nil_iff, or_false] at hx
    rcases hx with rfl | rfl <;> rfl
  generalize hfr : start [.p (es.v), .clo (.func 194) [] [.ptr k 0]] = fr at hst
  have g0 : rd fr 0 = .p (es.v) := by rw [← hfr, rd_start]; rfl
  have g1 : rd fr 1 = .clo (.func 194) [] [.ptr k 0] := by rw [← hfr, rd_start]; rfl
  obtain ⟨fr', hL⟩ := loop255 es hes hb h hm k hk r d0 hC ⟨h.length, h.length⟩
    (setF (setF (setF (setF fr 4 (.p (.i .i64 0))) 6 (.p (es.v))) 7 (.p (.i .i64 es.l.length))) 8 (.p (.i .i64 0))) d (by omega)
    (hst.p.p.p.p) (by simp (config := { maxDischargeDepth := 80 }) only [RD, evCode, evReg, evL, wantedV, evOp, argOf, cp, binV, intBin, putF, rd_setF, Option.map_some, Option.bind_some, if_true, Bool.true_or, decide_true, toB, takeS_pf, takeS_c, if_false, Pf.p, Pf.lp, Pf.pt, Pf.cl, Pf.nv, List.all_cons, List.all_nil, Bool.and_true, constV, constCell, nf1, ld, getCells, List.length_cons, List.length_nil, Nat.reduceEqDiff, reduceIte, Nat.reduceAdd, Nat.reduceLeDiff, List.take_succ_cons, List.take_zero, List.drop_zero, ofCells, mkAgg, mapO, V.isP, Bool.false_or, beq_self_eq_true, Bool.false_eq_true, cpL, vc_agg, vc_pagg, vc_i, PV.cells, List.map_cons, List.map_nil, Nat.zero_add, List.getElem?_cons_zero, List.getElem?_cons_succ, ↓SL.cells, ↓SL.vcells, ↓SL.cellOk, g0, g1, and_self])
  simp (config := { maxDischargeDepth := 80 }) only [lp255_0, loopsOf, bd255, Tryz.f255, List.getD_cons_zero, List.getD_cons_succ, List.nil_append, List.cons_append, List.append_nil] at hL
  rw [hand_fn (by kernel_rfl) (show env1.Q.fn 255 = some Tryz.f255 by kernel_rfl)]
  have fin : ∀ e' fr2, evCode env1 (hand env1 d).1 (hand env1 d).2 ⟨h.length, h.length⟩ 255 bd255 ⟨fr, ⟨[], h⟩⟩ = some (e', ⟨fr2, ⟨[], h⟩⟩) → (e' = .nrm ∨ e' = .ret) → ∀ n : Int, rd fr2 4 = .p (.i .i64 n) →
      evBody env1 (hand env1 d).1 (hand env1 d).2 K 255 Tryz.f255 [.p (es.v), .clo (.func 194) [] [.ptr k 0]] h = some (.p (.i .i64 n), h) := fun e' fr2 he hx n h4 =>
    body2 (fn := Tryz.f255) (code := bd255) rfl (by kernel_rfl) rfl (by show (2 : Nat) ≤ Tryz.f255.ntmps; decide) (by rw [hfr]; exact he) hx h4
  rcases hL with ⟨hin, hL, n, h4⟩ | ⟨hout, hL, hp'⟩
  · refine ⟨n, fin .ret fr' ?_ (.inr rfl) n h4, by rw [hin]; simp⟩
    simp (config := { maxDischargeDepth := 80 }) only [bd255, Tryz.f255, evCode, evReg, evL, wantedV, evOp, argOf, cp, binV, intBin, putF, rd_setF, Option.map_some, Option.bind_some, if_true, Bool.true_or, decide_true, toB, takeS_pf, takeS_c, if_false, Pf.p, Pf.lp, Pf.pt, Pf.cl, Pf.nv, List.all_cons, List.all_nil, Bool.and_true, constV, constCell, nf1, ld, getCells, List.length_cons, List.length_nil, Nat.reduceEqDiff, reduceIte, Nat.reduceAdd, Nat.reduceLeDiff, List.take_succ_cons, List.take_zero, List.drop_zero, ofCells, mkAgg, mapO, V.isP, Bool.false_or, beq_self_eq_true, Bool.false_eq_true, cpL, vc_agg, vc_pagg, vc_i, PV.cells, List.map_cons, List.map_nil, Nat.zero_add, List.getElem?_cons_zero, List.getElem?_cons_succ, ↓SL.cells, ↓SL.vcells, ↓SL.cellOk, evCall, evBuiltin, len255, g0, g1, hst, hm, and_self, Bool.or_self, hL]
  · refine ⟨-1, fin .ret (setF fr' 4 (.p (.i .i64 (-1)))) ?_ (.inr rfl) (-1) (by simp (config := { maxDischargeDepth := 80 }) only [evCode, evReg, evL, wantedV, evOp, argOf, cp, binV, intBin, putF, rd_setF, Option.map_some, Option.bind_some, if_true, Bool.true_or, decide_true, toB, takeS_pf, takeS_c, if_false, Pf.p, Pf.lp, Pf.pt, Pf.cl, Pf.nv, List.all_cons, List.all_nil, Bool.and_true, constV, constCell, nf1, ld, getCells, List.length_cons, List.length_nil, Nat.reduceEqDiff, reduceIte, Nat.reduceAdd, Nat.reduceLeDiff, List.take_succ_cons, List.take_zero, List.drop_zero, ofCells, mkAgg, mapO, V.isP, Bool.false_or, beq_self_eq_true, Bool.false_eq_true, cpL, vc_agg, vc_pagg, vc_i, PV.cells, List.map_cons, List.map_nil, Nat.zero_add, List.getElem?_cons_zero, List.getElem?_cons_succ, ↓SL.cells, ↓SL.vcells, ↓SL.cellOk]), by rw [hout]; rfl⟩
    simp (config := { maxDischargeDepth := 80 }) only [bd255, Tryz.f255, evCode, evReg, evL, wantedV, evOp, argOf, cp, binV, intBin, putF, rd_setF, Option.map_some, Option.bind_some, if_true, Bool.true_or, decide_true, toB, takeS_pf, takeS_c, if_false, Pf.p, Pf.lp, Pf.pt, Pf.cl, Pf.nv, List.all_cons, List.all_nil, Bool.and_true, constV, constCell, nf1, ld, getCells, List.length_cons, List.length_nil, Nat.reduceEqDiff, reduceIte, Nat.reduceAdd, Nat.reduceLeDiff, List.take_succ_cons, List.take_zero, List.drop_zero, ofCells, mkAgg, mapO, V.isP, Bool.false_or, beq_self_eq_true, Bool.false_eq_true, cpL, vc_agg, vc_pagg, vc_i, PV.cells, List.map_cons, List.map_nil, Nat.zero_add, List.getElem?_cons_zero, List.getElem?_cons_succ, ↓SL.cells, ↓SL.vcells, ↓SL.cellOk, evCall, evBuiltin, len255, g0, g1, hst, hm, and_self, Bool.or_self, hL]
theorem okb256 : okFn env1.Q 256 = true := by kernel_rfl
theorem tk256 : env1.tk 256 = [] := by kernel_rfl
theorem okb255 : okFn env1.Q 255 = true := by kernel_rfl
theorem tk255 : env1.tk 255 = [] := by kernel_rfl
theorem okb193 : okFn env1.Q 193 = true := by kernel_rfl
theorem tk193 : env1.tk 193 = [] := by kernel_rfl
theorem okb195 : okFn env1.Q 195 = true := by kernel_rfl
theorem tk195 : env1.tk 195 = [] := by kernel_rfl
theorem okb108 : okFn env1.Q 108 = true := by kernel_rfl
theorem tk108 : env1.tk 108 = [] := by kernel_rfl
theorem esc108 : env1.esc 108 3 = true := by kernel_rfl

noncomputable def bd195 : Code := match Tryz.f195.body with | some c => c | none => .skip

set_option maxRecDepth 100000 in
theorem run195 (es : SL) (x : Int) (hes : ∀ e ∈ es.l, ∃ x, e = t1 x) (hb : es.l.length < 2 ^ 40) (h : Heap) (hm : Pm ⟨[], h⟩) (K : Ctx) (d : Nat) (hd : es.l.length + 3 ≤ d) :
    (hand env1 d).1 K 195 [.p (es.v), .p (.i .i64 x)] h = some (.p (.b (inL es.l (t1 x))), h) := by
  obtain ⟨d, rfl⟩ : ∃ d', d = d' + 1 := ⟨d - 1, by omega⟩
  have hst : Pf (start [.p (es.v), .p (.i .i64 x)]) := Pf.start fun x hx => by
    simp only [List.mem_cons, List.mem_nil_iff, or_false] at hx
    rcases hx with rfl | rfl <;> rfl
  generalize hfr : start [.p (es.v), .p (.i .i64 x)] = fr at hst
  have g0 : rd fr 0 = .p (es.v) := by rw [← hfr, rd_start]; rfl
  have g1 : rd fr 1 = .p (.i .i64 x) := by rw [← hfr, rd_start]; rfl
  obtain ⟨n, hn, hdec⟩ := run256' es (t1 x) ⟨x, rfl⟩ hes hb h hm ⟨h.length, h.length⟩ d (by omega)
  simp only [t1] at hn
  have hdec' : decide (n ≥ (0 : Int)) = inL es.l (t1 x) := hdec
  rw [hand_fn (by kernel_rfl) (show env1.Q.fn 195 = some Tryz.f195 by kernel_rfl)]
  have body : ∃ fr2 m2, evCode env1 (hand env1 d).1 (hand env1 d).2 ⟨h.length, h.length⟩ 195 bd195 ⟨fr, ⟨[], h⟩⟩ = some (.ret, ⟨fr2, m2⟩) ∧ rd fr2 4 = .p (.b (inL es.l (t1 x))) := by
    simp (config := { maxDischargeDepth := 80 }) only [bd195, Tryz.f195, evCode, evReg, evL, wantedV, evOp, argOf, cp, binV, intBin, putF, rd_setF, Option.map_some, Option.bind_some, if_true, Bool.true_or, decide_true, toB, takeS_pf, takeS_c, if_false, Pf.p, Pf.lp, Pf.pt, Pf.cl, Pf.nv, List.all_cons, List.all_nil, Bool.and_true, constV, constCell, nf1, ld, getCells, List.length_cons, List.length_nil, Nat.reduceEqDiff, reduceIte, Nat.reduceAdd, Nat.reduceLeDiff, List.take_succ_cons, List.take_zero, List.drop_zero, ofCells, mkAgg, mapO, V.isP, Bool.false_or, beq_self_eq_true, Bool.false_eq_true, cpL, vc_agg, vc_pagg, vc_i, PV.cells, List.map_cons, List.map_nil, Nat.zero_add, List.getElem?_cons_zero, List.getElem?_cons_succ, ↓SL.cells, ↓SL.vcells, ↓SL.cellOk, g0, g1, hst, hm, evCall, lfL, lf, argsOf, List.contains_nil, ite_self, List.nil_append, List.cons_append, List.append_nil, and_self, okb256, tk256, hn, hdec']
    exact ⟨_, _, rfl, by simp (config := { maxDischargeDepth := 80 }) only [evCode, evReg, evL, wantedV, evOp, argOf, cp, binV, intBin, putF, rd_setF, Option.map_some, Option.bind_some, if_true, Bool.true_or, decide_true, toB, takeS_pf, takeS_c, if_false, Pf.p, Pf.lp, Pf.pt, Pf.cl, Pf.nv, List.all_cons, List.all_nil, Bool.and_true, constV, constCell, nf1, ld, getCells, List.length_cons, List.length_nil, Nat.reduceEqDiff, reduceIte, Nat.reduceAdd, Nat.reduceLeDiff, List.take_succ_cons, List.take_zero, List.drop_zero, ofCells, mkAgg, mapO, V.isP, Bool.false_or, beq_self_eq_true, Bool.false_eq_true, cpL, vc_agg, vc_pagg, vc_i, PV.cells, List.map_cons, List.map_nil, Nat.zero_add, List.getElem?_cons_zero, List.getElem?_cons_succ, ↓SL.cells, ↓SL.vcells, ↓SL.cellOk, g0, g1, hst, hm, evCall, lfL, lf, argsOf, List.contains_nil, ite_self, List.nil_append, List.cons_append, List.append_nil, and_self, okb256, tk256, hn, hdec']⟩
  obtain ⟨fr2, m2, he, hv⟩ := body
  exact body2 (fn := Tryz.f195) (code := bd195) rfl (by kernel_rfl) rfl (by show (2 : Nat) ≤ Tryz.f195.ntmps; decide) (by rw [hfr]; exact he) (.inr rfl) hv

noncomputable def bd194 : Code := match Tryz.f194.body with | some c => c | none => .skip

set_option maxRecDepth 100000 in
theorem run194 (es : SL) (x : Int) (hes : ∀ e ∈ es.l, ∃ x, e = t1 x) (hb : es.l.length < 2 ^ 40) (h : Heap) (k : Nat) (hk : h[k]? = some (.var [.p (es.v)])) (hm : Pm ⟨[], h⟩) (K : Ctx) (d : Nat) (hd : es.l.length + 4 ≤ d) :
    (hand env1 d).1 K 194 [.p (.i .i64 x), .ptr k 0] h = some (.p (.b (!inL es.l (t1 x))), h) := by
  obtain ⟨d, rfl⟩ : ∃ d', d = d' + 1 := ⟨d - 1, by omega⟩
  have hst : Pf (start [.p (.i .i64 x), .ptr k 0]) := Pf.start fun x hx => by
    simp only [List.mem_cons, List.mem_nil_iff, or_false] at hx
    rcases hx with rfl | rfl <;> rfl
  generalize hfr : start [.p (.i .i64 x), .ptr k 0] = fr at hst
  have g0 : rd fr 0 = .p (.i .i64 x) := by rw [← hfr, rd_start]; rfl
  have g1 : rd fr 1 = .ptr k 0 := by rw [← hfr, rd_start]; rfl
  have hn : (hand env1 d).1 ⟨h.length, h.length⟩ 195 [.p (es.v), .p (.i .i64 x)] h = some (.p (.b (inL es.l (t1 x))), h) := run195 es x hes hb h hm _ d (by omega)
  rw [hand_fn (by kernel_rfl) (show env1.Q.fn 194 = some Tryz.f194 by kernel_rfl)]
  have body : ∃ fr2 m2, evCode env1 (hand env1 d).1 (hand env1 d).2 ⟨h.length, h.length⟩ 194 bd194 ⟨fr, ⟨[], h⟩⟩ = some (.ret, ⟨fr2, m2⟩) ∧ rd fr2 3 = .p (.b (!inL es.l (t1 x))) := by
    simp (config := { maxDischargeDepth := 80 }) only [bd194, Tryz.f194, evCode, evReg, evL, wantedV, evOp, argOf, cp, binV, intBin, putF, rd_setF, Option.map_some, Option.bind_some, if_true, Bool.true_or, decide_true, toB, takeS_pf, takeS_c, if_false, Pf.p, Pf.lp, Pf.pt, Pf.cl, Pf.nv, List.all_cons, List.all_nil, Bool.and_true, constV, constCell, nf1, ld, getCells, List.length_cons, List.length_nil, Nat.reduceEqDiff, reduceIte, Nat.reduceAdd, Nat.reduceLeDiff, List.take_succ_cons, List.take_zero, List.drop_zero, ofCells, mkAgg, mapO, V.isP, Bool.false_or, beq_self_eq_true, Bool.false_eq_true, cpL, vc_agg, vc_pagg, vc_i, PV.cells, List.map_cons, List.map_nil, Nat.zero_add, List.getElem?_cons_zero, List.getElem?_cons_succ, ↓SL.cells, ↓SL.vcells, ↓SL.cellOk, g0, g1, hst, hm, evCall, lfL, lf, argsOf, List.contains_nil, ite_self, List.nil_append, List.cons_append, List.append_nil, and_self, unV, hk, okb195, tk195, hn, z42, a42]
    exact ⟨_, _, rfl, by simp (config := { maxDischargeDepth := 80 }) only [evCode, evReg, evL, wantedV, evOp, argOf, cp, binV, intBin, putF, rd_setF, Option.map_some, Option.bind_some, if_true, Bool.true_or, decide_true, toB, takeS_pf, takeS_c, if_false, Pf.p, Pf.lp, Pf.pt, Pf.cl, Pf.nv, List.all_cons, List.all_nil, Bool.and_true, constV, constCell, nf1, ld, getCells, List.length_cons, List.length_nil, Nat.reduceEqDiff, reduceIte, Nat.reduceAdd, Nat.reduceLeDiff, List.take_succ_cons, List.take_zero, List.drop_zero, ofCells, mkAgg, mapO, V.isP, Bool.false_or, beq_self_eq_true, Bool.false_eq_true, cpL, vc_agg, vc_pagg, vc_i, PV.cells, List.map_cons, List.map_nil, Nat.zero_add, List.getElem?_cons_zero, List.getElem?_cons_succ, ↓SL.cells, ↓SL.vcells, ↓SL.cellOk, g0, g1, hst, hm, evCall, lfL, lf, argsOf, List.contains_nil, ite_self, List.nil_append, List.cons_append, List.append_nil, and_self, unV, hk, okb195, tk195, hn, z42, a42]⟩
  obtain ⟨fr2, m2, he, hv⟩ := body
  exact body2 (fn := Tryz.f194) (code := bd194) rfl (by kernel_rfl) rfl (by show (2 : Nat) ≤ Tryz.f194.ntmps; decide) (by rw [hfr]; exact he) (.inr rfl) hv

noncomputable def bd193 : Code := match Tryz.f193.body with | some c => c | none => .skip

set_option maxRecDepth 100000 in
theorem run193 (es : SL) (hes : ∀ e ∈ es.l, ∃ x, e = t1 x) (hb : es.l.length < 2 ^ 40) (h : Heap) (hm : Pm ⟨[], h⟩) (k : Nat) (hk : k < h.length) (r : PV → Bool) (d0 : Nat) (hC : ∀ d K e, d0 ≤ d → e ∈ es.l → (hand env1 d).1 K 194 [.p e, .ptr k 0] h = some (.p (.b (r e)), h)) (K : Ctx) (d : Nat) (hd : d0 + es.l.length + 3 ≤ d) :
    (hand env1 d).1 K 193 [.p (es.v), .clo (.func 194) [] [.ptr k 0]] h = some (.p (.b (es.l.any r)), h) := by
  obtain ⟨d, rfl⟩ : ∃ d', d = d' + 1 := ⟨d - 1, by omega⟩
  have hst : Pf (start [.p (es.v), .clo (.func 194) [] [.ptr k 0]]) := Pf.start fun x hx => by
    simp only [List.mem_cons, List.mem_nil_iff, or_false] at hx
    rcases hx with rfl | rfl <;> rfl
  generalize hfr : start [.p (es.v), .clo (.func 194) [] [.ptr k 0]] = fr at hst
  have g0 : rd fr 0 = .p (es.v) := by rw [← hfr, rd_start]; rfl
  have g1 : rd fr 1 = .clo (.func 194) [] [.ptr k 0] := by rw [← hfr, rd_start]; rfl
  obtain ⟨n, hn, hdec⟩ := run255 es hes hb h hm k hk r d0 hC ⟨h.length, h.length⟩ d (by omega)
  have hdec' : decide (n ≥ (0 : Int)) = es.l.any r := hdec
  rw [hand_fn (by kernel_rfl) (show env1.Q.fn 193 = some Tryz.f193 by kernel_rfl)]
  have body : ∃ fr2 m2, evCode env1 (hand env1 d).1 (hand env1 d).2 ⟨h.length, h.length⟩ 193 bd193 ⟨fr, ⟨[], h⟩⟩ = some (.ret, ⟨fr2, m2⟩) ∧ rd fr2 4 = .p (.b (es.l.any r)) := by
    simp (config := { maxDischargeDepth := 80 }) only [bd193, Tryz.f193, evCode, evReg, evL, wantedV, evOp, argOf, cp, binV, intBin, putF, rd_setF, Option.map_some, Option.bind_some, if_true, Bool.true_or, decide_true, toB, takeS_pf, takeS_c, if_false, Pf.p, Pf.lp, Pf.pt, Pf.cl, Pf.nv, List.all_cons, List.all_nil, Bool.and_true, constV, constCell, nf1, ld, getCells, List.length_cons, List.length_nil, Nat.reduceEqDiff, reduceIte, Nat.reduceAdd, Nat.reduceLeDiff, List.take_succ_cons, List.take_zero, List.drop_zero, ofCells, mkAgg, mapO, V.isP, Bool.false_or, beq_self_eq_true, Bool.false_eq_true, cpL, vc_agg, vc_pagg, vc_i, PV.cells, List.map_cons, List.map_nil, Nat.zero_add, List.getElem?_cons_zero, List.getElem?_cons_succ, ↓SL.cells, ↓SL.vcells, ↓SL.cellOk, g0, g1, hst, hm, evCall, lfL, lf, argsOf, List.contains_nil, ite_self, List.nil_append, List.cons_append, List.append_nil, and_self, okb255, tk255, hn, hdec', lfL, lf]
    exact ⟨_, _, rfl, by simp (config := { maxDischargeDepth := 80 }) only [evCode, evReg, evL, wantedV, evOp, argOf, cp, binV, intBin, putF, rd_setF, Option.map_some, Option.bind_some, if_true, Bool.true_or, decide_true, toB, takeS_pf, takeS_c, if_false, Pf.p, Pf.lp, Pf.pt, Pf.cl, Pf.nv, List.all_cons, List.all_nil, Bool.and_true, constV, constCell, nf1, ld, getCells, List.length_cons, List.length_nil, Nat.reduceEqDiff, reduceIte, Nat.reduceAdd, Nat.reduceLeDiff, List.take_succ_cons, List.take_zero, List.drop_zero, ofCells, mkAgg, mapO, V.isP, Bool.false_or, beq_self_eq_true, Bool.false_eq_true, cpL, vc_agg, vc_pagg, vc_i, PV.cells, List.map_cons, List.map_nil, Nat.zero_add, List.getElem?_cons_zero, List.getElem?_cons_succ, ↓SL.cells, ↓SL.vcells, ↓SL.cellOk, g0, g1, hst, hm, evCall, lfL, lf, argsOf, List.contains_nil, ite_self, List.nil_append, List.cons_append, List.append_nil, and_self, okb255, tk255, hn, hdec', lfL, lf]⟩
  obtain ⟨fr2, m2, he, hv⟩ := body
  exact body2 (fn := Tryz.f193) (code := bd193) rfl (by kernel_rfl) rfl (by show (2 : Nat) ≤ Tryz.f193.ntmps; decide) (by rw [hfr]; exact he) (.inr rfl) hv

noncomputable def bd108 : Code := match Tryz.f108.body with | some c => c | none => .skip

set_option maxRecDepth 100000 in
theorem run108 (es bs : SL) (hes : ∀ e ∈ es.l, ∃ x, e = t1 x) (hb : es.l.length < 2 ^ 40) (hbs : ∀ e ∈ bs.l, ∃ x, e = t1 x) (hbb : bs.l.length < 2 ^ 40) (h : Heap) (hm : Pm ⟨[], h⟩) (K : Ctx) (d : Nat) (hd : bs.l.length + es.l.length + 8 ≤ d) :
    (hand env1 d).1 K 108 [.p (es.v), .p (bs.v)] h = some (.p (.b (allL es.l bs.l)), h) := by
  obtain ⟨d, rfl⟩ : ∃ d', d = d' + 1 := ⟨d - 1, by omega⟩
  have hst : Pf (start [.p (es.v), .p (bs.v)]) := Pf.start fun x hx => by
    simp only [List.mem_cons, List.mem_nil_iff, or_false] at hx
    rcases hx with rfl | rfl <;> rfl
  generalize hfr : start [.p (es.v), .p (bs.v)] = fr at hst
  have g0 : rd fr 0 = .p (es.v) := by rw [← hfr, rd_start]; rfl
  have g1 : rd fr 1 = .p (bs.v) := by rw [← hfr, rd_start]; rfl
  have hm1 : Pm ⟨[], h ++ [.var [.p (bs.v)]]⟩ := ⟨hm.l, fun x hx => by
    rcases List.mem_append.1 hx with hx | hx
    · exact hm.h x hx
    · simp at hx; subst hx; rfl⟩
  have hn : (hand env1 d).1 ⟨h.length, h.length⟩ 193 [.p (es.v), .clo (.func 194) [] [.ptr h.length 0]] (h ++ [.var [.p (bs.v)]]) = some (.p (.b (es.l.any fun e => !inL bs.l e)), h ++ [.var [.p (bs.v)]]) :=
    run193 es hes hb _ hm1 h.length (by simp) (fun e => !inL bs.l e) (bs.l.length + 4) (fun d K e hd he => by
      obtain ⟨x, rfl⟩ := hes e he
      exact run194 bs x hbs hbb _ h.length (by simp) hm1 K d hd) _ d (by omega)
  have hall : (!es.l.any fun e => !inL bs.l e) = allL es.l bs.l := by unfold allL; rw [List.not_any_eq_all_not]; simp
  rw [hand_fn (by kernel_rfl) (show env1.Q.fn 108 = some Tryz.f108 by kernel_rfl)]
  have body : ∃ fr2 m2, evCode env1 (hand env1 d).1 (hand env1 d).2 ⟨h.length, h.length⟩ 108 bd108 ⟨fr, ⟨[], h⟩⟩ = some (.ret, ⟨fr2, m2⟩) ∧ rd fr2 4 = .p (.b (allL es.l bs.l)) := by
    simp (config := { maxDischargeDepth := 80 }) only [bd108, Tryz.f108, evCode, evReg, evL, wantedV, evOp, argOf, cp, binV, intBin, putF, rd_setF, Option.map_some, Option.bind_some, if_true, Bool.true_or, decide_true, toB, takeS_pf, takeS_c, if_false, Pf.p, Pf.lp, Pf.pt, Pf.cl, Pf.nv, List.all_cons, List.all_nil, Bool.and_true, constV, constCell, nf1, ld, getCells, List.length_cons, List.length_nil, Nat.reduceEqDiff, reduceIte, Nat.reduceAdd, Nat.reduceLeDiff, List.take_succ_cons, List.take_zero, List.drop_zero, ofCells, mkAgg, mapO, V.isP, Bool.false_or, beq_self_eq_true, Bool.false_eq_true, cpL, vc_agg, vc_pagg, vc_i, PV.cells, List.map_cons, List.map_nil, Nat.zero_add, List.getElem?_cons_zero, List.getElem?_cons_succ, ↓SL.cells, ↓SL.vcells, ↓SL.cellOk, g0, g1, hst, hm, evCall, lfL, lf, argsOf, List.contains_nil, ite_self, List.nil_append, List.cons_append, List.append_nil, and_self, okb193, tk193, hn, hall, unV, newVarV, esc108, V.cellOk, z42, a42, Option.getD_some, List.nil_append, Bool.or_true, hm1, List.map_nil, List.map_cons, Array.toList]
    exact ⟨_, _, rfl, by simp (config := { maxDischargeDepth := 80 }) only [evCode, evReg, evL, wantedV, evOp, argOf, cp, binV, intBin, putF, rd_setF, Option.map_some, Option.bind_some, if_true, Bool.true_or, decide_true, toB, takeS_pf, takeS_c, if_false, Pf.p, Pf.lp, Pf.pt, Pf.cl, Pf.nv, List.all_cons, List.all_nil, Bool.and_true, constV, constCell, nf1, ld, getCells, List.length_cons, List.length_nil, Nat.reduceEqDiff, reduceIte, Nat.reduceAdd, Nat.reduceLeDiff, List.take_succ_cons, List.take_zero, List.drop_zero, ofCells, mkAgg, mapO, V.isP, Bool.false_or, beq_self_eq_true, Bool.false_eq_true, cpL, vc_agg, vc_pagg, vc_i, PV.cells, List.map_cons, List.map_nil, Nat.zero_add, List.getElem?_cons_zero, List.getElem?_cons_succ, ↓SL.cells, ↓SL.vcells, ↓SL.cellOk, g0, g1, hst, hm, evCall, lfL, lf, argsOf, List.contains_nil, ite_self, List.nil_append, List.cons_append, List.append_nil, and_self, okb193, tk193, hn, hall, unV, newVarV, esc108, V.cellOk, z42, a42, Option.getD_some, List.nil_append, Bool.or_true, hm1, List.map_nil, List.map_cons, Array.toList]⟩
  obtain ⟨fr2, m2, he, hv⟩ := body
  exact body2 (fn := Tryz.f108) (code := bd108) rfl (by kernel_rfl) rfl (by show (2 : Nat) ≤ Tryz.f108.ntmps; decide) (by rw [hfr]; exact he) (.inr rfl) hv

noncomputable def bd111 : Code := match Tryz.f111.body with | some c => c | none => .skip
noncomputable def lp111_0 : Code := (loopsOf bd111).getD 0 .skip
theorem len111 (h : Heap) (es : SL) : lenB env1.Q h 42 (.p (es.v)) = some (.p (.i .i64 es.l.length)) := by obtain ⟨l, b⟩ := es; cases b <;> cases l <;> kernel_rfl

set_option maxRecDepth 100000 in
theorem round111_0 (C : Handler) (L : LHandler) (K : Ctx) (fr : Fr) (h : Heap) (es : SL) (i : Nat) (a : Int) (x : Int) (hi : es.l[i]? = some (t1 x)) (hb : es.l.length < 2 ^ 40)  (hp : Pf fr) (hm : Pm ⟨[], h⟩) (hR : RD fr [(0, .p (es.v)), (1, .p (.i .i64 a)), (5, .p (.i .i64 i))]) :
    ∃ fr', evCode env1 C L K 111 lp111_0 ⟨fr, ⟨[], h⟩⟩ = some (if (x == a) then .ret else .nrm, ⟨fr', ⟨[], h⟩⟩) ∧ Pf fr' ∧ ((x == a) = true → rd fr' 4 = .p (.b true)) ∧ ((x == a) = false → RD fr' [(0, .p (es.v)), (1, .p (.i .i64 a)), (5, .p (.i .i64 (i + 1 : Nat)))]) := by
  simp only [RD, and_true] at hR
  obtain ⟨h0, h1, h5⟩ := hR
  have hlt : i < es.l.length := lt_of_get hi
  have hlt' : (i : Int) < (es.l.length : Int) := by omega
  have hix := ixa256 (h := h) hi
  have hw := wrap_nat hlt hb
  unfold lp111_0
  simp (config := { maxDischargeDepth := 80 }) only [loopsOf, bd111, Tryz.f111, List.getD_cons_zero, List.getD_cons_succ, List.nil_append, List.cons_append, List.append_nil, evCode, evReg, evL, wantedV, evOp, argOf, cp, binV, intBin, putF, rd_setF, Option.map_some, Option.bind_some, if_true, Bool.true_or, decide_true, toB, takeS_pf, takeS_c, if_false, Pf.p, Pf.lp, Pf.pt, Pf.cl, Pf.nv, List.all_cons, List.all_nil, Bool.and_true, constV, constCell, nf1, ld, getCells, List.length_cons, List.length_nil, Nat.reduceEqDiff, reduceIte, Nat.reduceAdd, Nat.reduceLeDiff, List.take_succ_cons, List.take_zero, List.drop_zero, ofCells, mkAgg, mapO, V.isP, Bool.false_or, beq_self_eq_true, Bool.false_eq_true, cpL, vc_agg, vc_pagg, vc_i, PV.cells, List.map_cons, List.map_nil, Nat.zero_add, List.getElem?_cons_zero, List.getElem?_cons_succ, ↓SL.cells, ↓SL.vcells, ↓SL.cellOk, h0, h1, h5, hix, hlt', evCall, evBuiltin, len111, u42, z3, a3, hp, hm]
  cases hE : (x == a)
  · simp (config := { maxDischargeDepth := 80 }) only [hE, Bool.not_true, Bool.not_false, if_true, if_false, evCode, evReg, evL, wantedV, evOp, argOf, cp, binV, intBin, putF, rd_setF, Option.map_some, Option.bind_some, if_true, Bool.true_or, decide_true, toB, takeS_pf, takeS_c, if_false, Pf.p, Pf.lp, Pf.pt, Pf.cl, Pf.nv, List.all_cons, List.all_nil, Bool.and_true, constV, constCell, nf1, ld, getCells, List.length_cons, List.length_nil, Nat.reduceEqDiff, reduceIte, Nat.reduceAdd, Nat.reduceLeDiff, List.take_succ_cons, List.take_zero, List.drop_zero, ofCells, mkAgg, mapO, V.isP, Bool.false_or, beq_self_eq_true, Bool.false_eq_true, cpL, vc_agg, vc_pagg, vc_i, PV.cells, List.map_cons, List.map_nil, Nat.zero_add, List.getElem?_cons_zero, List.getElem?_cons_succ, ↓SL.cells, ↓SL.vcells, ↓SL.cellOk, h0, h1, h5, hix, hlt', evCall, evBuiltin, len111, u42, z3, a3, hp, hm]
    refine ⟨_, rfl, ?_, fun h => (by cases h), fun _ => ?_⟩
    · simp (config := { maxDischargeDepth := 80 }) only [evCode, evReg, evL, wantedV, evOp, argOf, cp, binV, intBin, putF, rd_setF, Option.map_some, Option.bind_some, if_true, Bool.true_or, decide_true, toB, takeS_pf, takeS_c, if_false, Pf.p, Pf.lp, Pf.pt, Pf.cl, Pf.nv, List.all_cons, List.all_nil, Bool.and_true, constV, constCell, nf1, ld, getCells, List.length_cons, List.length_nil, Nat.reduceEqDiff, reduceIte, Nat.reduceAdd, Nat.reduceLeDiff, List.take_succ_cons, List.take_zero, List.drop_zero, ofCells, mkAgg, mapO, V.isP, Bool.false_or, beq_self_eq_true, Bool.false_eq_true, cpL, vc_agg, vc_pagg, vc_i, PV.cells, List.map_cons, List.map_nil, Nat.zero_add, List.getElem?_cons_zero, List.getElem?_cons_succ, ↓SL.cells, ↓SL.vcells, ↓SL.cellOk, h0, h1, h5, hix, hlt', evCall, evBuiltin, len111, u42, z3, a3, hp, hm]
    · simp (config := { maxDischargeDepth := 80 }) only [RD, evCode, evReg, evL, wantedV, evOp, argOf, cp, binV, intBin, putF, rd_setF, Option.map_some, Option.bind_some, if_true, Bool.true_or, decide_true, toB, takeS_pf, takeS_c, if_false, Pf.p, Pf.lp, Pf.pt, Pf.cl, Pf.nv, List.all_cons, List.all_nil, Bool.and_true, constV, constCell, nf1, ld, getCells, List.length_cons, List.length_nil, Nat.reduceEqDiff, reduceIte, Nat.reduceAdd, Nat.reduceLeDiff, List.take_succ_cons, List.take_zero, List.drop_zero, ofCells, mkAgg, mapO, V.isP, Bool.false_or, beq_self_eq_true, Bool.false_eq_true, cpL, vc_agg, vc_pagg, vc_i, PV.cells, List.map_cons, List.map_nil, Nat.zero_add, List.getElem?_cons_zero, List.getElem?_cons_succ, ↓SL.cells, ↓SL.vcells, ↓SL.cellOk, h0, h1, h5, hix, hlt', evCall, evBuiltin, len111, u42, z3, a3, hp, hm, hw, and_self]
  · simp (config := { maxDischargeDepth := 80 }) only [hE, Bool.not_true, Bool.not_false, if_true, if_false, evCode, evReg, evL, wantedV, evOp, argOf, cp, binV, intBin, putF, rd_setF, Option.map_some, Option.bind_some, if_true, Bool.true_or, decide_true, toB, takeS_pf, takeS_c, if_false, Pf.p, Pf.lp, Pf.pt, Pf.cl, Pf.nv, List.all_cons, List.all_nil, Bool.and_true, constV, constCell, nf1, ld, getCells, List.length_cons, List.length_nil, Nat.reduceEqDiff, reduceIte, Nat.reduceAdd, Nat.reduceLeDiff, List.take_succ_cons, List.take_zero, List.drop_zero, ofCells, mkAgg, mapO, V.isP, Bool.false_or, beq_self_eq_true, Bool.false_eq_true, cpL, vc_agg, vc_pagg, vc_i, PV.cells, List.map_cons, List.map_nil, Nat.zero_add, List.getElem?_cons_zero, List.getElem?_cons_succ, ↓SL.cells, ↓SL.vcells, ↓SL.cellOk, h0, h1, h5, hix, hlt', evCall, evBuiltin, len111, u42, z3, a3, hp, hm]
    refine ⟨_, rfl, ?_, fun _ => ?_, fun h => (by cases h)⟩
    · simp (config := { maxDischargeDepth := 80 }) only [evCode, evReg, evL, wantedV, evOp, argOf, cp, binV, intBin, putF, rd_setF, Option.map_some, Option.bind_some, if_true, Bool.true_or, decide_true, toB, takeS_pf, takeS_c, if_false, Pf.p, Pf.lp, Pf.pt, Pf.cl, Pf.nv, List.all_cons, List.all_nil, Bool.and_true, constV, constCell, nf1, ld, getCells, List.length_cons, List.length_nil, Nat.reduceEqDiff, reduceIte, Nat.reduceAdd, Nat.reduceLeDiff, List.take_succ_cons, List.take_zero, List.drop_zero, ofCells, mkAgg, mapO, V.isP, Bool.false_or, beq_self_eq_true, Bool.false_eq_true, cpL, vc_agg, vc_pagg, vc_i, PV.cells, List.map_cons, List.map_nil, Nat.zero_add, List.getElem?_cons_zero, List.getElem?_cons_succ, ↓SL.cells, ↓SL.vcells, ↓SL.cellOk, h0, h1, h5, hix, hlt', evCall, evBuiltin, len111, u42, z3, a3, hp, hm]
    · simp (config := { maxDischargeDepth := 80 }) only [evCode, evReg, evL, wantedV, evOp, argOf, cp, binV, intBin, putF, rd_setF, Option.map_some, Option.bind_some, if_true, Bool.true_or, decide_true, toB, takeS_pf, takeS_c, if_false, Pf.p, Pf.lp, Pf.pt, Pf.cl, Pf.nv, List.all_cons, List.all_nil, Bool.and_true, constV, constCell, nf1, ld, getCells, List.length_cons, List.length_nil, Nat.reduceEqDiff, reduceIte, Nat.reduceAdd, Nat.reduceLeDiff, List.take_succ_cons, List.take_zero, List.drop_zero, ofCells, mkAgg, mapO, V.isP, Bool.false_or, beq_self_eq_true, Bool.false_eq_true, cpL, vc_agg, vc_pagg, vc_i, PV.cells, List.map_cons, List.map_nil, Nat.zero_add, List.getElem?_cons_zero, List.getElem?_cons_succ, ↓SL.cells, ↓SL.vcells, ↓SL.cellOk, h0, h1, h5, hix, hlt', evCall, evBuiltin, len111, u42, z3, a3, hp, hm]

set_option maxRecDepth 100000 in
theorem exit111_0 (C : Handler) (L : LHandler) (K : Ctx) (fr : Fr) (h : Heap) (es : SL) (a : Int) (hp : Pf fr) (hm : Pm ⟨[], h⟩) (hR : RD fr [(0, .p (es.v)), (1, .p (.i .i64 a)), (5, .p (.i .i64 es.l.length))]) :
    ∃ fr', evCode env1 C L K 111 lp111_0 ⟨fr, ⟨[], h⟩⟩ = some (.ext 0, ⟨fr', ⟨[], h⟩⟩) ∧ Pf fr' ∧ RD fr' [] := by
  simp only [RD, and_true] at hR
  obtain ⟨h0, h1, h5⟩ := hR
  have hn : ¬ ((es.l.length : Int) < (es.l.length : Int)) := by omega
  unfold lp111_0
  simp (config := { maxDischargeDepth := 80 }) only [loopsOf, bd111, Tryz.f111, List.getD_cons_zero, List.getD_cons_succ, List.nil_append, List.cons_append, List.append_nil, evCode, evReg, evL, wantedV, evOp, argOf, cp, binV, intBin, putF, rd_setF, Option.map_some, Option.bind_some, if_true, Bool.true_or, decide_true, toB, takeS_pf, takeS_c, if_false, Pf.p, Pf.lp, Pf.pt, Pf.cl, Pf.nv, List.all_cons, List.all_nil, Bool.and_true, constV, constCell, nf1, ld, getCells, List.length_cons, List.length_nil, Nat.reduceEqDiff, reduceIte, Nat.reduceAdd, Nat.reduceLeDiff, List.take_succ_cons, List.take_zero, List.drop_zero, ofCells, mkAgg, mapO, V.isP, Bool.false_or, beq_self_eq_true, Bool.false_eq_true, cpL, vc_agg, vc_pagg, vc_i, PV.cells, List.map_cons, List.map_nil, Nat.zero_add, List.getElem?_cons_zero, List.getElem?_cons_succ, ↓SL.cells, ↓SL.vcells, ↓SL.cellOk, h0, h1, h5, evCall, evBuiltin, len111, hp, hm, hn, decide_false]
  exact ⟨_, rfl, by simp (config := { maxDischargeDepth := 80 }) only [evCode, evReg, evL, wantedV, evOp, argOf, cp, binV, intBin, putF, rd_setF, Option.map_some, Option.bind_some, if_true, Bool.true_or, decide_true, toB, takeS_pf, takeS_c, if_false, Pf.p, Pf.lp, Pf.pt, Pf.cl, Pf.nv, List.all_cons, List.all_nil, Bool.and_true, constV, constCell, nf1, ld, getCells, List.length_cons, List.length_nil, Nat.reduceEqDiff, reduceIte, Nat.reduceAdd, Nat.reduceLeDiff, List.take_succ_cons, List.take_zero, List.drop_zero, ofCells, mkAgg, mapO, V.isP, Bool.false_or, beq_self_eq_true, Bool.false_eq_true, cpL, vc_agg, vc_pagg, vc_i, PV.cells, List.map_cons, List.map_nil, Nat.zero_add, List.getElem?_cons_zero, List.getElem?_cons_succ, ↓SL.cells, ↓SL.vcells, ↓SL.cellOk, h0, h1, h5, evCall, evBuiltin, len111, hp, hm], by simp (config := { maxDischargeDepth := 80 }) only [RD, evCode, evReg, evL, wantedV, evOp, argOf, cp, binV, intBin, putF, rd_setF, Option.map_some, Option.bind_some, if_true, Bool.true_or, decide_true, toB, takeS_pf, takeS_c, if_false, Pf.p, Pf.lp, Pf.pt, Pf.cl, Pf.nv, List.all_cons, List.all_nil, Bool.and_true, constV, constCell, nf1, ld, getCells, List.length_cons, List.length_nil, Nat.reduceEqDiff, reduceIte, Nat.reduceAdd, Nat.reduceLeDiff, List.take_succ_cons, List.take_zero, List.drop_zero, ofCells, mkAgg, mapO, V.isP, Bool.false_or, beq_self_eq_true, Bool.false_eq_true, cpL, vc_agg, vc_pagg, vc_i, PV.cells, List.map_cons, List.map_nil, Nat.zero_add, List.getElem?_cons_zero, List.getElem?_cons_succ, ↓SL.cells, ↓SL.vcells, ↓SL.cellOk, h0, h1, h5, evCall, evBuiltin, len111, hp, hm, and_self]⟩

theorem loop111_0 (es : SL) (a : Int) (hes : ∀ e ∈ es.l, ∃ x, e = t1 x) (hb : es.l.length < 2 ^ 40) (h : Heap) (hm : Pm ⟨[], h⟩)  (K : Ctx) (fr : Fr) (d : Nat) (hd : 0 + es.l.length + 1 ≤ d) (hp : Pf fr) (hR : RD fr [(0, .p (es.v)), (1, .p (.i .i64 a)), (5, .p (.i .i64 0))]) :
    ∃ fr', (es.l.any (eqP (t1 a)) = true ∧ (hand env1 d).2 K 111 lp111_0 ⟨fr, ⟨[], h⟩⟩ = some (.ret, ⟨fr', ⟨[], h⟩⟩) ∧ ∃ i : Nat, rd fr' 4 = .p (.b true)) ∨ (es.l.any (eqP (t1 a)) = false ∧ (hand env1 d).2 K 111 lp111_0 ⟨fr, ⟨[], h⟩⟩ = some (.ext 0, ⟨fr', ⟨[], h⟩⟩) ∧ Pf fr' ∧ RD fr' []) := by
  have key := loop_find (E := env1) (K := K) (f := 111) (body := lp111_0) (m := ⟨[], h⟩) (by kernel_rfl) nil_lm es.l.length 0 0 (fun i fr => Pf fr ∧ RD fr [(0, .p (es.v)), (1, .p (.i .i64 a)), (5, .p (.i .i64 i))]) (fun fr => ∃ i : Nat, rd fr 4 = .p (.b true)) (fun fr => Pf fr ∧ RD fr []) (fun i => (es.l[i]?).any (eqP (t1 a)))
    (fun d i fr hd hi ⟨hp, hR⟩ => by
      obtain ⟨x, he⟩ := hes es.l[i] (by simp)
      have hi' : es.l[i]? = some (t1 x) := by rw [List.getElem?_eq_getElem hi, he]
      have hin : t1 x ∈ es.l := List.mem_of_getElem? hi'
      obtain ⟨fr', e, hp', q1, q2⟩ := round111_0 (hand env1 d).1 (hand env1 d).2 ⟨K.ro, h.length⟩ (mask (env1.nvs 111) fr) h es i a x hi' hb (hp.mask _) hm (hR.mask (by kernel_rfl))
      refine ⟨fr', ?_⟩
      simp only [hi', Option.any_some]
      have hr0 : ((eqP (t1 a))) (t1 x) = ((x == a)) := by unfold eqP t1; simp only [PV.i.injEq, true_and]; rw [Bool.eq_iff_iff]; simp; exact ⟨Eq.symm, Eq.symm⟩
      rw [hr0]
      cases hr : ((x == a)) with
      | true => rw [hr] at e q1; exact .inl ⟨rfl, e, i, q1 rfl⟩
      | false => rw [hr] at e q2; exact .inr ⟨rfl, e, hp'.drop _ _ _, (q2 rfl).drop (by kernel_rfl)⟩)
    (fun d fr hd ⟨hp, hR⟩ => exit111_0 (hand env1 d).1 (hand env1 d).2 ⟨K.ro, h.length⟩ (mask (env1.nvs 111) fr) h es a (hp.mask _) hm (hR.mask (by kernel_rfl)))
  obtain ⟨fr', h1 | h1⟩ := key es.l.length 0 fr d (by omega) (by omega) ⟨hp, hR⟩
  · refine ⟨fr', .inl ⟨?_, h1.2⟩⟩
    obtain ⟨j, _, hj, h2⟩ := h1.1
    rw [List.getElem?_eq_getElem hj] at h2
    exact List.any_eq_true.2 ⟨es.l[j], by simp, h2⟩
  · refine ⟨fr', .inr ⟨?_, h1.2⟩⟩
    rw [List.any_eq_false]
    intro x hx
    obtain ⟨j, hj, rfl⟩ := List.mem_iff_getElem.1 hx
    have := h1.1 j (by omega) hj
    rw [List.getElem?_eq_getElem hj] at this
    simpa using this

set_option maxRecDepth 100000 in
theorem run111 (es : SL) (a : Int) (hes : ∀ e ∈ es.l, ∃ x, e = t1 x) (hb : es.l.length < 2 ^ 40) (h : Heap) (hm : Pm ⟨[], h⟩) (K : Ctx) (d : Nat) (hd : es.l.length + 2 ≤ d) :
    (hand env1 d).1 K 111 [.p (es.v), .p (.i .i64 a)] h = some (.p (.b (inL es.l (t1 a))), h) := by
  obtain ⟨d, rfl⟩ : ∃ d', d = d' + 1 := ⟨d - 1, by omega⟩
  have hst : Pf (start [.p (es.v), .p (.i .i64 a)]) := Pf.start fun x hx => by
    simp only [List.mem_cons, List.mem_nil_iff, or_false] at hx
    rcases hx with rfl | rfl <;> rfl
  generalize hfr : start [.p (es.v), .p (.i .i64 a)] = fr at hst
  have g0 : rd fr 0 = .p (es.v) := by rw [← hfr, rd_start]; rfl
  have g1 : rd fr 1 = .p (.i .i64 a) := by rw [← hfr, rd_start]; rfl
  have hm1 := hm
  obtain ⟨fr', hL⟩ := loop111_0 es a hes hb h hm1 ⟨h.length, h.length⟩ (setF (setF fr 4 (.p (.b false))) 5 (.p (.i .i64 0))) d (by omega) (hst.p.p) (by simp (config := { maxDischargeDepth := 80 }) only [RD, evCode, evReg, evL, wantedV, evOp, argOf, cp, binV, intBin, putF, rd_setF, Option.map_some, Option.bind_some, if_true, Bool.true_or, decide_true, toB, takeS_pf, takeS_c, if_false, Pf.p, Pf.lp, Pf.pt, Pf.cl, Pf.nv, List.all_cons, List.all_nil, Bool.and_true, constV, constCell, nf1, ld, getCells, List.length_cons, List.length_nil, Nat.reduceEqDiff, reduceIte, Nat.reduceAdd, Nat.reduceLeDiff, List.take_succ_cons, List.take_zero, List.drop_zero, ofCells, mkAgg, mapO, V.isP, Bool.false_or, beq_self_eq_true, Bool.false_eq_true, cpL, vc_agg, vc_pagg, vc_i, PV.cells, List.map_cons, List.map_nil, Nat.zero_add, List.getElem?_cons_zero, List.getElem?_cons_succ, ↓SL.cells, ↓SL.vcells, ↓SL.cellOk, g0, g1, and_self, Int.natCast_zero]; try rfl)
  simp (config := { maxDischargeDepth := 80 }) only [lp111_0, loopsOf, bd111, Tryz.f111, List.getD_cons_zero, List.getD_cons_succ, List.nil_append, List.cons_append, List.append_nil] at hL
  rw [hand_fn (by kernel_rfl) (show env1.Q.fn 111 = some Tryz.f111 by kernel_rfl)]
  rw [inL_any]
  have body : ∃ fr2 m2, evCode env1 (hand env1 d).1 (hand env1 d).2 ⟨h.length, h.length⟩ 111 bd111 ⟨fr, ⟨[], h⟩⟩ = some (.ret, ⟨fr2, m2⟩) ∧ rd fr2 4 = .p (.b (es.l.any (eqP (t1 a)))) := by
    rcases hL with ⟨hin, hL, _, h4⟩ | ⟨hout, hL, hp', _⟩
    · simp (config := { maxDischargeDepth := 80 }) only [bd111, Tryz.f111, evCode, evReg, evL, wantedV, evOp, argOf, cp, binV, intBin, putF, rd_setF, Option.map_some, Option.bind_some, if_true, Bool.true_or, decide_true, toB, takeS_pf, takeS_c, if_false, Pf.p, Pf.lp, Pf.pt, Pf.cl, Pf.nv, List.all_cons, List.all_nil, Bool.and_true, constV, constCell, nf1, ld, getCells, List.length_cons, List.length_nil, Nat.reduceEqDiff, reduceIte, Nat.reduceAdd, Nat.reduceLeDiff, List.take_succ_cons, List.take_zero, List.drop_zero, ofCells, mkAgg, mapO, V.isP, Bool.false_or, beq_self_eq_true, Bool.false_eq_true, cpL, vc_agg, vc_pagg, vc_i, PV.cells, List.map_cons, List.map_nil, Nat.zero_add, List.getElem?_cons_zero, List.getElem?_cons_succ, ↓SL.cells, ↓SL.vcells, ↓SL.cellOk, evCall, evBuiltin, len111, z3, a3, g0, g1, hst, hm, hm1, and_self, hL]
      exact ⟨_, _, rfl, by rw [h4, hin]⟩
    · simp (config := { maxDischargeDepth := 80 }) only [bd111, Tryz.f111, evCode, evReg, evL, wantedV, evOp, argOf, cp, binV, intBin, putF, rd_setF, Option.map_some, Option.bind_some, if_true, Bool.true_or, decide_true, toB, takeS_pf, takeS_c, if_false, Pf.p, Pf.lp, Pf.pt, Pf.cl, Pf.nv, List.all_cons, List.all_nil, Bool.and_true, constV, constCell, nf1, ld, getCells, List.length_cons, List.length_nil, Nat.reduceEqDiff, reduceIte, Nat.reduceAdd, Nat.reduceLeDiff, List.take_succ_cons, List.take_zero, List.drop_zero, ofCells, mkAgg, mapO, V.isP, Bool.false_or, beq_self_eq_true, Bool.false_eq_true, cpL, vc_agg, vc_pagg, vc_i, PV.cells, List.map_cons, List.map_nil, Nat.zero_add, List.getElem?_cons_zero, List.getElem?_cons_succ, ↓SL.cells, ↓SL.vcells, ↓SL.cellOk, evCall, evBuiltin, len111, z3, a3, g0, g1, hst, hm, hm1, and_self, hL]
      exact ⟨_, _, rfl, by simp (config := { maxDischargeDepth := 80 }) only [evCode, evReg, evL, wantedV, evOp, argOf, cp, binV, intBin, putF, rd_setF, Option.map_some, Option.bind_some, if_true, Bool.true_or, decide_true, toB, takeS_pf, takeS_c, if_false, Pf.p, Pf.lp, Pf.pt, Pf.cl, Pf.nv, List.all_cons, List.all_nil, Bool.and_true, constV, constCell, nf1, ld, getCells, List.length_cons, List.length_nil, Nat.reduceEqDiff, reduceIte, Nat.reduceAdd, Nat.reduceLeDiff, List.take_succ_cons, List.take_zero, List.drop_zero, ofCells, mkAgg, mapO, V.isP, Bool.false_or, beq_self_eq_true, Bool.false_eq_true, cpL, vc_agg, vc_pagg, vc_i, PV.cells, List.map_cons, List.map_nil, Nat.zero_add, List.getElem?_cons_zero, List.getElem?_cons_succ, ↓SL.cells, ↓SL.vcells, ↓SL.cellOk, hout]⟩
  obtain ⟨fr2, m2, he, hv⟩ := body
  exact body2 (fn := Tryz.f111) (code := bd111) rfl (by kernel_rfl) rfl (by show (2 : Nat) ≤ Tryz.f111.ntmps; decide) (by rw [hfr]; exact he) (.inr rfl) hv

end Go.Wn
